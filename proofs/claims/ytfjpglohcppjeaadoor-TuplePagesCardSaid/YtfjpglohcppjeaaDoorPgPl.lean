/- A page's items, sizes and bytes, plainly. -/
import Derived.Test.YtfjpglohcppjeaaDoorRight
import Derived.Test.YtfjpglohcppjeaaDoorBl
import Derived.Test.YtfjpglohcppjeaaDoorUpd
import Derived.Test.YtfjpglohcppjeaaDoorOct
namespace Go.Proofs.YtfjpglohcppjeaaDoor
open Go.RowKit
set_option linter.unusedVariables false
set_option linter.unusedSimpArgs false

def itemF (ss : List ByteArray) (i : Int) : ByteArray := if i < 0 then ByteArray.empty else ss.getD i.toNat ByteArray.empty
theorem item_get (ss : List ByteArray) (i : Nat) : itemF ss i = ss.getD i ByteArray.empty := by
  rw [itemF, if_neg (by omega), Int.toNat_natCast]
theorem ba_inj {a b : ByteArray} (h : a.toList = b.toList) : a = b := by
  rw [ByteArray.toList_eq, ByteArray.toList_eq] at h
  cases a; cases b
  simp at h
  rw [h]
theorem toList_empty : ByteArray.empty.toList = [] := by rw [ByteArray.toList_eq]; rfl
def emp (s : ByteArray) : Bool := s.toList.isEmpty
theorem emp_iff (s : ByteArray) : emp s = true ↔ s = ByteArray.empty := by
  unfold emp
  constructor
  · intro h
    have h1 : s.toList = [] := by simpa using h
    exact ba_inj (by rw [h1, toList_empty])
  · rintro rfl; rw [toList_empty]; rfl
theorem emp_size (s : ByteArray) : emp s = true ↔ s.size = 0 := by
  rw [emp_iff]
  constructor
  · rintro rfl; rfl
  · intro h
    apply ba_inj
    rw [ByteArray.toList_eq]
    have : s.data.toList.length = 0 := by simpa using h
    rw [List.eq_nil_of_length_eq_zero this, toList_empty]
theorem trimN_emp (ss : List ByteArray) : ∀ n j, trimN ss n ≤ j → j < n → emp (itemF ss j) = true
  | 0, j, _, h => by omega
  | n + 1, j, h1, h2 => by
    rw [trimN_succ] at h1
    split at h1
    · rename_i he
      by_cases e : j = n
      · subst e; rw [item_get]; exact he
      · exact trimN_emp ss n j h1 (by omega)
    · omega
theorem trimN_last (ss : List ByteArray) : ∀ n, 0 < trimN ss n → emp (itemF ss (trimN ss n - 1 : Nat)) = false
  | 0, h => absurd h (Nat.lt_irrefl 0)
  | n + 1, h => by
    rw [trimN_succ] at h ⊢
    split
    · rename_i he; rw [if_pos he] at h; exact trimN_last ss n h
    · rename_i he
      show emp (itemF ss (n + 1 - 1 : Nat)) = false
      rw [Nat.add_sub_cancel, item_get]
      exact Bool.eq_false_iff.2 he
theorem trimN_full {ss : List ByteArray} (h : ss ≠ []) (hl : emp (ss.getLast h) = false) : trimN ss ss.length = ss.length := by
  obtain ⟨n, hn⟩ : ∃ n, ss.length = n + 1 := ⟨ss.length - 1, by have := List.length_pos_iff.2 h; omega⟩
  rw [hn, trimN_succ, if_neg]
  rw [List.getLast_eq_getElem] at hl
  have e : ss.getD n ByteArray.empty = ss[ss.length - 1]'(by omega) := by
    have : n = ss.length - 1 := by omega
    subst this
    simp [List.getD, show ss.length - 1 < ss.length by omega]
  rw [e]
  exact Bool.eq_false_iff.1 hl
theorem plain_full {ss : List ByteArray} (h : ss ≠ []) (hl : emp (ss.getLast h) = false) : plainL ss = ss := by
  rw [plainL, trimN_full h hl, List.take_length]
theorem sizeT_append (a b : List ByteArray) : sizeT (a ++ b) = sizeT a + sizeT b := by simp [sizeT]
theorem sizeT_set (l : List ByteArray) (i : Nat) (s : ByteArray) (h : i < l.length) : sizeT (l.set i s) + l[i].size = sizeT l + s.size := by
  induction l generalizing i with
  | nil => simp at h
  | cons a l ih =>
    rcases i with _ | i
    · simp [sizeT]; omega
    · have := ih i (by simpa using h)
      simp only [List.set_cons_succ, List.getElem_cons_succ]
      simp only [sizeT, List.map_cons, List.sum_cons] at this ⊢
      omega
theorem plain_get {ss : List ByteArray} {i : Nat} (h : i < (plainL ss).length) : (plainL ss)[i] = itemF ss i := by
  have hl := plainL_len ss
  have ht := trimN_le ss ss.length
  rw [item_get]
  simp [plainL, List.getD, show i < ss.length by omega]
def padTo (l : List ByteArray) (n : Nat) : List ByteArray := l ++ List.replicate (n - l.length) ByteArray.empty
/-- the items with one put in -/
def withL (ss : List ByteArray) (slot : Nat) (s : ByteArray) : List ByteArray := (padTo (plainL ss) (slot + 1)).set slot s
def putErr (k l : Int) (ss : List ByteArray) (slot : Int) (s : ByteArray) : Int :=
  if rightB k l ss = false then 22 else if slot < 0 ∨ 24 ≤ slot ∨ 400 < s.size then 21 else if 512 < sizeL (withL ss slot.toNat s) then 20 else 0
theorem right_parts {k l : Int} {ss : List ByteArray} (h : rightB k l ss = true) : (0 ≤ k ∧ k ≤ 2) ∧ (0 ≤ l ∧ l ≤ 2147483647) ∧ (ss.length ≤ 24 ∧ ∀ s ∈ ss, s.size ≤ 400) ∧ sizeL ss ≤ 512 := by
  simp only [rightB, Bool.and_eq_true, decide_eq_true_eq, Bool.not_eq_true', longB, List.any_eq_false, Nat.not_lt] at h
  exact ⟨⟨h.1, h.2.1⟩, ⟨h.2.2.1, h.2.2.2.1⟩, ⟨h.2.2.2.2.1, h.2.2.2.2.2.1⟩, h.2.2.2.2.2.2⟩
theorem small_with {ss : List ByteArray} (h : ss.length ≤ 24 ∧ ∀ s ∈ ss, s.size ≤ 400) (K : Nat) (hK : K < 24) (s : ByteArray) (hs : s.size ≤ 400) : Small (withL ss K s) := by
  have hp := plainL_len ss
  have ht := trimN_le ss ss.length
  refine ⟨by simp only [withL, padTo, List.length_set, List.length_append, List.length_replicate]; omega, fun x hx => ?_⟩
  have hx' : x = s ∨ x ∈ padTo (plainL ss) (K + 1) := by
    rcases List.mem_or_eq_of_mem_set hx with h | h
    · exact .inr h
    · exact .inl h
  rcases hx' with rfl | hx'
  · omega
  · rcases List.mem_append.1 hx' with h1 | h1
    · have := h.2 x (List.mem_of_mem_take h1); omega
    · have := (List.mem_replicate.1 h1).2
      subst this
      simp
theorem item_out {ss : List ByteArray} {i : Nat} (h : ss.length ≤ i) : itemF ss i = ByteArray.empty := by
  rw [item_get]; simp [List.getD, List.getElem?_eq_none h]
theorem item_in {ss : List ByteArray} {i : Nat} (h : i < ss.length) : itemF ss i = ss[i] := by
  rw [item_get]; simp [List.getD, h]
theorem item_plain (ss : List ByteArray) (i : Nat) : itemF (plainL ss) i = itemF ss i := by
  rcases Nat.lt_or_ge i (plainL ss).length with h | h
  · rw [item_in h, plain_get h]
  · rw [item_out h]
    rcases Nat.lt_or_ge i ss.length with g | g
    · rw [plainL_len] at h
      exact ((emp_iff _).1 (trimN_emp ss ss.length i h g)).symm
    · rw [item_out g]
theorem plain_le {ss ts : List ByteArray} (h : ∀ i : Nat, itemF ss i = itemF ts i) : (plainL ss).length ≤ (plainL ts).length := by
  rcases Nat.lt_or_ge (plainL ts).length (plainL ss).length with g | g
  · exfalso
    have h1 := trimN_last ss ss.length (by rw [← plainL_len]; omega)
    rw [← plainL_len, h, ← item_plain ts, item_out (by omega)] at h1
    rw [(emp_iff _).2 rfl] at h1
    cases h1
  · exact g
theorem plain_ext {ss ts : List ByteArray} (h : ∀ i : Nat, itemF ss i = itemF ts i) : plainL ss = plainL ts := by
  refine List.ext_getElem (Nat.le_antisymm (plain_le h) (plain_le fun i => (h i).symm)) fun i h1 h2 => ?_
  rw [plain_get h1, plain_get h2, h]
theorem plain_idem (ss : List ByteArray) : plainL (plainL ss) = plainL ss := plain_ext (item_plain ss)
theorem item_pad (l : List ByteArray) (n j : Nat) : itemF (padTo l n) j = itemF l j := by
  rcases Nat.lt_or_ge j l.length with h | h
  · rw [item_in h, item_in (by simp [padTo]; omega)]
    simp [padTo, h]
  · rw [item_out h]
    rcases Nat.lt_or_ge j (padTo l n).length with g | g
    · rw [item_in g]
      simp [padTo, List.getElem_append, Nat.not_lt.2 h]
    · rw [item_out g]
theorem item_with (ss : List ByteArray) (K : Nat) (s : ByteArray) (j : Nat) : itemF (withL ss K s) j = if j = K then s else itemF ss j := by
  have hK : K < (padTo (plainL ss) (K + 1)).length := by simp [padTo]; omega
  rw [← item_plain ss, ← item_pad (plainL ss) (K + 1) j, withL]
  by_cases h : j = K
  · subst h
    rw [if_pos rfl, item_in (by simpa using hK), List.getElem_set_self]
  · rw [if_neg h]
    rcases Nat.lt_or_ge j (padTo (plainL ss) (K + 1)).length with g | g
    · rw [item_in g, item_in (by simpa using g)]
      rw [List.getElem_set_ne (fun e => h e.symm)]
    · rw [item_out g, item_out (by simpa using g)]
theorem sizeL_ext {ss ts : List ByteArray} (h : ∀ i : Nat, itemF ss i = itemF ts i) : sizeL ss = sizeL ts := by
  unfold sizeL; rw [plain_ext h]
/-- the items behind a put -/
def putL (ss : List ByteArray) (K : Nat) (s : ByteArray) : List ByteArray := plainL (withL ss K s)
theorem item_put (ss : List ByteArray) (K : Nat) (s : ByteArray) (j : Nat) : itemF (putL ss K s) j = if j = K then s else itemF ss j := by
  rw [putL, item_plain, item_with]
theorem putL_plain (ss : List ByteArray) (K : Nat) (s : ByteArray) : plainL (putL ss K s) = putL ss K s := plain_idem _
theorem putL_ext {ss ts : List ByteArray} {K : Nat} {s : ByteArray} (ht : plainL ts = ts) (h : ∀ j : Nat, (if j = K then s else itemF ss j) = itemF ts j) : putL ss K s = ts := by
  rw [← ht, putL]
  exact plain_ext fun j => by rw [item_with]; exact h j
theorem right_small {k l : Int} {ss : List ByteArray} (h : rightB k l ss = true) : Small ss := by
  have := (right_parts h).2.2.1
  exact ⟨by omega, fun x hx => by have := this.2 x hx; omega⟩
theorem plain_plain (ss : List ByteArray) : plainL (plainL ss) = plainL ss := plain_idem ss
/-- what a page is that is made so -/
theorem right_nil {k l : Int} (h : 0 ≤ k ∧ k ≤ 2) (h' : 0 ≤ l ∧ l ≤ 2147483647) : rightB k l [] = true := by
  simp [rightB, h, h', longB, sizeL, plainL, sizeT]
theorem withL_len (ss : List ByteArray) (K : Nat) (s : ByteArray) : (withL ss K s).length = max (plainL ss).length (K + 1) := by
  simp only [withL, padTo, List.length_set, List.length_append, List.length_replicate]; omega
theorem withL_mem {ss : List ByteArray} {K : Nat} {s x : ByteArray} (h : x ∈ withL ss K s) : x = s ∨ x ∈ ss ∨ x = ByteArray.empty := by
  rcases List.mem_or_eq_of_mem_set h with h | h
  · rcases List.mem_append.1 h with h1 | h1
    · exact .inr (.inl (List.mem_of_mem_take h1))
    · exact .inr (.inr (List.mem_replicate.1 h1).2)
  · exact .inl h
theorem put_right {k l : Int} {ss : List ByteArray} {slot : Int} {s : ByteArray} (h : rightB k l ss = true) (hp : putErr k l ss slot s = 0) : rightB k l (plainL (withL ss slot.toNat s)) = true := by
  obtain ⟨hk, hl, ⟨h24, hsz⟩, _⟩ := right_parts h
  unfold putErr at hp
  rw [h, if_neg (by simp)] at hp
  split at hp
  · cases hp
  · rename_i hb
    split at hp
    · cases hp
    · rename_i hz
      have hpl := plainL_len (withL ss slot.toNat s)
      have htr := trimN_le (withL ss slot.toNat s) (withL ss slot.toNat s).length
      have hwl := withL_len ss slot.toNat s
      have hpl2 := plainL_len ss
      have htr2 := trimN_le ss ss.length
      have hz2 : sizeL (plainL (withL ss slot.toNat s)) = sizeL (withL ss slot.toNat s) := by rw [sizeL, plain_plain, sizeL]
      have hlong : longB (plainL (withL ss slot.toNat s)) = false := by
        rw [longB, List.any_eq_false]
        intro x hx
        have hx' := withL_mem (List.mem_of_mem_take hx)
        rcases hx' with rfl | hx' | rfl
        · simp; omega
        · have := hsz x hx'; simp; omega
        · simp
      simp only [rightB, Bool.and_eq_true, decide_eq_true_eq, hlong, Bool.not_false, hz2, true_and]
      exact ⟨hk.1, hk.2, hl.1, hl.2, by omega, by omega⟩
/-- a string with its length ahead -/
def textB (s : ByteArray) : ByteArray := putS s.size 2 ++ s
def adl (l : List UInt8) : Nat × Nat := l.foldl (fun ab c => ((ab.1 + c.toNat) % 65521, (ab.2 + (ab.1 + c.toNat) % 65521) % 65521)) (1, 0)
def sumF (s : ByteArray) : Nat := (adl s.data.toList).2 * 65536 + (adl s.data.toList).1
theorem adl_lt (l : List UInt8) : (adl l).1 < 65521 ∧ (adl l).2 < 65521 := by
  unfold adl
  have : ∀ (l : List UInt8) (p : Nat × Nat), p.1 < 65521 ∧ p.2 < 65521 → (l.foldl (fun ab c => ((ab.1 + c.toNat) % 65521, (ab.2 + (ab.1 + c.toNat) % 65521) % 65521)) p).1 < 65521 ∧ (l.foldl (fun ab c => ((ab.1 + c.toNat) % 65521, (ab.2 + (ab.1 + c.toNat) % 65521) % 65521)) p).2 < 65521 := by
    intro l
    induction l with
    | nil => exact fun p h => h
    | cons c l ih => exact fun p h => ih _ ⟨Nat.mod_lt _ (by omega), Nat.mod_lt _ (by omega)⟩
  exact this l (1, 0) ⟨by omega, by omega⟩
theorem adl_snoc (s : ByteArray) (k : Nat) (h : k < s.size) : adl (s.data.toList.take (k + 1)) = (((adl (s.data.toList.take k)).1 + s[k].toNat) % 65521, ((adl (s.data.toList.take k)).2 + ((adl (s.data.toList.take k)).1 + s[k].toNat) % 65521) % 65521) := by
  rw [List.take_succ_eq_append_getElem (by simpa using h), adl, List.foldl_append]
  rfl
def headL (k l n : Int) : List UInt8 := bl ((putS k 1 ++ putS l 4) ++ putS n 1)
def itemsL (I : List ByteArray) : List UInt8 := (I.map fun s => bl (textB s)).flatten
def bodyL (k l : Int) (I : List ByteArray) : List UInt8 := (headL k l I.length ++ itemsL I) ++ List.replicate (504 - (6 + sizeT I)) 0 ++ bl (putS l 4)
def bytesF (k l : Int) (I : List ByteArray) : ByteArray := putS (sumF (baOf (bodyL k l I))) 4 ++ baOf (bodyL k l I)
theorem headL_len (k l n : Int) : (headL k l n).length = 6 := by
  rw [headL, bl_len, ByteArray.size_append, ByteArray.size_append, putS_size _ _ (by omega), putS_size _ _ (by omega), putS_size _ _ (by omega)]
theorem textB_size (s : ByteArray) : (textB s).size = 2 + s.size := by rw [textB, ByteArray.size_append, putS_size _ _ (by omega)]
theorem itemsL_len (I : List ByteArray) : (itemsL I).length = sizeT I := by
  induction I with
  | nil => rfl
  | cons a I ih =>
    have e : itemsL (a :: I) = bl (textB a) ++ itemsL I := by simp [itemsL]
    have e2 : sizeT (a :: I) = (2 + a.size) + sizeT I := by simp [sizeT]
    rw [e, List.length_append, ih, bl_len, textB_size, e2]
theorem itemsL_snoc (I : List ByteArray) (j : Nat) (h : j < I.length) : itemsL (I.take (j + 1)) = itemsL (I.take j) ++ bl (textB I[j]) := by
  rw [List.take_succ_eq_append_getElem h, itemsL, List.map_append, List.flatten_append]
  simp [itemsL]
theorem bodyL_len (k l : Int) (I : List ByteArray) (h : 6 + sizeT I ≤ 504) : (bodyL k l I).length = 508 := by
  rw [bodyL, List.length_append, List.length_append, List.length_append, headL_len, itemsL_len, List.length_replicate, bl_len, putS_size _ _ (by omega)]
  omega
theorem sumF_lt (s : ByteArray) : sumF s < 4294967296 := by
  have h := adl_lt s.data.toList
  unfold sumF
  omega
theorem sizeT_take_le (I : List ByteArray) (j : Nat) : sizeT (I.take j) ≤ sizeT I := by
  have e := sizeT_append (I.take j) (I.drop j)
  rw [List.take_append_drop] at e
  omega
/-- n texts from p on, and where they end -/
def rtx (s : ByteArray) (p : Nat) : Nat → Option (List ByteArray × Nat)
  | 0 => some ([], p)
  | n + 1 => match rtx s p n with
    | some (xs, q) => if q + 2 ≤ s.size ∧ q + 2 + numS s q 2 ≤ s.size then some (xs ++ [textS s q], q + 2 + numS s q 2) else none
    | none => none
theorem body_parts (k l : Int) (I : List ByteArray) : bl (bytesF k l I) = bl (putS (sumF (baOf (bodyL k l I))) 4) ++ (bodyL k l I ++ []) := by rw [bytesF, bl_append, bl_baOf, List.append_nil]
theorem bytes_parts (k l : Int) (I : List ByteArray) : bl (bytesF k l I) = bl (putS (sumF (baOf (bodyL k l I))) 4) ++ (bl (putS k 1) ++ (bl (putS l 4) ++ (bl (putS I.length 1) ++ (itemsL I ++ (List.replicate (504 - (6 + sizeT I)) 0 ++ bl (putS l 4)))))) := by
  rw [body_parts, List.append_nil, bodyL, headL, bl_append, bl_append]
  simp only [List.append_assoc]
theorem bytesF_size (k l : Int) (I : List ByteArray) (h : 6 + sizeT I ≤ 504) : (bytesF k l I).size = 512 := by
  rw [bytesF, ByteArray.size_append, putS_size _ _ (by omega), baOf_size, bodyL_len k l I h]
theorem bytes_sum (k l : Int) (I : List ByteArray) : numS (bytesF k l I) 0 4 = sumF (baOf (bodyL k l I)) := by
  have h := sumF_lt (baOf (bodyL k l I))
  have h2 := putS_num4 (sumF (baOf (bodyL k l I))) (by omega) (by omega)
  rw [numS_at (p := 0) (a := []) (b := bl (putS (sumF (baOf (bodyL k l I))) 4)) (by rw [List.nil_append]; exact body_parts k l I) rfl (by rw [bl_len, putS_size _ _ (by omega)])]
  omega
theorem bytes_rest (k l : Int) (I : List ByteArray) (h : 6 + sizeT I ≤ 504) : (bytesF k l I).extract 4 512 = baOf (bodyL k l I) :=
  extr_at (body_parts k l I) (by rw [bl_len, putS_size _ _ (by omega)]) (by rw [bodyL_len k l I h])
theorem bytes_kind (k l : Int) (I : List ByteArray) (h0 : 0 ≤ k) (h1 : k < 256) : (numS (bytesF k l I) 4 1 : Int) = k := by
  rw [numS_at (bytes_parts k l I) (by rw [bl_len, putS_size _ _ (by omega)]) (by rw [bl_len, putS_size _ _ (by omega)])]
  exact putS_num1 k h0 h1
theorem bytes_parts5 (k l : Int) (I : List ByteArray) : bl (bytesF k l I) = (bl (putS (sumF (baOf (bodyL k l I))) 4) ++ bl (putS k 1)) ++ (bl (putS l 4) ++ (bl (putS I.length 1) ++ (itemsL I ++ (List.replicate (504 - (6 + sizeT I)) 0 ++ bl (putS l 4))))) := by
  rw [bytes_parts]; simp only [List.append_assoc]
theorem bytes_lsn (k l : Int) (I : List ByteArray) (h0 : 0 ≤ l) (h1 : l < 4294967296) : (numS (bytesF k l I) 5 4 : Int) = l := by
  rw [numS_at (bytes_parts5 k l I) (by rw [List.length_append, bl_len, bl_len, putS_size _ _ (by omega), putS_size _ _ (by omega)]) (by rw [bl_len, putS_size _ _ (by omega)])]
  exact putS_num4 l h0 h1
theorem bytes_lsn_s (k l : Int) (I : List ByteArray) : (bytesF k l I).extract 5 9 = putS l 4 := by
  rw [extr_at (bytes_parts5 k l I) (p := 5) (q := 9) (by rw [List.length_append, bl_len, bl_len, putS_size _ _ (by omega), putS_size _ _ (by omega)]) (by rw [bl_len, putS_size _ _ (by omega)]), baOf_bl]
theorem bytes_parts9 (k l : Int) (I : List ByteArray) : bl (bytesF k l I) = ((bl (putS (sumF (baOf (bodyL k l I))) 4) ++ bl (putS k 1)) ++ bl (putS l 4)) ++ (bl (putS I.length 1) ++ (itemsL I ++ (List.replicate (504 - (6 + sizeT I)) 0 ++ bl (putS l 4)))) := by
  rw [bytes_parts]; simp only [List.append_assoc]
theorem bytes_many (k l : Int) (I : List ByteArray) (h1 : I.length < 256) : numS (bytesF k l I) 9 1 = I.length := by
  have h2 := putS_num1 (I.length) (by omega) (by omega)
  rw [numS_at (bytes_parts9 k l I) (by simp only [List.length_append, bl_len]; rw [putS_size _ _ (by omega), putS_size _ _ (by omega), putS_size _ _ (by omega)]) (by rw [bl_len, putS_size _ _ (by omega)])]
  omega
theorem bytes_end (k l : Int) (I : List ByteArray) (h : 6 + sizeT I ≤ 504) : (bytesF k l I).extract 508 512 = putS l 4 := by
  have e : bl (bytesF k l I) = ((((bl (putS (sumF (baOf (bodyL k l I))) 4) ++ bl (putS k 1)) ++ bl (putS l 4)) ++ bl (putS I.length 1)) ++ itemsL I ++ List.replicate (504 - (6 + sizeT I)) 0) ++ (bl (putS l 4) ++ []) := by
    rw [bytes_parts, List.append_nil]; simp only [List.append_assoc]
  rw [extr_at e (p := 508) (q := 512) (by
    simp only [List.length_append, bl_len, itemsL_len, List.length_replicate]
    rw [putS_size _ _ (by omega), putS_size _ _ (by omega), putS_size _ _ (by omega), putS_size _ _ (by omega)]; omega) (by rw [bl_len, putS_size _ _ (by omega)]), baOf_bl]
theorem itemsL_split (I : List ByteArray) (j : Nat) (h : j < I.length) : itemsL I = itemsL (I.take j) ++ (bl (putS I[j].size 2) ++ (bl I[j] ++ itemsL (I.drop (j + 1)))) := by
  have e : I = I.take j ++ I[j] :: I.drop (j + 1) := by rw [List.getElem_cons_drop, List.take_append_drop]
  have e2 : ∀ (a b : List ByteArray) (x : ByteArray), itemsL (a ++ x :: b) = itemsL a ++ (bl (putS x.size 2) ++ (bl x ++ itemsL b)) := by
    intro a b x
    simp [itemsL, textB, bl_append]
  conv => lhs; rw [e]
  rw [e2]
theorem bytes_rtx (k l : Int) (I : List ByteArray) (h : 6 + sizeT I ≤ 504) (j : Nat) (hj : j ≤ I.length) : rtx (bytesF k l I) 10 j = some (I.take j, 10 + sizeT (I.take j)) := by
  induction j with
  | zero => simp [rtx, sizeT]
  | succ j ih =>
    have hz := bytesF_size k l I h
    have e0 := itemsL_split I j (by omega)
    obtain ⟨hd, hhd⟩ : ∃ x, x = ((bl (putS (sumF (baOf (bodyL k l I))) 4) ++ bl (putS k 1)) ++ bl (putS l 4)) ++ bl (putS I.length 1) ++ itemsL (I.take j) := ⟨_, rfl⟩
    obtain ⟨tl, htl⟩ : ∃ x, x = itemsL (I.drop (j + 1)) ++ (List.replicate (504 - (6 + sizeT I)) 0 ++ bl (putS l 4)) := ⟨_, rfl⟩
    have hl : hd.length = 10 + sizeT (I.take j) := by
      rw [hhd]
      simp only [List.length_append, bl_len, itemsL_len]
      rw [putS_size _ _ (by omega), putS_size _ _ (by omega), putS_size _ _ (by omega), putS_size _ _ (by omega)]
    have e1 : bl (bytesF k l I) = hd ++ (bl (putS I[j].size 2) ++ (bl I[j] ++ tl)) := by
      rw [bytes_parts, e0, hhd, htl]; simp only [List.append_assoc]
    have e2 : bl (bytesF k l I) = (hd ++ bl (putS I[j].size 2)) ++ (bl I[j] ++ tl) := by rw [e1, List.append_assoc]
    have hst : sizeT (I.take (j + 1)) = sizeT (I.take j) + 2 + I[j].size := by
      have a1 := itemsL_snoc I j (by omega)
      have a2 := congrArg List.length a1
      rw [List.length_append, itemsL_len, itemsL_len, bl_len, textB_size] at a2
      omega
    have hle := sizeT_take_le I (j + 1)
    have hn : numS (bytesF k l I) (10 + sizeT (I.take j)) 2 = I[j].size := by
      rw [numS_at e1 hl (by rw [bl_len, putS_size _ _ (by omega)])]
      have := putS_num2 (I[j].size) (by omega) (by omega)
      omega
    have ht : textS (bytesF k l I) (10 + sizeT (I.take j)) = I[j] := by
      rw [textS, hn, extr_at e2 (p := 10 + sizeT (I.take j) + 2) (by rw [List.length_append, hl, bl_len, putS_size _ _ (by omega)]) (by rw [bl_len]), baOf_bl]
    rw [rtx, ih (by omega)]
    simp only
    rw [hn, ht, hz, if_pos (by omega), hst, List.take_succ_eq_append_getElem (by omega), show 10 + (sizeT (I.take j) + 2 + I[j].size) = 10 + sizeT (I.take j) + 2 + I[j].size by omega]
/-- the j-th text of a page's bytes -/
theorem bytes_text (k l : Int) (I : List ByteArray) (h : 6 + sizeT I ≤ 504) (j : Nat) (hj : j < I.length) :
    10 + sizeT (I.take j) + 2 ≤ (bytesF k l I).size ∧ 10 + sizeT (I.take j) + 2 + numS (bytesF k l I) (10 + sizeT (I.take j)) 2 ≤ (bytesF k l I).size ∧
      textS (bytesF k l I) (10 + sizeT (I.take j)) = I[j] ∧ 10 + sizeT (I.take j) + 2 + numS (bytesF k l I) (10 + sizeT (I.take j)) 2 = 10 + sizeT (I.take (j + 1)) := by
  have h1 := bytes_rtx k l I h j (by omega)
  have h2 := bytes_rtx k l I h (j + 1) (by omega)
  rw [rtx, h1] at h2
  simp only at h2
  split at h2
  · rename_i hc
    have e1 := congrArg Prod.fst (Option.some.inj h2)
    have e2 := congrArg Prod.snd (Option.some.inj h2)
    have e3 : I.take j ++ [textS (bytesF k l I) (10 + sizeT (I.take j))] = I.take (j + 1) := e1
    rw [List.take_succ_eq_append_getElem hj] at e3
    have e4 := List.append_cancel_left e3
    refine ⟨hc.1, hc.2, ?_, e2⟩
    injection e4
  · cases h2

set_option maxRecDepth 100000 in
set_option maxHeartbeats 400000 in
theorem osum1_any (c a b : Nat) (A B : Nat) (w : World) (hc : c < 256) (ha : a < 65521) (hb : b < 65521) (hA : Blk w A 150 #[.int .u32 a]) (hB : Blk w B 150 #[.int .u32 b]) (hne : A ≠ B) :
    Calls Tryd.prog 124 #[.int .u8 c, .pointer (some ⟨A, 0, none⟩), .pointer (some ⟨B, 0, none⟩)] w fun e w' => e = .returned (.tuple #[]) ∧
      Blk w' A 150 #[.int .u32 ((a + c) % 65521 : Nat)] ∧ Blk w' B 150 #[.int .u32 ((b + (a + c) % 65521) % 65521 : Nat)] ∧ Upd [A, B] w w' := by
  have HA := Lib.hid hA; have HB := Lib.hid hB
  have cA : w.cell? ⟨A, 0, none⟩ = some (.int .u32 a) := hA.cell 0
  have cB : w.cell? ⟨B, 0, none⟩ = some (.int .u32 b) := hB.cell 0
  have fA := hA.frozen 0; have fB := hB.frozen 0
  have lA := hA.lt; have lB := hB.lt
  clear hA hB
  go_enter Tryd.func124, Tryd.ntmps124
  have e1 : ((a : Int) + (c : Int)) % 65521 = (((a + c) % 65521 : Nat) : Int) := by omega
  have e2 : ((b : Int) + ((a : Int) + (c : Int))) % 65521 = (((b + (a + c) % 65521) % 65521 : Nat) : Int) := by omega
  have E1 := Lib.hid e1; have E2 := Lib.hid e2
  clear e1 e2
  go_wp2
  go_end0
  rw [E1.out, E2.out]
  exact ⟨rfl, ((HA.out.set_ 0 _).far hne _), ((HB.out.far (fun e => hne e.symm) _).set_ 0 _), ((Upd.refl _ _).set (.inl (by simp)) _).set (.inl (by simp)) _⟩

set_option maxRecDepth 100000 in
set_option maxHeartbeats 1000000 in
theorem osum_any (s : ByteArray) (w : World) (hs : s.size ≤ 9223372036854775807) :
    Calls Tryd.prog 92 #[.string s] w (Ret1 (.int .u32 (sumF s)) w) := by
  go_enter Tryd.func92, Tryd.ntmps92
  go_wp2
  go_loopw [10] (fun v wr => ∃ k : Nat, v = .int .i64 k ∧ k ≤ s.size ∧ Blk wr w.heap.size 150 #[.int .u32 (adl (s.data.toList.take k)).1] ∧ Blk wr (w.heap.size + 1) 150 #[.int .u32 (adl (s.data.toList.take k)).2] ∧ Ext w wr) (fun v _ => s.size - (intOf v).toNat)
  case atStart => exact ⟨0, rfl, Nat.zero_le _, (Blk.new' rfl).alloc _, Blk.new' (by simp), ((Ext.refl w).alloc _).alloc _⟩
  case round =>
    obtain ⟨k, rfl, hk, hA, hB, hx⟩ := hrel
    have HA := Lib.hid hA; have HB := Lib.hid hB; have XR := Lib.hid hx
    have hlt := adl_lt (s.data.toList.take k)
    clear hA hB hx
    rcases Nat.lt_or_ge k s.size with hk1 | hk1
    · have HS := Lib.hid (adl_snoc s k hk1)
      obtain ⟨a, ha⟩ : ∃ a, a = (adl (s.data.toList.take k)).1 := ⟨_, rfl⟩
      obtain ⟨b, hb⟩ : ∃ b, b = (adl (s.data.toList.take k)).2 := ⟨_, rfl⟩
      rw [← ha, ← hb] at HS hlt
      rw [← ha] at HA
      rw [← hb] at HB
      have hcb : s[k].toNat < 256 := UInt8.toNat_lt _
      clear ha hb
      have hk2 : (k : Int) < (s.size : Int) := by omega
      have hk3 : (0 : Int) ≤ (k : Int) := by omega
      go_wp2_with fail
      refine (osum1_any _ a b _ _ _ hcb hlt.1 hlt.2 HA.out HB.out (by omega)).mono ?_
      rintro e w1 ⟨rfl, hA, hB, hu⟩
      have HA1 := Lib.hid hA; have HB1 := Lib.hid hB; have HU := Lib.hid hu
      clear hA hB hu hlt
      go_wp2
      go_roundw
      case rel => exact ⟨k + 1, by go_num, by omega, by rw [HS.out]; exact HA1.out, by rw [HS.out]; exact HB1.out, XR.out.upd HU.out (by simp)⟩
      case measure => simp [intOf]; omega
    · obtain rfl : k = s.size := by omega
      have e : s.data.toList.take s.size = s.data.toList := List.take_of_length_le (by simp)
      rw [e] at HA HB hlt
      obtain ⟨a, ha⟩ : ∃ a, a = (adl s.data.toList).1 := ⟨_, rfl⟩
      obtain ⟨b, hb⟩ : ∃ b, b = (adl s.data.toList).2 := ⟨_, rfl⟩
      rw [← ha, ← hb] at hlt
      rw [← ha] at HA
      rw [← hb] at HB
      obtain ⟨hlt1, hlt2⟩ := hlt
      have HF := Lib.hid (show sumF s = b * 65536 + a by rw [sumF, ← ha, ← hb])
      have cA : wr.cell? ⟨w.heap.size, 0, none⟩ = some (.int .u32 a) := HA.out.cell 0
      have cB : wr.cell? ⟨w.heap.size + 1, 0, none⟩ = some (.int .u32 b) := HB.out.cell 0
      clear e ha hb
      go_wp2
      go_ret
      refine ⟨?_, XR.out⟩
      have e1 : ((b : Int) * 65536) = ((b * 65536 : Nat) : Int) := by omega
      rw [HF.out, e1, u32_or_nat _ _ (by omega) (by omega)]
      have e2 : b * 65536 ||| a = b * 65536 + a := by
        have := Nat.two_pow_add_eq_or_of_lt (i := 16) (b := a) (by omega) b
        rw [Nat.mul_comm b 65536]
        exact this.symm
      rw [e2]
      rfl


/-- the items behind n puts at F, F + 1, .. -/
def pgI (F : Nat) (vs : Nat → ByteArray) : Nat → List ByteArray
  | 0 => []
  | n + 1 => putL (pgI F vs n) (F + n) (vs n)
theorem pg_plain (F : Nat) (vs : Nat → ByteArray) (n : Nat) : plainL (pgI F vs n) = pgI F vs n := by
  cases n with
  | zero => rfl
  | succ n => exact putL_plain _ _ _
theorem pg_item {F : Nat} {vs : Nat → ByteArray} {n i : Nat} (h : i < n) : itemF (pgI F vs n) ((F + i : Nat) : Int) = vs i := by
  induction n with
  | zero => omega
  | succ n ih =>
    rw [pgI, item_put]
    by_cases e : i = n
    · subst e; rw [if_pos rfl]
    · rw [if_neg (by omega)]; exact ih (by omega)
theorem pg_len {F : Nat} {vs : Nat → ByteArray} {n i : Nat} (h : i < n) (hs : 0 < (vs i).size) : F + i < (pgI F vs n).length := by
  rcases Nat.lt_or_ge (F + i) (pgI F vs n).length with g | g
  · exact g
  · have h1 := pg_item (F := F) (vs := vs) h
    rw [item_out g] at h1
    rw [← h1] at hs
    exact absurd hs (by decide)
theorem pg_getD {F : Nat} {vs : Nat → ByteArray} {n i : Nat} (h : i < n) : (pgI F vs n).getD (F + i) ByteArray.empty = vs i := by
  rw [← item_get]; exact pg_item h
theorem pg_right {F : Nat} {vs : Nat → ByteArray} {n : Nat} (hok : ∀ i, i < n → putErr 1 0 (pgI F vs i) ((F + i : Nat) : Int) (vs i) = 0) : rightB 1 0 (pgI F vs n) = true := by
  induction n with
  | zero => exact right_nil (by omega) (by omega)
  | succ n ih =>
    have h := put_right (ih fun i hi => hok i (by omega)) (hok n (by omega))
    rw [Int.toNat_natCast] at h
    exact h
theorem sizeT_rep (n : Nat) : sizeT (List.replicate n ByteArray.empty) = n * 2 := by
  induction n with
  | zero => rfl
  | succ n ih =>
    have e : sizeT (ByteArray.empty :: List.replicate n ByteArray.empty) = (2 + 0) + sizeT (List.replicate n ByteArray.empty) := by simp [sizeT]
    rw [List.replicate_succ, e, ih]; omega
theorem pg_first {F : Nat} {s : ByteArray} (hF : F < 10) (hs : s.size ≤ 400) : putErr 1 0 [] (F : Int) s = 0 := by
  have hz : sizeL (withL [] F s) ≤ 512 := by
    have h1 : sizeT (plainL (withL [] F s)) ≤ sizeT (withL [] F s) := sizeT_take_le _ _
    have h2 := sizeT_set (List.replicate (F + 1) ByteArray.empty) F s (by simp)
    have h3 := sizeT_rep (F + 1)
    have h4 : withL [] F s = (List.replicate (F + 1) ByteArray.empty).set F s := by simp [withL, padTo, plainL]
    rw [← h4] at h2
    rw [sizeL]; omega
  unfold putErr
  rw [right_nil (by omega) (by omega), if_neg (by simp), if_neg (by omega), if_neg (by rw [Int.toNat_natCast]; omega)]
end Go.Proofs.YtfjpglohcppjeaaDoor

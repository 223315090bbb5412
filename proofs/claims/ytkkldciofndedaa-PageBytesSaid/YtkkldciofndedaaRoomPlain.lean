/- the plain law behind PageRoom: what Free and Room answer, and what fits. No walk. -/
import Derived.Test.YtkkldciofndedaaZeros
namespace Go.Proofs.Ytkkldciofndedaa
open Go.RowKit
set_option linter.unusedVariables false

theorem toList_empty : ByteArray.empty.toList = [] := by rw [ByteArray.toList_eq]; rfl
def emp (s : ByteArray) : Bool := s.toList.isEmpty
theorem emp_iff (s : ByteArray) : emp s = true ↔ s = ByteArray.empty := by
  unfold emp
  constructor
  · intro h
    have h1 : s.toList = [] := by simpa using h
    exact ba_inj (by rw [h1, toList_empty])
  · rintro rfl; rw [toList_empty]; rfl
theorem emp_size (s : ByteArray) : emp s = true ↔ s.size = 0 := by
  rw [emp_iff]
  constructor
  · rintro rfl; rfl
  · intro h
    apply ba_inj
    rw [ByteArray.toList_eq]
    have : s.data.toList.length = 0 := by simpa using h
    rw [List.eq_nil_of_length_eq_zero this, toList_empty]
theorem frL_spec (ss : List ByteArray) : ∀ n i, (frL ss n i = -1 ∧ ∀ j, i ≤ j → j < i + n → emp (itemF ss j) = false) ∨
    (∃ j : Nat, frL ss n i = j ∧ i ≤ j ∧ j < i + n ∧ emp (itemF ss j) = true ∧ ∀ k, i ≤ k → k < j → emp (itemF ss k) = false)
  | 0, i => .inl ⟨rfl, fun j h1 h2 => by omega⟩
  | n + 1, i => by
    rw [frL_succ]
    by_cases h1 : ss.length ≤ i
    · rw [if_pos h1]
      exact .inr ⟨i, rfl, Nat.le_refl _, by omega, item_ge ss i h1, fun k _ _ => by omega⟩
    · rw [if_neg h1]
      have hi : emp (itemF ss i) = (ss.getD i ByteArray.empty).toList.isEmpty := by rw [item_get, emp]
      cases h2 : (ss.getD i ByteArray.empty).toList.isEmpty with
      | true => exact .inr ⟨i, by simp, Nat.le_refl _, by omega, by rw [hi, h2], fun k _ _ => by omega⟩
      | false =>
        rw [if_neg (by simp)]
        rcases frL_spec ss n (i + 1) with ⟨h3, h4⟩ | ⟨j, h3, h4, h5, h6, h7⟩
        · refine .inl ⟨h3, fun j g1 g2 => ?_⟩
          by_cases e : j = i
          · subst e; rw [hi, h2]
          · exact h4 j (by omega) (by omega)
        · refine .inr ⟨j, h3, by omega, by omega, h6, fun k g1 g2 => ?_⟩
          by_cases e : k = i
          · subst e; rw [hi, h2]
          · exact h7 k (by omega) g2
theorem trimN_emp (ss : List ByteArray) : ∀ n j, trimN ss n ≤ j → j < n → emp (itemF ss j) = true
  | 0, j, _, h => by omega
  | n + 1, j, h1, h2 => by
    rw [trimN_succ] at h1
    split at h1
    · rename_i he
      by_cases e : j = n
      · subst e; rw [item_get]; exact he
      · exact trimN_emp ss n j h1 (by omega)
    · omega
theorem trimN_last (ss : List ByteArray) : ∀ n, 0 < trimN ss n → emp (itemF ss (trimN ss n - 1 : Nat)) = false
  | 0, h => absurd h (Nat.lt_irrefl 0)
  | n + 1, h => by
    rw [trimN_succ] at h ⊢
    split
    · rename_i he; rw [if_pos he] at h; exact trimN_last ss n h
    · rename_i he
      show emp (itemF ss (n + 1 - 1 : Nat)) = false
      rw [Nat.add_sub_cancel, item_get]
      exact Bool.eq_false_iff.2 he
theorem trimN_full {ss : List ByteArray} (h : ss ≠ []) (hl : emp (ss.getLast h) = false) : trimN ss ss.length = ss.length := by
  obtain ⟨n, hn⟩ : ∃ n, ss.length = n + 1 := ⟨ss.length - 1, by have := List.length_pos_iff.2 h; omega⟩
  rw [hn, trimN_succ, if_neg]
  rw [List.getLast_eq_getElem] at hl
  have e : ss.getD n ByteArray.empty = ss[ss.length - 1]'(by omega) := by
    have : n = ss.length - 1 := by omega
    subst this
    simp [List.getD, show ss.length - 1 < ss.length by omega]
  rw [e]
  exact Bool.eq_false_iff.1 hl
theorem plain_full {ss : List ByteArray} (h : ss ≠ []) (hl : emp (ss.getLast h) = false) : plainL ss = ss := by
  rw [plainL, trimN_full h hl, List.take_length]
theorem sizeT_append (a b : List ByteArray) : sizeT (a ++ b) = sizeT a + sizeT b := by simp [sizeT]
theorem sizeT_set (l : List ByteArray) (i : Nat) (s : ByteArray) (h : i < l.length) : sizeT (l.set i s) + l[i].size = sizeT l + s.size := by
  induction l generalizing i with
  | nil => simp at h
  | cons a l ih =>
    rcases i with _ | i
    · simp [sizeT]; omega
    · have := ih i (by simpa using h)
      simp only [List.set_cons_succ, List.getElem_cons_succ]
      simp only [sizeT, List.map_cons, List.sum_cons] at this ⊢
      omega
theorem plain_get {ss : List ByteArray} {i : Nat} (h : i < (plainL ss).length) : (plainL ss)[i] = itemF ss i := by
  have hl := plainL_len ss
  have ht := trimN_le ss ss.length
  rw [item_get]
  simp [plainL, List.getD, show i < ss.length by omega]
theorem plain_trail {ss : List ByteArray} : plainL (ss ++ [ByteArray.empty]) = plainL ss := by
  have e1 : trimN (ss ++ [ByteArray.empty]) (ss ++ [ByteArray.empty]).length = trimN (ss ++ [ByteArray.empty]) ss.length := by
    rw [List.length_append, List.length_singleton, trimN_succ, if_pos]
    simp [List.getD]
  have e2 : ∀ n, n ≤ ss.length → trimN (ss ++ [ByteArray.empty]) n = trimN ss n := by
    intro n
    induction n with
    | zero => intro _; rfl
    | succ n ih =>
      intro hn
      rw [trimN_succ, trimN_succ, ih (by omega)]
      have : (ss ++ [ByteArray.empty]).getD n ByteArray.empty = ss.getD n ByteArray.empty := by
        simp [List.getD, List.getElem?_append, show n < ss.length by omega]
      rw [this]
  rw [plainL, e1, e2 _ (Nat.le_refl _), plainL, List.take_append_of_le_length (trimN_le ss _)]
/-- what a page's size becomes -/
theorem sizeL_with {ss : List ByteArray} {K : Nat} {s : ByteArray} (hK : K ≤ (plainL ss).length) (he : emp (itemF ss K) = true) :
    sizeL (withL ss K s) = sizeL ss + (if s.size = 0 then 0 else s.size + (if (plainL ss).length ≤ K then 2 else 0)) := by
  have hi : itemF ss K = ByteArray.empty := (emp_iff _).1 he
  rcases Nat.lt_or_ge K (plainL ss).length with hlt | hge
  · have ew : withL ss K s = (plainL ss).set K s := by
      rw [withL, padTo, show K + 1 - (plainL ss).length = 0 by omega]
      simp
    have hg : (plainL ss)[K] = ByteArray.empty := by rw [plain_get hlt, hi]
    by_cases h0 : s.size = 0
    · have hs : s = ByteArray.empty := (emp_iff s).1 ((emp_size s).2 h0)
      rw [if_pos h0, ew, hs, ← hg, List.set_getElem_self, Nat.add_zero, sizeL, plain_plain, sizeL]
    · rw [if_neg h0, if_neg (by omega), ew]
      have hne : (plainL ss).set K s ≠ [] := by
        intro e
        have := congrArg List.length e
        simp at this
        rw [this] at hlt
        simp at hlt
      have hlast : emp (((plainL ss).set K s).getLast hne) = false := by
        rw [List.getLast_eq_getElem]
        simp only [List.length_set, List.getElem_set]
        split
        · exact Bool.eq_false_iff.2 fun e => h0 ((emp_size s).1 e)
        · rename_i hKn
          rw [plain_get (by omega)]
          have h1 := plainL_len ss
          have := trimN_last ss ss.length (by omega)
          rw [h1]; exact this
      have hset := sizeT_set (plainL ss) K s hlt
      rw [hg] at hset
      rw [sizeL, plain_full hne hlast, sizeL]
      have : (ByteArray.empty).size = 0 := rfl
      omega
  · have hKe : K = (plainL ss).length := by omega
    have ew : withL ss K s = plainL ss ++ [s] := by
      rw [withL, padTo, show K + 1 - (plainL ss).length = 1 by omega, hKe]
      simp
    by_cases h0 : s.size = 0
    · have hs : s = ByteArray.empty := (emp_iff s).1 ((emp_size s).2 h0)
      rw [if_pos h0, ew, hs, Nat.add_zero, sizeL, plain_trail, plain_plain, sizeL]
    · rw [if_neg h0, if_pos hge, ew]
      have hne : plainL ss ++ [s] ≠ [] := by simp
      have hlast : emp ((plainL ss ++ [s]).getLast hne) = false := by
        rw [List.getLast_concat]
        exact Bool.eq_false_iff.2 fun e => h0 ((emp_size s).1 e)
      rw [sizeL, plain_full hne hlast, sizeT_append, sizeL]
      simp [sizeT]
      omega

/-- all that PageRoom asks -/
theorem room_law {k l : Int} {ss : List ByteArray} (hr : rightB k l ss = true) :
    (0 ≤ roomF k l ss ∧ roomF k l ss ≤ 400) ∧
    ((freeF k l ss 0 < 0 ∧ roomF k l ss = 0 ∧ ∀ i : Nat, i < 24 → emp (itemF ss i) = false) ∨
     (∃ K : Nat, freeF k l ss 0 = K ∧ K < 24 ∧ emp (itemF ss K) = true ∧ (∀ i : Nat, i < K → emp (itemF ss i) = false) ∧
      (∀ s : ByteArray, (s.size : Int) = roomF k l ss → putErr k l ss K s = 0) ∧
      ∀ s : ByteArray, (s.size : Int) = roomF k l ss + 1 → putErr k l ss K s = if roomF k l ss = 400 then 21 else 20)) := by
  have hsz := (right_parts hr).2.2.2
  have hf : freeF k l ss 0 = frL ss 24 0 := by rw [freeF, hr, if_pos rfl]; rfl
  have hrm : 0 ≤ roomF k l ss ∧ roomF k l ss ≤ 400 := by unfold roomF; split; omega; split <;> omega
  refine ⟨hrm, ?_⟩
  rcases frL_spec ss 24 0 with ⟨h1, h2⟩ | ⟨K, h1, _, h3, h4, h5⟩
  · left
    refine ⟨by rw [hf, h1]; omega, by rw [roomF, hf, h1]; rfl, fun i hi => h2 i (by omega) (by omega)⟩
  · right
    have hK : K ≤ (plainL ss).length := by
      rcases Nat.lt_or_ge (plainL ss).length K with h | h
      · exfalso
        have hp := plainL_len ss
        have hn := h5 (plainL ss).length (by omega) h
        have he : emp (itemF ss (plainL ss).length) = true := by
          rcases Nat.lt_or_ge (plainL ss).length ss.length with g | g
          · exact trimN_emp ss ss.length _ (by omega) g
          · exact item_ge ss _ g
        rw [he] at hn; cases hn
      · exact h
    have hrf : roomF k l ss = max 0 (min (512 - (sizeL ss : Int) - (if (plainL ss).length ≤ K then 2 else 0)) 400) := by
      rw [roomF, hf, h1, if_neg (by omega)]
      by_cases g : (plainL ss).length ≤ K
      · rw [if_pos (by omega), if_pos g]
      · rw [if_neg (by omega), if_neg g]
        simp
    have hpe : ∀ s : ByteArray, putErr k l ss K s = if 400 < s.size then 21 else if 512 < sizeL ss + (if s.size = 0 then 0 else s.size + (if (plainL ss).length ≤ K then 2 else 0)) then 20 else 0 := by
      intro s
      rw [putErr, hr, if_neg (by simp), Int.toNat_natCast, sizeL_with hK h4]
      by_cases g : 400 < s.size
      · rw [if_pos (by omega), if_pos g]
      · rw [if_neg (by omega), if_neg g]
    refine ⟨K, by rw [hf, h1], by omega, h4, fun i hi => h5 i (by omega) hi, fun s hs => ?_, fun s hs => ?_⟩
    · rw [hpe]
      by_cases g : (plainL ss).length ≤ K
      · simp only [g, if_true] at hrf ⊢
        rw [if_neg (by omega)]
        by_cases h0 : s.size = 0
        · rw [if_pos h0, if_neg (by omega)]
        · rw [if_neg h0, if_neg (by omega)]
      · simp only [g, if_false] at hrf ⊢
        rw [if_neg (by omega)]
        by_cases h0 : s.size = 0
        · rw [if_pos h0, if_neg (by omega)]
        · rw [if_neg h0, if_neg (by omega)]
    · rw [hpe]
      by_cases g : (plainL ss).length ≤ K
      · simp only [g, if_true] at hrf ⊢
        by_cases h4 : roomF k l ss = 400
        · rw [if_pos (by omega), if_pos h4]
        · rw [if_neg (by omega), if_neg (show ¬ s.size = 0 by omega), if_pos (by omega), if_neg h4]
      · simp only [g, if_false] at hrf ⊢
        by_cases h4 : roomF k l ss = 400
        · rw [if_pos (by omega), if_pos h4]
        · rw [if_neg (by omega), if_neg (show ¬ s.size = 0 by omega), if_pos (by omega), if_neg h4]
end Go.Proofs.Ytkkldciofndedaa

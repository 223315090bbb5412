/- What the bytes of a page say, read field by field. -/
import Derived.Test.YtkkldciofndedaaBytes
namespace Go.Proofs.Ytkkldciofndedaa
open Go.RowKit
set_option linter.unusedVariables false

theorem bl_inj {a b : ByteArray} (h : bl a = bl b) : a = b := by rw [← baOf_bl a, ← baOf_bl b, h]
theorem bl_extract (s : ByteArray) (p q : Nat) : bl (s.extract p q) = ((bl s).drop p).take (q - p) := by
  simp [bl, ByteArray.data_extract]
theorem drop_take_mid {α : Type} (a b c : List α) (p k : Nat) (hp : a.length = p) (hk : b.length = k) : ((a ++ (b ++ c)).drop p).take k = b := by
  subst hp hk
  simp
theorem extr_at {s : ByteArray} {a b c : List UInt8} (hs : bl s = a ++ (b ++ c)) {p q : Nat} (hp : a.length = p) (hq : p + b.length = q) : s.extract p q = baOf b := by
  apply bl_inj
  rw [bl_extract, bl_baOf, hs, drop_take_mid a b c p (q - p) hp (by omega)]
theorem numS_at {s : ByteArray} {a b c : List UInt8} (hs : bl s = a ++ (b ++ c)) {p k : Nat} (hp : a.length = p) (hk : b.length = k) : numS s p k = numL b := by
  have h : bl (s.extract p (p + k)) = b := by rw [extr_at hs hp (by rw [hk]), bl_baOf]
  exact congrArg numL h
theorem numL_inj : ∀ (n : Nat) (a b : List UInt8), a.length = n → b.length = n → numL a = numL b → a = b
  | 0, a, b, ha, hb, _ => by rw [List.eq_nil_of_length_eq_zero ha, List.eq_nil_of_length_eq_zero hb]
  | n + 1, a, b, ha, hb, h => by
    rcases List.eq_nil_or_concat a with rfl | ⟨a', x, rfl⟩
    · simp at ha
    rcases List.eq_nil_or_concat b with rfl | ⟨b', y, rfl⟩
    · simp at hb
    simp only [List.concat_eq_append] at *
    rw [numL_snoc, numL_snoc] at h
    have hx := x.toNat_lt
    have hy := y.toNat_lt
    have h1 : numL a' = numL b' := by omega
    have h2 : x.toNat = y.toNat := by omega
    rw [numL_inj n a' b' (by simpa using ha) (by simpa using hb) h1, UInt8.toNat_inj.1 h2]
theorem numL_nums (xs : List Int) : numL (bl (strOfNums xs)) = xs.foldl (fun (n : Nat) x => n * 256 + x.toNat % 256) 0 := by
  show numL ((strOfNums xs).data.toList) = _
  rw [strOfNums_data, numL, List.foldl_map]
  rfl
theorem putS_num1 (n : Int) (h0 : 0 ≤ n) (h1 : n < 256) : (numL (bl (putS n 1)) : Int) = n := by
  have hu : IntKind.u64.wrap n = n := by rw [IntKind.wrap_u64]; omega
  rw [putS, numL_nums, oct8, hu]
  simp only [List.drop_succ_cons, List.drop_zero, List.foldl_cons, List.foldl_nil]
  omega
theorem putS_num2 (n : Int) (h0 : 0 ≤ n) (h1 : n < 65536) : (numL (bl (putS n 2)) : Int) = n := by
  have hu : IntKind.u64.wrap n = n := by rw [IntKind.wrap_u64]; omega
  rw [putS, numL_nums, oct8, hu]
  simp only [List.drop_succ_cons, List.drop_zero, List.foldl_cons, List.foldl_nil]
  omega
theorem putS_num4 (n : Int) (h0 : 0 ≤ n) (h1 : n < 4294967296) : (numL (bl (putS n 4)) : Int) = n := by
  have hu : IntKind.u64.wrap n = n := by rw [IntKind.wrap_u64]; omega
  rw [putS, numL_nums, oct8, hu]
  simp only [List.drop_succ_cons, List.drop_zero, List.foldl_cons, List.foldl_nil]
  omega
theorem putS_iff4 (n : Int) (h0 : 0 ≤ n) (h1 : n < 4294967296) (t : ByteArray) (ht : t.size = 4) : putS n 4 = t ↔ (numL (bl t) : Int) = n := by
  constructor
  · rintro rfl
    exact putS_num4 n h0 h1
  · intro h
    have h2 := putS_num4 n h0 h1
    exact bl_inj (numL_inj 4 _ _ (by rw [bl_len, putS_size _ _ (by omega)]) (by rw [bl_len, ht]) (by omega))

/-- n texts from p on, and where they end -/
def rtx (s : ByteArray) (p : Nat) : Nat → Option (List ByteArray × Nat)
  | 0 => some ([], p)
  | n + 1 => match rtx s p n with
    | some (xs, q) => if q + 2 ≤ s.size ∧ q + 2 + numS s q 2 ≤ s.size then some (xs ++ [textS s q], q + 2 + numS s q 2) else none
    | none => none
theorem rtx_len {s : ByteArray} {p n q : Nat} {xs : List ByteArray} (h : rtx s p n = some (xs, q)) : xs.length = n := by
  induction n generalizing xs q with
  | zero => cases h; rfl
  | succ n ih =>
    rw [rtx] at h
    split at h
    · rename_i ys r e
      split at h
      · cases h
        rw [List.length_append, ih e]; rfl
      · cases h
    · cases h

theorem body_parts (k l : Int) (I : List ByteArray) : bl (bytesF k l I) = bl (putS (sumF (baOf (bodyL k l I))) 4) ++ (bodyL k l I ++ []) := by rw [bytesF, bl_append, bl_baOf, List.append_nil]
theorem bytes_parts (k l : Int) (I : List ByteArray) : bl (bytesF k l I) = bl (putS (sumF (baOf (bodyL k l I))) 4) ++ (bl (putS k 1) ++ (bl (putS l 4) ++ (bl (putS I.length 1) ++ (itemsL I ++ (List.replicate (504 - (6 + sizeT I)) 0 ++ bl (putS l 4)))))) := by
  rw [body_parts, List.append_nil, bodyL, headL, bl_append, bl_append]
  simp only [List.append_assoc]
theorem bytesF_size (k l : Int) (I : List ByteArray) (h : 6 + sizeT I ≤ 504) : (bytesF k l I).size = 512 := by
  rw [bytesF, ByteArray.size_append, putS_size _ _ (by omega), baOf_size, bodyL_len k l I h]
theorem bytes_sum (k l : Int) (I : List ByteArray) : numS (bytesF k l I) 0 4 = sumF (baOf (bodyL k l I)) := by
  have h := sumF_lt (baOf (bodyL k l I))
  have h2 := putS_num4 (sumF (baOf (bodyL k l I))) (by omega) (by omega)
  rw [numS_at (p := 0) (a := []) (b := bl (putS (sumF (baOf (bodyL k l I))) 4)) (by rw [List.nil_append]; exact body_parts k l I) rfl (by rw [bl_len, putS_size _ _ (by omega)])]
  omega
theorem bytes_rest (k l : Int) (I : List ByteArray) (h : 6 + sizeT I ≤ 504) : (bytesF k l I).extract 4 512 = baOf (bodyL k l I) :=
  extr_at (body_parts k l I) (by rw [bl_len, putS_size _ _ (by omega)]) (by rw [bodyL_len k l I h])
theorem bytes_kind (k l : Int) (I : List ByteArray) (h0 : 0 ≤ k) (h1 : k < 256) : (numS (bytesF k l I) 4 1 : Int) = k := by
  rw [numS_at (bytes_parts k l I) (by rw [bl_len, putS_size _ _ (by omega)]) (by rw [bl_len, putS_size _ _ (by omega)])]
  exact putS_num1 k h0 h1
theorem bytes_parts5 (k l : Int) (I : List ByteArray) : bl (bytesF k l I) = (bl (putS (sumF (baOf (bodyL k l I))) 4) ++ bl (putS k 1)) ++ (bl (putS l 4) ++ (bl (putS I.length 1) ++ (itemsL I ++ (List.replicate (504 - (6 + sizeT I)) 0 ++ bl (putS l 4))))) := by
  rw [bytes_parts]; simp only [List.append_assoc]
theorem bytes_lsn (k l : Int) (I : List ByteArray) (h0 : 0 ≤ l) (h1 : l < 4294967296) : (numS (bytesF k l I) 5 4 : Int) = l := by
  rw [numS_at (bytes_parts5 k l I) (by rw [List.length_append, bl_len, bl_len, putS_size _ _ (by omega), putS_size _ _ (by omega)]) (by rw [bl_len, putS_size _ _ (by omega)])]
  exact putS_num4 l h0 h1
theorem bytes_lsn_s (k l : Int) (I : List ByteArray) : (bytesF k l I).extract 5 9 = putS l 4 := by
  rw [extr_at (bytes_parts5 k l I) (p := 5) (q := 9) (by rw [List.length_append, bl_len, bl_len, putS_size _ _ (by omega), putS_size _ _ (by omega)]) (by rw [bl_len, putS_size _ _ (by omega)]), baOf_bl]
theorem bytes_parts9 (k l : Int) (I : List ByteArray) : bl (bytesF k l I) = ((bl (putS (sumF (baOf (bodyL k l I))) 4) ++ bl (putS k 1)) ++ bl (putS l 4)) ++ (bl (putS I.length 1) ++ (itemsL I ++ (List.replicate (504 - (6 + sizeT I)) 0 ++ bl (putS l 4)))) := by
  rw [bytes_parts]; simp only [List.append_assoc]
theorem bytes_many (k l : Int) (I : List ByteArray) (h1 : I.length < 256) : numS (bytesF k l I) 9 1 = I.length := by
  have h2 := putS_num1 (I.length) (by omega) (by omega)
  rw [numS_at (bytes_parts9 k l I) (by simp only [List.length_append, bl_len]; rw [putS_size _ _ (by omega), putS_size _ _ (by omega), putS_size _ _ (by omega)]) (by rw [bl_len, putS_size _ _ (by omega)])]
  omega
theorem bytes_end (k l : Int) (I : List ByteArray) (h : 6 + sizeT I ≤ 504) : (bytesF k l I).extract 508 512 = putS l 4 := by
  have e : bl (bytesF k l I) = ((((bl (putS (sumF (baOf (bodyL k l I))) 4) ++ bl (putS k 1)) ++ bl (putS l 4)) ++ bl (putS I.length 1)) ++ itemsL I ++ List.replicate (504 - (6 + sizeT I)) 0) ++ (bl (putS l 4) ++ []) := by
    rw [bytes_parts, List.append_nil]; simp only [List.append_assoc]
  rw [extr_at e (p := 508) (q := 512) (by
    simp only [List.length_append, bl_len, itemsL_len, List.length_replicate]
    rw [putS_size _ _ (by omega), putS_size _ _ (by omega), putS_size _ _ (by omega), putS_size _ _ (by omega)]; omega) (by rw [bl_len, putS_size _ _ (by omega)]), baOf_bl]
theorem itemsL_split (I : List ByteArray) (j : Nat) (h : j < I.length) : itemsL I = itemsL (I.take j) ++ (bl (putS I[j].size 2) ++ (bl I[j] ++ itemsL (I.drop (j + 1)))) := by
  have e : I = I.take j ++ I[j] :: I.drop (j + 1) := by rw [List.getElem_cons_drop, List.take_append_drop]
  have e2 : ∀ (a b : List ByteArray) (x : ByteArray), itemsL (a ++ x :: b) = itemsL a ++ (bl (putS x.size 2) ++ (bl x ++ itemsL b)) := by
    intro a b x
    simp [itemsL, textB, bl_append]
  conv => lhs; rw [e]
  rw [e2]
theorem bytes_rtx (k l : Int) (I : List ByteArray) (h : 6 + sizeT I ≤ 504) (j : Nat) (hj : j ≤ I.length) : rtx (bytesF k l I) 10 j = some (I.take j, 10 + sizeT (I.take j)) := by
  induction j with
  | zero => simp [rtx, sizeT]
  | succ j ih =>
    have hz := bytesF_size k l I h
    have e0 := itemsL_split I j (by omega)
    obtain ⟨hd, hhd⟩ : ∃ x, x = ((bl (putS (sumF (baOf (bodyL k l I))) 4) ++ bl (putS k 1)) ++ bl (putS l 4)) ++ bl (putS I.length 1) ++ itemsL (I.take j) := ⟨_, rfl⟩
    obtain ⟨tl, htl⟩ : ∃ x, x = itemsL (I.drop (j + 1)) ++ (List.replicate (504 - (6 + sizeT I)) 0 ++ bl (putS l 4)) := ⟨_, rfl⟩
    have hl : hd.length = 10 + sizeT (I.take j) := by
      rw [hhd]
      simp only [List.length_append, bl_len, itemsL_len]
      rw [putS_size _ _ (by omega), putS_size _ _ (by omega), putS_size _ _ (by omega), putS_size _ _ (by omega)]
    have e1 : bl (bytesF k l I) = hd ++ (bl (putS I[j].size 2) ++ (bl I[j] ++ tl)) := by
      rw [bytes_parts, e0, hhd, htl]; simp only [List.append_assoc]
    have e2 : bl (bytesF k l I) = (hd ++ bl (putS I[j].size 2)) ++ (bl I[j] ++ tl) := by rw [e1, List.append_assoc]
    have hst : sizeT (I.take (j + 1)) = sizeT (I.take j) + 2 + I[j].size := by
      have a1 := itemsL_snoc I j (by omega)
      have a2 := congrArg List.length a1
      rw [List.length_append, itemsL_len, itemsL_len, bl_len, textB_size] at a2
      omega
    have hle := sizeT_take_le I (j + 1)
    have hn : numS (bytesF k l I) (10 + sizeT (I.take j)) 2 = I[j].size := by
      rw [numS_at e1 hl (by rw [bl_len, putS_size _ _ (by omega)])]
      have := putS_num2 (I[j].size) (by omega) (by omega)
      omega
    have ht : textS (bytesF k l I) (10 + sizeT (I.take j)) = I[j] := by
      rw [textS, hn, extr_at e2 (p := 10 + sizeT (I.take j) + 2) (by rw [List.length_append, hl, bl_len, putS_size _ _ (by omega)]) (by rw [bl_len]), baOf_bl]
    rw [rtx, ih (by omega)]
    simp only
    rw [hn, ht, hz, if_pos (by omega), hst, List.take_succ_eq_append_getElem (by omega), show 10 + (sizeT (I.take j) + 2 + I[j].size) = 10 + sizeT (I.take j) + 2 + I[j].size by omega]
/-- two pages with the same bytes are the same -/
theorem bytesF_inj {k l k' l' : Int} {I I' : List ByteArray} (hk : 0 ≤ k ∧ k < 256) (hl : 0 ≤ l ∧ l < 4294967296) (hk' : 0 ≤ k' ∧ k' < 256) (hl' : 0 ≤ l' ∧ l' < 4294967296)
    (h : 6 + sizeT I ≤ 504) (h' : 6 + sizeT I' ≤ 504) (hI : I.length < 256) (hI' : I'.length < 256) (e : bytesF k l I = bytesF k' l' I') : k = k' ∧ l = l' ∧ I = I' := by
  have a1 := bytes_kind k l I hk.1 hk.2
  have a2 := bytes_kind k' l' I' hk'.1 hk'.2
  have b1 := bytes_lsn k l I hl.1 hl.2
  have b2 := bytes_lsn k' l' I' hl'.1 hl'.2
  have c1 := bytes_many k l I hI
  have c2 := bytes_many k' l' I' hI'
  have d1 := bytes_rtx k l I h _ (Nat.le_refl _)
  have d2 := bytes_rtx k' l' I' h' _ (Nat.le_refl _)
  rw [e] at a1 b1 c1 d1
  have hn : I.length = I'.length := by omega
  rw [hn] at d1
  have d3 := congrArg Prod.fst (Option.some.inj (d2.symm.trans d1))
  refine ⟨by omega, by omega, ?_⟩
  have d4 : I'.take I'.length = I.take I'.length := d3
  rw [List.take_length, ← hn, List.take_length] at d4
  exact d4.symm
end Go.Proofs.Ytkkldciofndedaa

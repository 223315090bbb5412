/- Strings as lists of bytes. -/
import Derived.Test.YtfjpglohcppjeaaDoorRd
namespace Go.Proofs.YtfjpglohcppjeaaDoor
open Go.RowKit
set_option linter.unusedVariables false
set_option linter.unusedSimpArgs false

def bl (s : ByteArray) : List UInt8 := s.data.toList
def baOf (l : List UInt8) : ByteArray := ⟨l.toArray⟩
theorem bl_len (s : ByteArray) : (bl s).length = s.size := by simp [bl]
theorem baOf_bl (s : ByteArray) : baOf (bl s) = s := by simp [bl, baOf]
theorem bl_baOf (l : List UInt8) : bl (baOf l) = l := by simp [bl, baOf]
theorem bl_append (a b : ByteArray) : bl (a ++ b) = bl a ++ bl b := by simp [bl, ByteArray.data_append]
theorem baOf_append (a b : List UInt8) : baOf (a ++ b) = baOf a ++ baOf b := by
  apply ByteArray.ext
  rw [ByteArray.data_append]
  simp [baOf]
theorem baOf_size (l : List UInt8) : (baOf l).size = l.length := by simp [baOf, ByteArray.size]
theorem bl_inj {a b : ByteArray} (h : bl a = bl b) : a = b := by rw [← baOf_bl a, ← baOf_bl b, h]
theorem bl_extract (s : ByteArray) (p q : Nat) : bl (s.extract p q) = ((bl s).drop p).take (q - p) := by
  simp [bl, ByteArray.data_extract]
theorem drop_take_mid {α : Type} (a b c : List α) (p k : Nat) (hp : a.length = p) (hk : b.length = k) : ((a ++ (b ++ c)).drop p).take k = b := by
  subst hp hk
  simp
theorem extr_at {s : ByteArray} {a b c : List UInt8} (hs : bl s = a ++ (b ++ c)) {p q : Nat} (hp : a.length = p) (hq : p + b.length = q) : s.extract p q = baOf b := by
  apply bl_inj
  rw [bl_extract, bl_baOf, hs, drop_take_mid a b c p (q - p) hp (by omega)]
theorem numS_at {s : ByteArray} {a b c : List UInt8} (hs : bl s = a ++ (b ++ c)) {p k : Nat} (hp : a.length = p) (hk : b.length = k) : numS s p k = numL b := by
  have h : bl (s.extract p (p + k)) = b := by rw [extr_at hs hp (by rw [hk]), bl_baOf]
  exact congrArg numL h
theorem numL_inj : ∀ (n : Nat) (a b : List UInt8), a.length = n → b.length = n → numL a = numL b → a = b
  | 0, a, b, ha, hb, _ => by rw [List.eq_nil_of_length_eq_zero ha, List.eq_nil_of_length_eq_zero hb]
  | n + 1, a, b, ha, hb, h => by
    rcases List.eq_nil_or_concat a with rfl | ⟨a', x, rfl⟩
    · simp at ha
    rcases List.eq_nil_or_concat b with rfl | ⟨b', y, rfl⟩
    · simp at hb
    simp only [List.concat_eq_append] at *
    rw [numL_snoc, numL_snoc] at h
    have hx := x.toNat_lt
    have hy := y.toNat_lt
    have h1 : numL a' = numL b' := by omega
    have h2 : x.toNat = y.toNat := by omega
    rw [numL_inj n a' b' (by simpa using ha) (by simpa using hb) h1, UInt8.toNat_inj.1 h2]
theorem numL_nums (xs : List Int) : numL (bl (strOfNums xs)) = xs.foldl (fun (n : Nat) x => n * 256 + x.toNat % 256) 0 := by
  show numL ((strOfNums xs).data.toList) = _
  rw [strOfNums_data, numL, List.foldl_map]
  rfl
theorem putS_num1 (n : Int) (h0 : 0 ≤ n) (h1 : n < 256) : (numL (bl (putS n 1)) : Int) = n := by
  have hu : IntKind.u64.wrap n = n := by rw [IntKind.wrap_u64]; omega
  rw [putS, numL_nums, oct8, hu]
  simp only [List.drop_succ_cons, List.drop_zero, List.foldl_cons, List.foldl_nil]
  omega
theorem putS_num2 (n : Int) (h0 : 0 ≤ n) (h1 : n < 65536) : (numL (bl (putS n 2)) : Int) = n := by
  have hu : IntKind.u64.wrap n = n := by rw [IntKind.wrap_u64]; omega
  rw [putS, numL_nums, oct8, hu]
  simp only [List.drop_succ_cons, List.drop_zero, List.foldl_cons, List.foldl_nil]
  omega
theorem putS_num4 (n : Int) (h0 : 0 ≤ n) (h1 : n < 4294967296) : (numL (bl (putS n 4)) : Int) = n := by
  have hu : IntKind.u64.wrap n = n := by rw [IntKind.wrap_u64]; omega
  rw [putS, numL_nums, oct8, hu]
  simp only [List.drop_succ_cons, List.drop_zero, List.foldl_cons, List.foldl_nil]
  omega
end Go.Proofs.YtfjpglohcppjeaaDoor

/- What Read answers, as a function; the texts' loop, one step for both readers. -/
import Derived.Test.YtkkldciofndedaaRBytes
import Derived.Test.YtkkldciofndedaaFillsPlain
namespace Go.Proofs.Ytkkldciofndedaa
open Go.RowKit
set_option linter.unusedVariables false

/-- j texts from 10 on have been asked for: the answers, the position, whether one failed -/
def txSt (s : ByteArray) (j : Nat) (xs : List ByteArray) (p : Nat) (f : Bool) : Prop :=
  xs.length = j ∧ (∀ x ∈ xs, x.size ≤ 512) ∧ ((f = false ∧ rtx s 10 j = some (xs, p)) ∨ (f = true ∧ rtx s 10 j = none))
theorem txSt.zero (s : ByteArray) : txSt s 0 [] 10 false := ⟨rfl, by simp, .inl ⟨rfl, rfl⟩⟩
theorem txSt.small {s : ByteArray} {j p : Nat} {xs : List ByteArray} {f : Bool} (h : txSt s j xs p f) (hj : j ≤ 1000) : Small xs := ⟨by have := h.1; omega, fun x hx => by have := h.2.1 x hx; omega⟩
structure TxStep (s : ByteArray) (j : Nat) (xs : List ByteArray) (p : Nat) (f : Bool) (x : ByteArray) (p' : Nat) (f' : Bool) : Prop where
  st : txSt s (j + 1) (xs ++ [x]) p' f'
  own : ∀ (B : Nat) (W : World), Rd 95 W B s p f → Calls Try.prog 31 #[.pointer (some ⟨B, 0, none⟩)] W (RdPost 95 (.string x) B s p' f' W)
  ref : ∀ (B : Nat) (W : World), Rd 103 W B s p f → Calls Try.prog 60 #[.pointer (some ⟨B, 0, none⟩)] W (RdPost 103 (.string x) B s p' f' W)
theorem textS_le (s : ByteArray) (p : Nat) (hs : s.size = 512) : (textS s p).size ≤ 512 := by rw [textS, ByteArray.size_extract]; omega
theorem tx_step {s : ByteArray} {j p : Nat} {xs : List ByteArray} {f : Bool} (h : txSt s j xs p f) (hs : s.size = 512) : ∃ x p' f', TxStep s j xs p f x p' f' := by
  obtain ⟨h1, h2, h3⟩ := h
  rcases h3 with ⟨rfl, h3⟩ | ⟨rfl, h3⟩
  · by_cases hc : p + 2 ≤ s.size ∧ p + 2 + numS s p 2 ≤ s.size
    · refine ⟨textS s p, p + 2 + numS s p 2, false, ⟨by rw [List.length_append, h1]; rfl, ?_, .inl ⟨rfl, ?_⟩⟩, fun B W h => text_ok B s p W h hc.1 hc.2, fun B W h => rtext_ok B s p W h hc.1 hc.2⟩
      · intro x hx
        rcases List.mem_append.1 hx with hx | hx
        · exact h2 x hx
        · rw [List.mem_singleton.1 hx]; exact textS_le s p hs
      · rw [rtx, h3]; simp only; rw [if_pos hc]
    · have hb : s.size < p + 2 ∨ s.size < p + 2 + numS s p 2 := by omega
      refine ⟨ByteArray.empty, p, true, ⟨by rw [List.length_append, h1]; rfl, ?_, .inr ⟨rfl, ?_⟩⟩, fun B W h => text_bad B s p false W h (.inr hb), fun B W h => rtext_bad B s p false W h (.inr hb)⟩
      · intro x hx
        rcases List.mem_append.1 hx with hx | hx
        · exact h2 x hx
        · rw [List.mem_singleton.1 hx]; exact Nat.zero_le _
      · rw [rtx, h3]; simp only; rw [if_neg hc]
  · refine ⟨ByteArray.empty, p, true, ⟨by rw [List.length_append, h1]; rfl, ?_, .inr ⟨rfl, ?_⟩⟩, fun B W h => text_bad B s p true W h (.inl rfl), fun B W h => rtext_bad B s p true W h (.inl rfl)⟩
    · intro x hx
      rcases List.mem_append.1 hx with hx | hx
      · exact h2 x hx
      · rw [List.mem_singleton.1 hx]; exact Nat.zero_le _
    · rw [rtx, h3]

/-- the page that Read answers, and the error -/
def readX (s : ByteArray) : (Int × Int) × (List ByteArray × Int) :=
  if s.size = 512 then
    if numS s 0 4 = sumF (s.extract 4 512) ∧ s.extract 5 9 = s.extract 508 512 then
      match rtx s 10 (numS s 9 1) with
      | some (xs, _) => if rightB (numS s 4 1) (numS s 5 4) xs = true ∧ bytesF (numS s 4 1) (numS s 5 4) (plainL xs) = s then ((((numS s 4 1 : Nat) : Int), ((numS s 5 4 : Nat) : Int)), (plainL xs, (0 : Int))) else ((0, 0), ([], 22))
      | none => ((0, 0), ([], 22))
    else ((0, 0), ([], 12))
  else ((0, 0), ([], 11))
theorem readX_form {s : ByteArray} (h : ¬ s.size = 512) : readX s = ((0, 0), ([], 11)) := by rw [readX, if_neg h]
theorem readX_sum {s : ByteArray} (h : s.size = 512) (h2 : ¬ (numS s 0 4 = sumF (s.extract 4 512) ∧ s.extract 5 9 = s.extract 508 512)) : readX s = ((0, 0), ([], 12)) := by rw [readX, if_pos h, if_neg h2]
theorem readX_st {s : ByteArray} (h : s.size = 512) (h2 : numS s 0 4 = sumF (s.extract 4 512) ∧ s.extract 5 9 = s.extract 508 512) {xs : List ByteArray} {p : Nat} {f : Bool} (hst : txSt s (numS s 9 1) xs p f) :
    readX s = if f = false ∧ rightB (numS s 4 1) (numS s 5 4) xs = true ∧ bytesF (numS s 4 1) (numS s 5 4) (plainL xs) = s then ((((numS s 4 1 : Nat) : Int), ((numS s 5 4 : Nat) : Int)), (plainL xs, (0 : Int))) else ((0, 0), ([], 22)) := by
  rw [readX, if_pos h, if_pos h2]
  rcases hst.2.2 with ⟨rfl, e⟩ | ⟨rfl, e⟩
  · rw [e]; simp
  · rw [e]; simp
/-- Read gives back what Bytes wrote -/
theorem readX_bytes {k l : Int} {ss : List ByteArray} (hr : rightB k l ss = true) : readX (bytesF k l (plainL ss)) = ((k, l), (plainL ss, 0)) := by
  obtain ⟨hk, hl, ⟨h24, h400⟩, h512⟩ := right_parts hr
  have hT : 6 + sizeT (plainL ss) ≤ 504 := by rw [sizeL] at h512; omega
  have hln : (plainL ss).length ≤ 24 := by rw [plainL_len]; have := trimN_le ss ss.length; omega
  have e1 := bytes_kind k l (plainL ss) hk.1 (by omega)
  have e2 := bytes_lsn k l (plainL ss) hl.1 (by omega)
  have e3 := bytes_many k l (plainL ss) (by omega)
  have e4 := bytes_rtx k l (plainL ss) hT _ (Nat.le_refl _)
  have e5 := bytes_sum k l (plainL ss)
  have e6 := bytes_rest k l (plainL ss) hT
  have e7 := bytes_lsn_s k l (plainL ss)
  have e8 := bytes_end k l (plainL ss) hT
  have e9 : rightB k l (plainL ss) = true := by
    have hz : sizeL (plainL ss) = sizeL ss := by rw [sizeL, plain_plain, sizeL]
    have hlg : longB (plainL ss) = false := by
      rcases h : longB (plainL ss) with _ | _
      · rfl
      · rw [longB, List.any_eq_true] at h
        obtain ⟨x, hx, h⟩ := h
        have := h400 x (List.mem_of_mem_take hx)
        simp at h; omega
    simp [rightB, hk, hl, hln, hlg, hz, h512]
  rw [readX, if_pos (bytesF_size k l _ hT), if_pos ⟨by rw [e5, e6], by rw [e7, e8]⟩, e3, e4, e1, e2]
  simp only
  rw [List.take_length, if_pos ⟨e9, by rw [plain_plain]⟩, plain_plain]
end Go.Proofs.Ytkkldciofndedaa

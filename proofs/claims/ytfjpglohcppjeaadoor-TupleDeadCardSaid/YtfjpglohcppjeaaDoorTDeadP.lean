/- The plain laws of TupleDead. -/
import Derived.Test.YtfjpglohcppjeaaDoorTTurnP
namespace Go.Proofs.YtfjpglohcppjeaaDoor
open Go.RowKit
set_option linter.unusedVariables false
set_option linter.unusedSimpArgs false

section
variable {f i r d x hz hi : Int} {ls own : List Int} {g : Int → Int}
theorem D_before (hf : 0 ≤ f ∧ f < 128) (hi0 : 0 ≤ i ∧ i < 30) (hr : 0 ≤ r ∧ r < 31) (hd : 0 ≤ d ∧ d < 30) (hx : x = 3 + (f + i) % 125) (hh : hz = 3 + (f + r) % 125) (hhi : hi = turnF hz d) (hb : beforeF x hz = true) : beforeF x hi = true := by
  have hx3 : 3 ≤ x ∧ x < 128 := by omega
  have hz3 : 3 ≤ hz ∧ hz < 128 := by omega
  rw [T_val (onF_iff.2 hz3)] at hhi
  have hh3 : 3 ≤ hi ∧ hi < 128 := by omega
  rw [beforeF, if_neg (by omega), Bool.and_eq_true, Bool.and_eq_true] at hb
  obtain ⟨⟨_, b1⟩, b2⟩ := hb
  have c1 := of_decide_eq_true b1
  have c2 := of_decide_eq_true b2
  unfold stepsF at c1 c2
  have h1 : 0 < (hi - x + 125) % 125 := by omega
  have h2 : (hi - x + 125) % 125 ≤ 62 := by omega
  have e1 : decide (0 < stepsF x hi) = true := decide_eq_true (by unfold stepsF; exact h1)
  have e2 : decide (stepsF x hi ≤ 62) = true := decide_eq_true (by unfold stepsF; exact h2)
  rw [beforeF, if_neg (by omega), onF_iff.2 hx3, onF_iff.2 hh3, e1, e2]
  rfl
theorem D_ended (hb : beforeF x hz = true → beforeF x hi = true) (hl : ∀ y ∈ ls, beforeF y hz = false) (ho : oldF g hz x = true) : endedF hi ls g x = true := by
  simp only [oldF, Bool.and_eq_true, beq_iff_eq] at ho
  obtain ⟨⟨h1, h2⟩, h3⟩ := ho
  have hx := onF_iff.1 h1
  have hc : ls.contains x = false := by
    rw [← Bool.not_eq_true, List.contains_iff_mem]
    intro hm
    rw [hl x hm] at h2
    cases h2
  rw [endedF, if_neg (by omega), h1, hb h2, hc, h3]; rfl
theorem D_did (hb : beforeF x hz = true → beforeF x hi = true) (hl : ∀ y ∈ ls, beforeF y hz = false) (ho : oldF g hz x = true) : didF hi ls own g x = true := by
  rw [didF, D_ended hb hl ho, Bool.or_true]
theorem D_did2 : didF hi ls own g 2 = true := by rw [didF, endedF, if_pos rfl, Bool.or_true]
theorem D_ab (h : g x = 3) (h2 : x ≠ 2) : didF hi ls own g x = false := by
  rw [didF, mineF, endedF, if_neg h2, h]
  simp
end
section
variable {hz hi a b : Int} {ls own : List Int} {g : Int → Int}
theorem D_freeze (h2 : g 2 = 2) (hba : beforeF a hz = true → beforeF a hi = true) (hl : ∀ y ∈ ls, beforeF y hz = false) (hb2 : b ≠ 2) :
    visF hi ls own g (if oldF g hz a = true then 2 else a) (if fzX g b then 0 else b) = visF hi ls own g a b := by
  have e1 : didF hi ls own g (if oldF g hz a = true then 2 else a) = didF hi ls own g a := by
    split
    · rename_i h; rw [D_did2, D_did hba hl h]
    · rfl
  rw [visF, visF, e1]
  congr 1
  cases hX : fzX g b with
  | false => simp
  | true =>
    simp only [fzX, Bool.and_eq_true, beq_iff_eq] at hX
    rw [D_ab hX.2 hb2]
    simp
theorem D_dead (h2 : g 2 = 2) (hba : beforeF b hz = true → beforeF b hi = true) (hl : ∀ y ∈ ls, beforeF y hz = false) : (deadF g hz a b && visF hi ls own g a b) = false := by
  cases hd : deadF g hz a b with
  | false => rfl
  | true =>
    rw [deadF, Bool.or_eq_true, beq_iff_eq] at hd
    rcases hd with h | h
    · have ha2 : a ≠ 2 := fun e => by rw [e, h2] at h; omega
      rw [visF, D_ab h ha2]; rfl
    · have hb0 : b ≠ 0 := fun e => by
        rw [e] at h
        have : oldF g hz 0 = false := by rw [oldF, show onF 0 = false from by decide]; rfl
        rw [this] at h; cases h
      rw [visF, D_did hba hl h]
      simp [hb0]
theorem D_all (hba : beforeF a hz = true → beforeF a hi = true) (hl : ∀ y ∈ ls, beforeF y hz = false) (hb2 : b ≠ 2) : (allF g hz a b && !visF hi ls own g a b) = false := by
  cases hd : allF g hz a b with
  | false => rfl
  | true =>
    rw [allF, Bool.and_eq_true, Bool.or_eq_true, Bool.or_eq_true, beq_iff_eq, beq_iff_eq, beq_iff_eq] at hd
    obtain ⟨h1, h3⟩ := hd
    have ea : didF hi ls own g a = true := by
      rcases h1 with h | h
      · rw [h]; exact D_did2
      · exact D_did hba hl h
    rw [visF, ea]
    rcases h3 with h | h
    · subst h; simp
    · rw [D_ab h hb2]; simp
theorem D_more : (oldF g hz (if oldF g hz a = true then 2 else a) || fzX g (if fzX g b then 0 else b)) = false := by
  have e1 : oldF g hz (if oldF g hz a = true then 2 else a) = false := by
    split
    · rw [oldF, show onF 2 = false from by decide]; rfl
    · rename_i h; simpa using h
  rw [e1]
  cases h : fzX g b with
  | false => simp [h]
  | true => simp [fzX]
end
end Go.Proofs.YtfjpglohcppjeaaDoor

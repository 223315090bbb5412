/- A strings.Builder as one entry. -/
import Derived.Test.YtfjpglohcppjeaaDoorVs
namespace Go.Proofs.YtfjpglohcppjeaaDoor
open Go.RowKit
set_option linter.unusedVariables false

/-- the builder in block b, its bytes xs in a row of its own (block r, none while there is no row) -/
def SbAt (W : World) (b : Nat) (r : Option Nat) (xs : List Value) : Prop :=
  ∃ p v, Blk W b 143 #[p, v] ∧ (p = .pointer none ∨ p = .pointer (some ⟨b, 0, none⟩)) ∧ W.ownsRow 0 5 1 v xs.length xs ∧ v.ownBlock = r
def eSb (b : Nat) (r : Option Nat) (xs : List Value) : Ent := ⟨b :: r.toList, fun W => SbAt W b r xs⟩
def rO (e : Ent) : Option Nat := e.fp[1]?
theorem rO_eSb (b : Nat) (r : Option Nat) (xs : List Value) : rO (eSb b r xs) = r := by
  cases r <;> rfl
theorem eSb_loc (b : Nat) (r : Option Nat) (xs : List Value) : (eSb b r xs).loc := fun W W' hk h => by
  obtain ⟨p, v, h1, h2, h3, h4⟩ := h
  refine ⟨p, v, (hk b (by simp [eSb])).trans h1, h2, ?_, h4⟩
  have := eO_loc 5 1 v xs.length xs W W' (fun k hk' => hk k (by
    have h5 : v.ownBlock = some k := by simpa [eO] using hk'
    rw [h4] at h5
    simp [eSb, h5])) h3
  exact this
/-- a new builder -/
theorem SbAt.fresh {W : World} {b : Nat} (h : Blk W b 143 #[.pointer none, .slice none 0 0]) : SbAt W b none [] := ⟨_, _, h, .inl rfl, World.ownsRow_nil _ _ _ _, rfl⟩
theorem SbAt.ne {W : World} {b : Nat} {r : Option Nat} {xs : List Value} (h : SbAt W b r xs) : r ≠ some b := by
  obtain ⟨p, v, h1, h2, h3, h4⟩ := h
  have := own_ne h3 h1 (by decide)
  rw [h4] at this
  exact this
end Go.Proofs.YtfjpglohcppjeaaDoor

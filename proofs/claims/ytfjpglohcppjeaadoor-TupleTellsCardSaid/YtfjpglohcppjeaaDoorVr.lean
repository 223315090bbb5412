/- More laws, 4. -/
import Derived.Test.YtfjpglohcppjeaaDoorVq
namespace Go.Proofs.YtfjpglohcppjeaaDoor
open Go.RowKit
set_option linter.unusedVariables false

section
variable {P : Program} {o : Oper} {ρ : Operand → Value} {W : World}
/-- a slice against nil -/
theorem run_eqnil {t t' e : TypeId} {x y : Operand} {A : Option Addr} {n c n' c' : Nat} {b : Bool} (h : o.op = .binOp .eql t x y t') (ht : P.underlying t = some (.slice e)) (hx : ρ x = .slice A n c) (hy : ρ y = .slice none n' c') (hb : A.isNone = b) : (execOp ρ o).run P W = .ok (.value (.bool b)) W := by
  subst hb
  have hr : (Op.equal t (.slice A n c) (.slice none n' c')).run P W = .ok A.isNone W := by
    unfold Op.equal Op.maxDepth Op.equalIn
    simp only [Sem.run_bind, run_underlying ht, Result.andThen_ok]
    cases A <;> rfl
  unfold execOp; rw [h]
  simp only [hx, hy, Sem.run_bind]
  have hg : (eqGuard .eql t x y (.slice A n c) (.slice none n' c')).run P W = .ok () W := rfl
  rw [hg]
  simp only [Result.andThen_ok, binOp, Sem.run_bind, hr, Sem.run_pure]
/-- a struct of two cells out of memory that lies somewhere -/
theorem run_loadAt2 {t : TypeId} {x : Operand} {a : Addr} {u v : Value} (h : o.op = .load t x) (ht : aggP P t = some true) (hn : szP P t = some 2) (hx : ρ x = .pointer (some a)) (hA : At W (some a) [u, v]) : (execOp ρ o).run P W = .ok (.value (.agg #[u, v])) W := by
  have h0 := hA.at_ 0 u rfl
  have h1 := hA.at_ 1 v rfl
  unfold execOp; rw [h]
  simp only [hx, Instr.loadAt, Instr.sureAddr, loadVar, Sem.run_bind, Sem.run_pure, Result.andThen_ok, run_isAgg ht, if_true, run_size hn, loadCells, loadCellsFrom, load, Sem.run, h0, h1]
  simp [loadCellsFrom, Sem.run_bind, load, Sem.run, h0, h1]
end
end Go.Proofs.YtfjpglohcppjeaaDoor

/- Arguments opened: arrays of two, strings, ints. -/
import Derived.Test.YtkkldciofndedaaRow
namespace Go.Proofs.Ytkkldciofndedaa
open Go.ChangeShapes Go.WideShapes Go.ChangeAt Go.RowKit Go.Deep Go.Joins
set_option linter.unusedVariables false
section
variable {H : Type} {enc : TypeId × Value → H} {P : Program}
theorem okWide_arr_ {W : World} {n : Nat} {e t : TypeId} (ht : P.underlying t = some (.array n e)) {r : Reach} {b0 : Nat} {v : Value} (h : Value.okWide P W r b0 t v) : ∃ xs : Array Value, v = .agg xs ∧ xs.size = P.cellsOf t := by
  simp only [Value.okWide, ht] at h
  obtain ⟨cs, h1, h2, _⟩ := h
  exact ⟨cs, h1, h2⟩
theorem open_arr2 {W : World} {t e : TypeId} {v : Value} {d : DataW H} {p : List MemPlace} {r : Reach} {b0 : Nat} {base : Nat} {sp : Nat → Bool} {held : Bool} (ht : P.underlying t = some (.array 2 e)) (hce : P.cellsOf e = 1) (hC : P.cellsOf t = 2)
    (hv : Value.okWide P W r b0 t v) (h : DataW.Trod enc P W base sp held t v d p) :
    ∃ v0 v1 y0 y1 n, v = .agg #[v0, v1] ∧ DataW.trod enc P W base sp held n e [v0] = some y0 ∧ DataW.trod enc P W base sp held n e [v1] = some y1 := by
  obtain ⟨xs, rfl, hx⟩ := okWide_arr_ ht hv
  obtain ⟨c0, c1, rfl⟩ := array2 (hx.trans hC)
  obtain ⟨fuel, hf⟩ := h
  obtain ⟨ys, m, _, _, _, hl, hall⟩ := DataW.trod_array ht hf
  rw [hce] at hall
  have h0 := hall 0 (by omega)
  have h1 := hall 1 (by omega)
  have e0 : ys[0]? = some (ys[0]'(by omega)) := List.getElem?_eq_getElem _
  have e1 : ys[1]? = some (ys[1]'(by omega)) := List.getElem?_eq_getElem _
  exact ⟨c0, c1, _, _, m, rfl, h0.trans e0, h1.trans e1⟩
theorem open_ints2 {W : World} {t e : TypeId} {v : Value} {d : DataW H} {p : List MemPlace} {r : Reach} {b0 : Nat} {base : Nat} {sp : Nat → Bool} {held : Bool} (ht : P.underlying t = some (.array 2 e)) (he : P.underlying e = some (.int .i64)) (hce : P.cellsOf e = 1) (hC : P.cellsOf t = 2)
    (hv : Value.okWide P W r b0 t v) (h : DataW.Trod enc P W base sp held t v d p) : ∃ a0 a1 : Int, v = .agg #[.int .i64 a0, .int .i64 a1] ∧ (Lit.int .i64 a0).wf = true ∧ (Lit.int .i64 a1).wf = true := by
  obtain ⟨v0, v1, y0, y1, n, rfl, h0, h1⟩ := open_arr2 ht hce hC hv h
  obtain ⟨a0, e0, _, w0⟩ := DataW.trod_int he h0
  obtain ⟨a1, e1, _, w1⟩ := DataW.trod_int he h1
  simp only [List.cons.injEq, and_true] at e0 e1
  subst e0; subst e1
  exact ⟨a0, a1, rfl, w0, w1⟩
theorem open_strs2 {W : World} {t e : TypeId} {v : Value} {d : DataW H} {p : List MemPlace} {r : Reach} {b0 : Nat} {base : Nat} {sp : Nat → Bool} {held : Bool} (ht : P.underlying t = some (.array 2 e)) (he : P.underlying e = some .string) (hce : P.cellsOf e = 1) (hC : P.cellsOf t = 2)
    (hv : Value.okWide P W r b0 t v) (h : DataW.Trod enc P W base sp held t v d p) : ∃ s0 s1 : ByteArray, v = .agg #[.string s0, .string s1] ∧ s0.size ≤ 9223372036854775807 ∧ s1.size ≤ 9223372036854775807 := by
  obtain ⟨v0, v1, y0, y1, n, rfl, h0, h1⟩ := open_arr2 ht hce hC hv h
  obtain ⟨a0, e0, _, w0⟩ := DataW.trod_string he h0
  obtain ⟨a1, e1, _, w1⟩ := DataW.trod_string he h1
  simp only [List.cons.injEq, and_true] at e0 e1
  subst e0; subst e1
  exact ⟨a0, a1, rfl, w0, w1⟩
end
end Go.Proofs.Ytkkldciofndedaa

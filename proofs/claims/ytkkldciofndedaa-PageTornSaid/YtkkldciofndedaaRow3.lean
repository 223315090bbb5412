/- Arguments opened: a page whose items' sizes are known; a struct of a struct of three and two ints. -/
import Derived.Test.YtkkldciofndedaaRow2
namespace Go.Proofs.Ytkkldciofndedaa
open Go.ChangeShapes Go.WideShapes Go.ChangeAt Go.RowKit Go.Deep Go.Joins
set_option linter.unusedVariables false
section
variable {H : Type} {enc : TypeId × Value → H} {P : Program}
theorem trod_lenz {w : World} {base : Nat} {spare : Nat → Bool} {held : Bool} {fuel : Nat} {t e : TypeId} {cs : List Value} {x : DataW H × List MemPlace} (ht : P.underlying t = some (.slice e)) (he : P.underlying e = some .string) (hc : P.cellsOf e = 1)
    (h : DataW.trod enc P w base spare held fuel t cs = some x) : ∃ (A : Option Addr) (c : Nat) (ss : List ByteArray), cs = [.slice A ss.length c] ∧ At w A (ss.map Value.string) ∧ ss.length ≤ 9223372036854775807 ∧ ss.length ≤ c ∧ c ≤ 9223372036854775807 ∧ ∀ s ∈ ss, s.size ≤ 9223372036854775807 := by
  rcases open_strings ht he hc h with ⟨rfl, _⟩ | ⟨a, len, cap, ss, rfl, _, hl, hm, hlen, _, hcell, hz⟩
  · exact ⟨none, 0, [], rfl, At.nil _ _, by simp, by simp, by omega, by simp⟩
  · have hle : len ≤ ss.length := by rw [hlen]; split <;> omega
    have hm' : cap ≤ 9223372036854775807 := hm
    have hL : (ss.take len).length = len := by simp; omega
    refine ⟨some a, cap, ss.take len, by rw [hL], fun j u hj => ?_, by omega, by omega, hm', fun s hs => hz s (List.mem_of_mem_take hs)⟩
    rw [List.getElem?_map, List.getElem?_take] at hj
    split at hj
    · rename_i hjl
      have hjs : j < ss.length := by omega
      rw [List.getElem?_eq_getElem hjs] at hj
      simp only [Option.map_some, Option.some.injEq] at hj
      subst hj
      have h1 := hcell j hjs
      rw [show ss.getD j ByteArray.empty = ss[j] by simp [List.getD, hjs]] at h1
      have h2 := World.block_lt_of_cell? _ _ h1
      rw [add_block] at h2
      exact ⟨a, rfl, h2, h1⟩
    · cases hj
theorem open_ilz {W : World} {t e : TypeId} {f0 f1 f2 : Field} {v : Value} {d : DataW H} {p : List MemPlace} {r : Reach} {b0 : Nat} (hs : P.underlying t = some (.struct #[f0, f1, f2])) (hone : oneCellFields P #[f0, f1, f2] = true) (hC : P.cellsOf t = 3)
    (h0 : P.underlying f0.type = some (.int .i64)) (h1 : P.underlying f1.type = some (.int .i64)) (h2 : P.underlying f2.type = some (.slice e)) (he : P.underlying e = some .string) (hc : P.cellsOf e = 1)
    (hv : Value.okWide P W r b0 t v) (h : DataW.Trod enc P W 0 (fun _ => true) true t v d p) :
    ∃ (k l : Int) (A : Option Addr) (c : Nat) (ss : List ByteArray), v = .agg #[.int .i64 k, .int .i64 l, .slice A ss.length c] ∧ At W A (ss.map Value.string) ∧ ss.length ≤ 9223372036854775807 ∧ ss.length ≤ c ∧ c ≤ 9223372036854775807 ∧ (Lit.int .i64 k).wf = true ∧ (Lit.int .i64 l).wf = true ∧
      ∀ s ∈ ss, s.size ≤ 9223372036854775807 := by
  obtain ⟨v0, v1, v2, y0, y1, y2, n, rfl, rfl, rfl, t0, t1, t2⟩ := open_agg3 hs hone hC hv h
  obtain ⟨k, e0, _, wk⟩ := DataW.trod_int h0 t0
  obtain ⟨l, e1, _, wl⟩ := DataW.trod_int h1 t1
  obtain ⟨A, c, ss, e2, hA, hl, hcc, hcm, hz⟩ := trod_lenz h2 he hc t2
  simp only [List.cons.injEq, and_true] at e0 e1 e2
  subst e0; subst e1; subst e2
  exact ⟨k, l, A, c, ss, rfl, hA, hl, hcc, hcm, wk, wl, hz⟩
/-- a struct of (a struct of two ints and a string) and two ints -/
theorem open_edit {W : World} {t : TypeId} {f0 f1 f2 g0 g1 g2 : Field} {v : Value} {d : DataW H} {p : List MemPlace} {r : Reach} {b0 : Nat} (hs : P.underlying t = some (.struct #[f0, f1, f2])) (hC : P.cellsOf t = 5)
    (hs0 : P.underlying f0.type = some (.struct #[g0, g1, g2])) (hf : (f0.offset = 0 ∧ P.cellsOf f0.type = 3) ∧ (f1.offset = 3 ∧ P.cellsOf f1.type = 1) ∧ (f2.offset = 4 ∧ P.cellsOf f2.type = 1))
    (hg : (g0.offset = 0 ∧ P.cellsOf g0.type = 1) ∧ (g1.offset = 1 ∧ P.cellsOf g1.type = 1) ∧ (g2.offset = 2 ∧ P.cellsOf g2.type = 1))
    (h1 : P.underlying f1.type = some (.int .i64)) (h2 : P.underlying f2.type = some (.int .i64)) (k0 : P.underlying g0.type = some (.int .i64)) (k1 : P.underlying g1.type = some (.int .i64)) (k2 : P.underlying g2.type = some .string)
    (hv : Value.okWide P W r b0 t v) (h : DataW.Trod enc P W 0 (fun _ => true) true t v d p) :
    ∃ (a b : Int) (s : ByteArray) (l m : Int), v = .agg #[.int .i64 a, .int .i64 b, .string s, .int .i64 l, .int .i64 m] ∧ s.size ≤ 9223372036854775807 := by
  obtain ⟨cs, rfl, hsz⟩ := okWide_struct hs hv
  obtain ⟨ls⟩ := cs
  match ls, hsz.trans hC with
  | [c0, c1, c2, c3, c4], _ =>
    obtain ⟨fuel, hfu⟩ := h
    obtain ⟨xs, n, _, hx, _, hlen, hgx⟩ := DataW.trod_struct hs hfu
    obtain ⟨⟨fo0, fc0⟩, ⟨fo1, fc1⟩, fo2, fc2⟩ := hf
    obtain ⟨⟨go0, gc0⟩, ⟨go1, gc1⟩, go2, gc2⟩ := hg
    match xs, hlen with
    | [y0, y1, y2], _ =>
      have z0 := hgx 0 f0 rfl
      have z1 := hgx 1 f1 rfl
      have z2 := hgx 2 f2 rfl
      simp only [Value.cells, fo0, fc0, fo1, fc1, fo2, fc2, List.drop_succ_cons, List.drop_zero, List.take_succ_cons, List.take_zero, List.getElem?_cons_zero, List.getElem?_cons_succ] at z0 z1 z2
      obtain ⟨us, m, _, _, _, hul, hgu⟩ := DataW.trod_struct hs0 z0
      match us, hul with
      | [u0, u1, u2], _ =>
        have q0 := hgu 0 g0 rfl
        have q1 := hgu 1 g1 rfl
        have q2 := hgu 2 g2 rfl
        simp only [go0, gc0, go1, gc1, go2, gc2, List.drop_succ_cons, List.drop_zero, List.take_succ_cons, List.take_zero, List.getElem?_cons_zero, List.getElem?_cons_succ] at q0 q1 q2
        obtain ⟨a, e0, _, _⟩ := DataW.trod_int k0 q0
        obtain ⟨b, e1, _, _⟩ := DataW.trod_int k1 q1
        obtain ⟨s, e2, _, ws⟩ := DataW.trod_string k2 q2
        obtain ⟨l, e3, _, _⟩ := DataW.trod_int h1 z1
        obtain ⟨o, e4, _, _⟩ := DataW.trod_int h2 z2
        simp only [List.cons.injEq, and_true] at e0 e1 e2 e3 e4
        subst e0; subst e1; subst e2; subst e3; subst e4
        exact ⟨a, b, s, l, o, rfl, ws⟩
end
end Go.Proofs.Ytkkldciofndedaa

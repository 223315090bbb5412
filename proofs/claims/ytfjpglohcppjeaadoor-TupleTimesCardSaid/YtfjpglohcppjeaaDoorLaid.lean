/- The listed variable tuple.none: what the condition gives; the witness's heap meets it. -/
import Derived.Test.YtfjpglohcppjeaaDoorOpen
import Derived.Test.YtfjpglohcppjeaaDoorT6
import Derived.LaidMore
import Derived.Stop.Joined
namespace Go.Proofs.YtfjpglohcppjeaaDoor
open Go.ChangeShapes Go.WideShapes Go.ChangeAt Go.RowKit Go.Deep Go.Joins
set_option linter.unusedVariables false
set_option linter.unusedSimpArgs false

abbrev laid1 : List (String × DataW Unit) := [("vintner/tuple.none", Rows.laid_vintner_tuple_none)]
theorem gNone : Tryd.prog.globalNamed "vintner/tuple.none" = some 0 := by kernel_rfl
theorem tNone : (Tryd.prog.globals[0]?).map (·.type) = some 23 := by kernel_rfl
theorem door_met (os : Os) (args : Array Value) : laidMetH Tryd.prog laid1 ((World.doorLaid Tryd.prog 400 os).forCall (fun _ _ => 0) ⟨#[], args, []⟩).memory :=
  laidMetH_of_parts3 (fuel := 8) (laidMet_of_run' 8 (by kernel_rfl) (by kernel_rfl)) (by kernel_rfl) (by kernel_rfl)
set_option maxRecDepth 100000 in
theorem none_of_laid {W : World} (h : laidMetH Tryd.prog laid1 W) : NoneAt W := by
  rw [MakeChecks.laidMetH_plain _ _ _ (by kernel_rfl)] at h
  obtain ⟨ps, ⟨g0, t0, cs0, f0, p0, q0, hg0, ht0, hv0, hd0, _, _⟩, _, _⟩ := h
  obtain rfl := Option.some.inj (gNone.symm.trans hg0)
  obtain rfl := Option.some.inj (tNone.symm.trans ht0)
  obtain ⟨xs, m, _, hx, hc, hl, hat⟩ := DataW.trod_struct Tryd.underlying23 hd0
  have c2 : Tryd.prog.cellsOf 23 = 2 := by kernel_rfl
  have c1 : Tryd.prog.cellsOf 3 = 1 := by kernel_rfl
  rw [c2] at hc
  obtain ⟨l0⟩ := cs0
  match l0, hc with
  | [a, b], _ =>
    have hl2 : xs.length = 2 := hl
    match xs, hl2, hx, hat with
    | [x0, x1], _, hx, hat =>
      have e0 := hat 0 _ rfl
      have e1 := hat 1 _ rfl
      obtain ⟨k, k1, k2, _⟩ := DataW.trod_int Tryd.underlying3 (show DataW.trod _ Tryd.prog W 0 _ _ m 3 _ = some x0 from e0)
      obtain ⟨n, n1, n2, _⟩ := DataW.trod_int Tryd.underlying3 (show DataW.trod _ Tryd.prog W 0 _ _ m 3 _ = some x1 from e1)
      subst k2 n2
      have hh : DataW.agg [DataW.lit (Lit.int .i64 (-1)), DataW.lit (Lit.int .i64 0)] = DataW.agg [(DataW.lit (Lit.int .i64 k) : DataW Unit), DataW.lit (Lit.int .i64 n)] := (Prod.mk.inj hx).1
      injection hh with hh
      injection hh with h0 h1
      injection h1 with h1 _
      injection h0 with h0
      injection h0 with _ hk
      injection h1 with h1
      injection h1 with _ hn
      subst hk hn
      have ka : a = .int .i64 (-1) := by
        have h3 : List.take (Tryd.prog.cellsOf 3) [a, b] = [Value.int .i64 (-1)] := k1
        rw [c1] at h3
        simpa using h3
      have nb : b = .int .i64 0 := by
        have h3 : List.take (Tryd.prog.cellsOf 3) [b] = [Value.int .i64 0] := n1
        rw [c1] at h3
        simpa using h3
      subst ka nb
      have h0 : W.cell? ⟨0, 0, none⟩ = some (.int .i64 (-1)) := (World.var?_cell hg0 hv0 0).trans rfl
      have h1 : W.cell? ⟨0, 1, none⟩ = some (.int .i64 0) := (World.var?_cell hg0 hv0 1).trans rfl
      intro j u hj
      match j, hj with
      | 0, hj =>
        obtain rfl : Value.int .i64 (-1) = u := by simpa using hj
        exact ⟨_, rfl, World.block_lt_of_cell? _ _ h0, h0⟩
      | 1, hj =>
        obtain rfl : Value.int .i64 0 = u := by simpa using hj
        exact ⟨_, rfl, World.block_lt_of_cell? _ _ h0, by rw [Addr.add_lit]; exact h1⟩
      | j + 2, hj => simp at hj
theorem u8_bd {z : Int} (h : (Lit.int .u8 z).wf = true) : 0 ≤ z ∧ z ≤ 255 := by
  rw [Lit.wf, Bool.and_eq_true, decide_eq_true_eq, decide_eq_true_eq, show IntKind.u8.min = 0 from rfl, show IntKind.u8.max = 255 from rfl] at h
  exact h
theorem i64_bd {z : Int} (h : (Lit.int .i64 z).wf = true) : -9223372036854775808 ≤ z ∧ z ≤ 9223372036854775807 := by
  rw [Lit.wf, Bool.and_eq_true, decide_eq_true_eq, decide_eq_true_eq, show IntKind.i64.min = -9223372036854775808 from rfl, show IntKind.i64.max = 9223372036854775807 from rfl] at h
  exact h
end Go.Proofs.YtfjpglohcppjeaaDoor

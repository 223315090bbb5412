/- THE ROW OF TupleTimes. -/
import Derived.Test.YtfjpglohcppjeaaDoorTTimes
import Derived.Test.YtfjpglohcppjeaaDoorOpen
import Derived.Test.YtfjpglohcppjeaaDoorLaid
import Derived.Test.YtfjpglohcppjeaaDoorCards
import Derived.Test.YtfjpglohcppjeaaDoorTie
import Derived.SevenTiedAt
import Derived.WalkKit
namespace Go.Proofs.YtfjpglohcppjeaaDoor.tupleTimes
open Go.ChangeShapes Go.WideShapes Go.ChangeAt Go.RowKit Go.Deep Go.Joins
set_option linter.unusedVariables false

set_option maxRecDepth 100000 in
theorem lifted (os : Os) (started : os.Started) (H : Type) (enc : TypeId × Value → H) :
    ReturnsInHanded {} Tryd.checked os 10 .any (fun w args => (Rows.tupleTimesSpec.pre enc Tryd.prog Tryd.f10 [] false w args ∧ laidMetH Tryd.prog laid1 w) ∧ sizedMet enc Tryd.prog Tryd.f10 (OpenSpec.ofChange Rows.tupleTimesSpec) false w args) (Rows.tupleTimesSpec.post enc Tryd.prog Tryd.f10 false true false false) := by
  refine returnsInHanded_of_change_and (C := Tryd.checked) (X := fun w _ => laidMetH Tryd.prog laid1 w) (fun _ _ _ hh h => h.of_heap hh) ownKnob_none started (by kernel_rfl) Tryd.func10
    (ChangeSpec.witness_shaped (enc := enc) (C := Tryd.checked) (os := os) (X := fun w _ => laidMetH Tryd.prog laid1 w) false (World.doorLaid Tryd.prog 400 os) #[.slice none 0 0, .int .i64 0, .int .i64 0] 8 rfl (World.shaped_of_RefB (by kernel_rfl) (by kernel_rfl)) (by kernel_rfl) (by kernel_rfl) (by kernel_rfl) (door_met os _)) ?_
  intro W base args ds gs before hval0 hW hcnd hsz0 hLaid _
  have hN := none_of_laid hLaid
  have hval : ∀ (j : Nat) t v, Tryd.f10.params[j]? = some t → args[j]? = some v → Value.okWide Tryd.prog W .any base t v := hval0
  have hsz : (DataW.weightsEach Tryd.prog (Tryd.f10.params.toList ++ Rows.tupleTimesSpec.plain.varTypes Tryd.prog) (ds ++ gs)).all (· ≤ reachBytes) = true := hsz0
  clear hsz0 hval0
  have hW' := hW
  obtain ⟨p, q, hA0, hV, rfl, hfz, hnd⟩ := hW
  have hA : DataW.TrodAll enc Tryd.prog W 0 (fun _ => true) true Tryd.f10.params.toList args.toList ds p := hA0
  clear hA0
  rw [Tryd.params10] at hA hval hsz
  obtain ⟨v0, vs0, d0, ds0, p0, q0, hargs, rfl, rfl, h0, r0⟩ := trodAll_cons hA
  obtain ⟨v1, vs1, d1, ds1, p1, q1, rfl, rfl, rfl, h1, r1⟩ := trodAll_cons r0
  obtain ⟨v2, vs2, d2, ds2, p2, q2, rfl, rfl, rfl, h2, r2⟩ := trodAll_cons r1
  obtain ⟨rfl, rfl, rfl⟩ := trodAll_nil r2
  obtain rfl : args = #[v0, v1, v2] := by cases args; simp_all
  obtain ⟨rfl, rfl⟩ := trodVars_none hV
  have s0 := sees_val (.sl (.st [.int .i64, .int .i64, .int .i64]) 24) (by kernel_rfl) (hval 0 _ _ rfl rfl) (sees_arg hsz 0 (.sl (.st [.int .i64, .int .i64, .int .i64]) 24) (by kernel_rfl) rfl rfl h0)
  have s1 := sees_val (.int .i64) (by kernel_rfl) (hval 1 _ _ rfl rfl) (sees_arg hsz 1 (.int .i64) (by kernel_rfl) rfl rfl h1)
  have s2 := sees_val (.int .i64) (by kernel_rfl) (hval 2 _ _ rfl rfl) (sees_arg hsz 2 (.int .i64) (by kernel_rfl) rfl rfl h2)
  clear hsz
  obtain ⟨CA, n_, cc, xs_, hE, atCA, e_, lCA, bCA, p_⟩ := s0
  cases hE
  obtain ⟨cs, e1_, e2_, wCA⟩ := chunks (T := (Int × Int × Int)) cellsC (fun t => True) 3 n_ xs_ e_ (fun i_ hi_ => by
    have g_ := p_ i_ hi_
    obtain ⟨a0_, b0_, e0_, s0_, g_⟩ := g_
    obtain ⟨a1_, b1_, e1_, s1_, g_⟩ := g_
    obtain ⟨a2_, b2_, e2_, s2_, g0_⟩ := g_
    obtain ⟨k, f0_, wk⟩ := s0_
    obtain ⟨x, f1_, wx⟩ := s1_
    obtain ⟨s, f2_, ws⟩ := s2_
    have g_ : _ = _ := e0_
    rw [f0_, e1_, f1_, e2_, f2_, show b2_ = [] from g0_] at g_
    exact ⟨(k, x, s), g_, trivial⟩)
  subst e1_ e2_
  obtain ⟨nxt, hE, wnxt⟩ := s1
  cases hE
  obtain ⟨whn, hE, wwhn⟩ := s2
  cases hE
  refine (tupletimes_any CA cc cs nxt whn W atCA (by omega) hN).mono fun e W' ⟨he, hx⟩ => ?_
  subst he
  exact ⟨_, rfl, law_post laidOut (by rw [Tryd.params10]; exact (by decide +kernel)) rfl Tryd.underlying4 hW' rfl rfl rfl rfl hx⟩

theorem over : Rows.tupleTimesRow.holds Tryd.pinned (OpenSpec.ofChange Rows.tupleTimesSpec) :=
  OpenClaim.holds_of_wide 10 Tryd.f10 rfl rfl rfl rfl rfl rfl rfl ⟨rfl, rfl, rfl, rfl, rfl⟩ rfl rfl rfl rfl rfl (by kernel_rfl) Tryd.func10 (by kernel_rfl)
    (of_decide_eq_true (by kernel_rfl)) (by unfold Func.isWrapper; first | (rw [if_pos (by decide +kernel)]; kernel_rfl) | (rw [if_neg (by decide +kernel)]; exact ⟨rfl, rfl⟩))
    (fun os started H enc _ => lifted os started H enc)

theorem proved : Rows.TupleTimesCardSaid :=
  Claim7.holds_tied_plain_at .later [] [.data] true (true, "2efa9159837e655fb29eef817c42786b7f16f4cdfcdf8eda1384241598ebb389") true
    over (fun _ h => by cases h) (by kernel_rfl) (fun _ h => by cases h) tupleTimes_row_tie rfl ⟨rfl, rfl⟩ (by kernel_rfl) rfl
    (fun f fn hf hfn => by
      obtain rfl : f = 10 := Option.some.inj ((show Tryd.prog.funcNamed "vintner/vintnerlaw08.TupleTimes" = some 10 by kernel_rfl).symm.trans hf) |>.symm
      obtain rfl : fn = Tryd.f10 := (Option.some.inj (Tryd.func10.symm.trans hfn)).symm
      exact ⟨by kernel_rfl, fun j t ht => by
        rw [Tryd.params10] at ht
        have hm : t ∈ [80, 3] := by simpa using Array.mem_of_getElem? ht
        have hall : ([80, 3].all fun u => !Tryd.prog.wantsStandIn u) = true := by kernel_rfl
        exact (show Tryd.prog.wantsStandIn t = false by simpa using List.all_eq_true.1 hall t hm)⟩)
    (by kernel_rfl)
end Go.Proofs.YtfjpglohcppjeaaDoor.tupleTimes

/- THE ROW OF TupleBytes. -/
import Derived.Test.YtfjpglohcppjeaaDoorTBytes
import Derived.Test.YtfjpglohcppjeaaDoorOpen
import Derived.Test.YtfjpglohcppjeaaDoorLaid
import Derived.Test.YtfjpglohcppjeaaDoorCards
import Derived.Test.YtfjpglohcppjeaaDoorTie
import Derived.SevenTiedAt
import Derived.WalkKit
namespace Go.Proofs.YtfjpglohcppjeaaDoor.tupleBytes
open Go.ChangeShapes Go.WideShapes Go.ChangeAt Go.RowKit Go.Deep Go.Joins
set_option linter.unusedVariables false

set_option maxRecDepth 100000 in
theorem lifted (os : Os) (started : os.Started) (H : Type) (enc : TypeId × Value → H) :
    ReturnsInHanded {} Tryd.checked os 3 .any (fun w args => (Rows.tupleBytesSpec.pre enc Tryd.prog Tryd.f3 [] false w args ∧ laidMetH Tryd.prog laid1 w) ∧ sizedMet enc Tryd.prog Tryd.f3 (OpenSpec.ofChange Rows.tupleBytesSpec) false w args) (Rows.tupleBytesSpec.post enc Tryd.prog Tryd.f3 false true false false) := by
  refine returnsInHanded_of_change_and (C := Tryd.checked) (X := fun w _ => laidMetH Tryd.prog laid1 w) (fun _ _ _ hh h => h.of_heap hh) ownKnob_none started (by kernel_rfl) Tryd.func3
    (ChangeSpec.witness_shaped (enc := enc) (C := Tryd.checked) (os := os) (X := fun w _ => laidMetH Tryd.prog laid1 w) false (World.doorLaid Tryd.prog 400 os) #[.agg #[.int .i64 0, .int .i64 0, .int .i64 0, .int .i64 0, .bool false, .slice none 0 0], .slice none 0 0] 8 rfl (World.shaped_of_RefB (by kernel_rfl) (by kernel_rfl)) (by kernel_rfl) (by kernel_rfl) (by kernel_rfl) (door_met os _)) ?_
  intro W base args ds gs before hval0 hW hcnd hsz0 hLaid _
  have hN := none_of_laid hLaid
  have hval : ∀ (j : Nat) t v, Tryd.f3.params[j]? = some t → args[j]? = some v → Value.okWide Tryd.prog W .any base t v := hval0
  have hsz : (DataW.weightsEach Tryd.prog (Tryd.f3.params.toList ++ Rows.tupleBytesSpec.plain.varTypes Tryd.prog) (ds ++ gs)).all (· ≤ reachBytes) = true := hsz0
  clear hsz0 hval0
  have hW' := hW
  obtain ⟨p, q, hA0, hV, rfl, hfz, hnd⟩ := hW
  have hA : DataW.TrodAll enc Tryd.prog W 0 (fun _ => true) true Tryd.f3.params.toList args.toList ds p := hA0
  clear hA0
  rw [Tryd.params3] at hA hval hsz
  obtain ⟨v0, vs0, d0, ds0, p0, q0, hargs, rfl, rfl, h0, r0⟩ := trodAll_cons hA
  obtain ⟨v1, vs1, d1, ds1, p1, q1, rfl, rfl, rfl, h1, r1⟩ := trodAll_cons r0
  obtain ⟨rfl, rfl, rfl⟩ := trodAll_nil r1
  obtain rfl : args = #[v0, v1] := by cases args; simp_all
  obtain ⟨rfl, rfl⟩ := trodVars_none hV
  have s0 := sees_val (.st [.int .i64, .int .i64, .st [.int .i64, .int .i64], .bool, .sl (.st [.int .i64, .int .i64, .str]) 32]) (by kernel_rfl) (hval 0 _ _ rfl rfl) (sees_arg hsz 0 (.st [.int .i64, .int .i64, .st [.int .i64, .int .i64], .bool, .sl (.st [.int .i64, .int .i64, .str]) 32]) (by kernel_rfl) rfl rfl h0)
  have s1 := sees_val (.sl (.int .i64) 8) (by kernel_rfl) (hval 1 _ _ rfl rfl) (sees_arg hsz 1 (.sl (.int .i64) 8) (by kernel_rfl) rfl rfl h1)
  clear hsz
  obtain ⟨cs_, hE, s0⟩ := s0
  cases hE
  obtain ⟨a_, b_, hE, s0_0, s0r⟩ := s0
  cases hE
  obtain ⟨a_, b_, hE, s0_1, s0r⟩ := s0r
  cases hE
  obtain ⟨a_, b_, hE, s0_2, s0r⟩ := s0r
  cases hE
  obtain ⟨a_, b_, hE, s0_3, s0r⟩ := s0r
  cases hE
  obtain ⟨a_, b_, hE, s0_4, s0r⟩ := s0r
  cases hE
  cases s0r
  obtain ⟨a, hE, wa⟩ := s0_0
  cases hE
  obtain ⟨b, hE, wb⟩ := s0_1
  cases hE
  obtain ⟨a_, b_, hE, s0_2_0, s0_2r⟩ := s0_2
  cases hE
  obtain ⟨a_, b_, hE, s0_2_1, s0_2r⟩ := s0_2r
  cases hE
  cases s0_2r
  obtain ⟨n1, hE, wn1⟩ := s0_2_0
  cases hE
  obtain ⟨n2, hE, wn2⟩ := s0_2_1
  cases hE
  obtain ⟨ho, hE⟩ := s0_3
  cases hE
  obtain ⟨RA, n_, rc, xs_, hE, atRA, e_, lRA, bRA, p_⟩ := s0_4
  cases hE
  obtain ⟨rs, e1_, e2_, wRA⟩ := chunks (T := Val) cellsV (fun t => -9223372036854775808 ≤ t.2.1 ∧ t.2.1 ≤ 9223372036854775807) 3 n_ xs_ e_ (fun i_ hi_ => by
    have g_ := p_ i_ hi_
    obtain ⟨a0_, b0_, e0_, s0_, g_⟩ := g_
    obtain ⟨a1_, b1_, e1_, s1_, g_⟩ := g_
    obtain ⟨a2_, b2_, e2_, s2_, g0_⟩ := g_
    obtain ⟨k, f0_, wk⟩ := s0_
    obtain ⟨n, f1_, wn⟩ := s1_
    obtain ⟨s, f2_, zs⟩ := s2_
    have g_ : _ = _ := e0_
    rw [f0_, e1_, f1_, e2_, f2_, show b2_ = [] from g0_] at g_
    exact ⟨(k, n, s), g_, i64_bd wn⟩)
  subst e1_ e2_
  obtain ⟨LA0, c0, l, hE, atLA0, lLA0, bLA0, wLA0⟩ := sees_ints s1
  cases hE
  refine (tuplebytes_any a b n1 n2 ho RA rc rs LA0 c0 l W atRA (by omega) (fun v hv _ => wRA v hv) atLA0 (by omega) hN).mono fun e W' ⟨he, hx⟩ => ?_
  subst he
  exact ⟨_, rfl, law_post laidOut (by rw [Tryd.params3]; exact (by decide +kernel)) rfl Tryd.underlying4 hW' rfl rfl rfl rfl hx⟩

theorem over : Rows.tupleBytesRow.holds Tryd.pinned (OpenSpec.ofChange Rows.tupleBytesSpec) :=
  OpenClaim.holds_of_wide 3 Tryd.f3 rfl rfl rfl rfl rfl rfl rfl ⟨rfl, rfl, rfl, rfl, rfl⟩ rfl rfl rfl rfl rfl (by kernel_rfl) Tryd.func3 (by kernel_rfl)
    (of_decide_eq_true (by kernel_rfl)) (by unfold Func.isWrapper; first | (rw [if_pos (by decide +kernel)]; kernel_rfl) | (rw [if_neg (by decide +kernel)]; exact ⟨rfl, rfl⟩))
    (fun os started H enc _ => lifted os started H enc)

theorem proved : Rows.TupleBytesCardSaid :=
  Claim7.holds_tied_plain_at .later [] [.data] true (true, "2efa9159837e655fb29eef817c42786b7f16f4cdfcdf8eda1384241598ebb389") true
    over (fun _ h => by cases h) (by kernel_rfl) (fun _ h => by cases h) tupleBytes_row_tie rfl ⟨rfl, rfl⟩ (by kernel_rfl) rfl
    (fun f fn hf hfn => by
      obtain rfl : f = 3 := Option.some.inj ((show Tryd.prog.funcNamed "vintner/vintnerlaw08.TupleBytes" = some 3 by kernel_rfl).symm.trans hf) |>.symm
      obtain rfl : fn = Tryd.f3 := (Option.some.inj (Tryd.func3.symm.trans hfn)).symm
      exact ⟨by kernel_rfl, fun j t ht => by
        rw [Tryd.params3] at ht
        have hm : t ∈ [27, 28] := by simpa using Array.mem_of_getElem? ht
        have hall : ([27, 28].all fun u => !Tryd.prog.wantsStandIn u) = true := by kernel_rfl
        exact (show Tryd.prog.wantsStandIn t = false by simpa using List.all_eq_true.1 hall t hm)⟩)
    (by kernel_rfl)
end Go.Proofs.YtfjpglohcppjeaaDoor.tupleBytes

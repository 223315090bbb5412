/- THE ROW OF PageBytes. -/
import Derived.Test.YtkkldciofndedaaPageBytes
import Derived.Test.YtkkldciofndedaaOpen
import Derived.WalkKit
namespace Go.Proofs.Ytkkldciofndedaa.pageBytes
open Go.ChangeShapes Go.WideShapes Go.ChangeAt Go.RowKit Go.Deep Go.Joins
set_option linter.unusedVariables false

set_option maxRecDepth 100000 in
theorem lifted (os : Os) (started : os.Started) (H : Type) (enc : TypeId × Value → H) :
    ReturnsInHanded {} Try.checked os 10 .any (Rows.pageBytesSpec.pre6 enc Try.prog Try.f10 Rows.pageBytesRow.domain false) (Rows.pageBytesSpec.post enc Try.prog Try.f10 false true false false) := by
  refine returnsInHanded_of_change_sized (C := Try.checked) ownKnob_none started (by kernel_rfl) Try.func10
    (ChangeSpec.witness6 (enc := enc) (C := Try.checked) false ⟨#[], #[.agg #[.int .i64 0, .int .i64 0, .slice none 0 0], .agg #[.int .i64 0, .int .i64 0, .slice none 0 0], .agg #[.string ByteArray.empty, .slice none 0 0, .bool false]], []⟩ 8 (by kernel_rfl) (by kernel_rfl) (by kernel_rfl) (by kernel_rfl)) ?_
  intro W base args ds gs before hval0 hW hcnd hsz0 _
  have hval : ∀ (j : Nat) t v, Try.f10.params[j]? = some t → args[j]? = some v → Value.okWide Try.prog W .any base t v := hval0
  have hsz : (DataW.weightsEach Try.prog (Try.f10.params.toList ++ Rows.pageBytesSpec.plain.varTypes Try.prog) (ds ++ gs)).all (· ≤ reachBytes) = true := hsz0
  clear hsz0 hval0
  have hW' := hW
  obtain ⟨p, q, hA0, hV, rfl, hfz, hnd⟩ := hW
  have hA : DataW.TrodAll enc Try.prog W 0 (fun _ => true) true Try.f10.params.toList args.toList ds p := hA0
  clear hA0
  rw [Try.params10] at hA hval hsz
  obtain ⟨v0, vs0, d0, ds0, p0, q0, hargs, rfl, rfl, h0, r0⟩ := trodAll_cons hA
  obtain ⟨v1, vs1, d1, ds1, p1, q1, rfl, rfl, rfl, h1, r1⟩ := trodAll_cons r0
  obtain ⟨v2, vs2, d2, ds2, p2, q2, rfl, rfl, rfl, h2, r2⟩ := trodAll_cons r1
  obtain ⟨rfl, rfl, rfl⟩ := trodAll_nil r2
  obtain rfl : args = #[v0, v1, v2] := by cases args; simp_all
  obtain ⟨rfl, rfl⟩ := trodVars_none hV
  have s0 := sees_val (.st [.int .i64, .int .i64, .sl .str 16]) (by kernel_rfl) (hval 0 _ _ rfl rfl) (sees_arg hsz 0 (.st [.int .i64, .int .i64, .sl .str 16]) (by kernel_rfl) rfl rfl h0)
  have s1 := sees_val (.st [.int .i64, .int .i64, .sl .str 16]) (by kernel_rfl) (hval 1 _ _ rfl rfl) (sees_arg hsz 1 (.st [.int .i64, .int .i64, .sl .str 16]) (by kernel_rfl) rfl rfl h1)
  have s2 := sees_val (.st [.str, .sl (.st [.int .i64, .int .i64]) 16, .bool]) (by kernel_rfl) (hval 2 _ _ rfl rfl) (sees_arg hsz 2 (.st [.str, .sl (.st [.int .i64, .int .i64]) 16, .bool]) (by kernel_rfl) rfl rfl h2)
  clear hsz
  obtain ⟨cs_, hE, s0⟩ := s0
  cases hE
  obtain ⟨a_, b_, hE, s0_0, s0r⟩ := s0
  cases hE
  obtain ⟨a_, b_, hE, s0_1, s0r⟩ := s0r
  cases hE
  obtain ⟨a_, b_, hE, s0_2, s0r⟩ := s0r
  cases hE
  cases s0r
  obtain ⟨kp, hE, wkp⟩ := s0_0
  cases hE
  obtain ⟨lp, hE, wlp⟩ := s0_1
  cases hE
  obtain ⟨Ap, cp, sp, hE, atAp, lAp, bAp, wAp⟩ := sees_strs s0_2
  cases hE
  obtain ⟨cs_, hE, s1⟩ := s1
  cases hE
  obtain ⟨a_, b_, hE, s1_0, s1r⟩ := s1
  cases hE
  obtain ⟨a_, b_, hE, s1_1, s1r⟩ := s1r
  cases hE
  obtain ⟨a_, b_, hE, s1_2, s1r⟩ := s1r
  cases hE
  cases s1r
  obtain ⟨k, hE, wk⟩ := s1_0
  cases hE
  obtain ⟨l, hE, wl⟩ := s1_1
  cases hE
  obtain ⟨A, c, ss, hE, atA, lA, bA, wA⟩ := sees_strs s1_2
  cases hE
  obtain ⟨cs_, hE, s2⟩ := s2
  cases hE
  obtain ⟨a_, b_, hE, s2_0, s2r⟩ := s2
  cases hE
  obtain ⟨a_, b_, hE, s2_1, s2r⟩ := s2r
  cases hE
  obtain ⟨a_, b_, hE, s2_2, s2r⟩ := s2r
  cases hE
  cases s2r
  obtain ⟨S, hE, zS⟩ := s2_0
  cases hE
  obtain ⟨QA, n_, qc, xs_, hE, atQA, e_, lQA, bQA, p_⟩ := s2_1
  cases hE
  obtain ⟨qs, e1_, e2_, wQA⟩ := chunks (T := (Int × Int)) prI (fun t => True) 2 n_ xs_ e_ (fun i_ hi_ => by
    have g_ := p_ i_ hi_
    obtain ⟨a0_, b0_, e0_, s0_, g_⟩ := g_
    obtain ⟨a1_, b1_, e1_, s1_, g0_⟩ := g_
    obtain ⟨x, f0_, wx⟩ := s0_
    obtain ⟨y, f1_, wy⟩ := s1_
    have g_ : _ = _ := e0_
    rw [f0_, e1_, f1_, show b1_ = [] from g0_] at g_
    exact ⟨(x, y), g_, trivial⟩)
  subst e1_ e2_
  obtain ⟨sm, hE⟩ := s2_2
  cases hE
  refine (pagebytes_any kp lp Ap cp sp k l A c ss S QA qc qs sm W atAp (by omega) (fun s hs => by have := wAp s hs; omega) atA (by omega) (by omega) atQA (by omega)).mono fun e W' ⟨he, hx⟩ => ?_
  subst he
  exact ⟨_, rfl, law_post laidOut (by rw [Try.params10]; exact (by decide +kernel)) rfl Try.underlying4 hW' rfl rfl rfl rfl hx⟩

theorem over : Rows.pageBytesRow.holds Try.pinned (OpenSpec.ofChange Rows.pageBytesSpec) :=
  OpenClaim.holds_of_wide 10 Try.f10 rfl rfl rfl rfl rfl rfl rfl ⟨rfl, rfl, rfl, rfl, rfl⟩ rfl rfl rfl rfl rfl (by kernel_rfl) Try.func10 (by kernel_rfl)
    (of_decide_eq_true (by kernel_rfl)) (by unfold Func.isWrapper; first | (rw [if_pos (by decide +kernel)]; kernel_rfl) | (rw [if_neg (by decide +kernel)]; exact ⟨rfl, rfl⟩))
    (fun os started H enc _ => lifted os started H enc)

theorem proved : Rows.PageBytesSaid :=
  over
end Go.Proofs.Ytkkldciofndedaa.pageBytes

/- THE ROW OF PageOwn. -/
import Derived.Test.YtkkldciofndedaaPageOwn
import Derived.Test.YtkkldciofndedaaRow3
import Derived.WalkKit
namespace Go.Proofs.Ytkkldciofndedaa.pageOwn
open Go.ChangeShapes Go.WideShapes Go.ChangeAt Go.RowKit Go.Deep Go.Joins
set_option linter.unusedVariables false

set_option maxRecDepth 100000 in
theorem lifted (os : Os) (started : os.Started) (H : Type) (enc : TypeId × Value → H) :
    ReturnsInHanded {} Try.checked os 7 .any (Rows.pageOwnSpec.pre6 enc Try.prog Try.f7 Rows.pageOwnRow.domain false) (Rows.pageOwnSpec.post enc Try.prog Try.f7 false true false false) := by
  refine returnsInHanded_of_change (C := Try.checked) ownKnob_none started (by kernel_rfl) Try.func7
    (ChangeSpec.witness6 (enc := enc) (C := Try.checked) false ⟨#[], #[.agg #[.int .i64 0, .int .i64 0, .slice none 0 0], .agg #[.int .i64 0, .int .i64 0, .string ByteArray.empty, .int .i64 0, .int .i64 0]], []⟩ 8 (by kernel_rfl) (by kernel_rfl) (by kernel_rfl) (by kernel_rfl)) ?_
  intro W base args ds gs before hval0 hW hcnd _
  have hval : ∀ (j : Nat) t v, Try.f7.params[j]? = some t → args[j]? = some v → Value.okWide Try.prog W .any base t v := hval0
  have hW' := hW
  obtain ⟨p, q, hA0, hV, rfl, hfz, hnd⟩ := hW
  have hA : DataW.TrodAll enc Try.prog W 0 (fun _ => true) true Try.f7.params.toList args.toList ds p := hA0
  rw [Try.params7] at hA hval
  obtain ⟨v0, vs0, d0, ds0, p0, q0, hargs, rfl, rfl, h0, r0⟩ := trodAll_cons hA
  obtain ⟨v1, vs1, d1, ds1, p1, q1, rfl, rfl, rfl, h1, r1⟩ := trodAll_cons r0
  obtain ⟨rfl, rfl, rfl⟩ := trodAll_nil r1
  obtain rfl : args = #[v0, v1] := by cases args; simp_all
  obtain ⟨rfl, rfl⟩ := trodVars_none hV
  obtain ⟨k, l, A, c, ss, rfl, hAt, hl, _⟩ := open_ils Try.underlying24 (by kernel_rfl) (by kernel_rfl) (by kernel_rfl) (by kernel_rfl) (by kernel_rfl) Try.underlying9 (by kernel_rfl) (hval 0 24 _ rfl rfl) h0
  obtain ⟨pg, slot, s0, lsn, fr, rfl, z0⟩ := open_edit Try.underlying43 (by kernel_rfl) Try.underlying41 (by decide +kernel) (by decide +kernel) (by kernel_rfl) (by kernel_rfl) (by kernel_rfl) (by kernel_rfl) (by kernel_rfl) (hval 1 43 _ rfl rfl) h1
  refine (pageown_any k l A c ss pg slot s0 lsn fr W hAt hl z0).mono fun e W' ⟨he, hx⟩ => ?_
  subst he
  exact ⟨_, rfl, law_post laidOut (by rw [Try.params7]; exact (by decide +kernel)) rfl Try.underlying4 hW' rfl rfl rfl rfl hx⟩

theorem over : Rows.pageOwnRow.holds Try.pinned (OpenSpec.ofChange Rows.pageOwnSpec) :=
  OpenClaim.holds_of_wide 7 Try.f7 rfl rfl rfl rfl rfl rfl rfl ⟨rfl, rfl, rfl, rfl, rfl⟩ rfl rfl rfl rfl rfl (by kernel_rfl) Try.func7 (by kernel_rfl)
    (of_decide_eq_true (by kernel_rfl)) (by unfold Func.isWrapper; first | (rw [if_pos (by decide +kernel)]; kernel_rfl) | (rw [if_neg (by decide +kernel)]; exact ⟨rfl, rfl⟩))
    (fun os started H enc _ => lifted os started H enc)

theorem proved : Rows.PageOwnSaid :=
  over
end Go.Proofs.Ytkkldciofndedaa.pageOwn

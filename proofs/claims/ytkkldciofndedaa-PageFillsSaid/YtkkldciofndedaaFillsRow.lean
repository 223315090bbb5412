/- THE ROW OF PageFills. -/
import Derived.Test.YtkkldciofndedaaPageFills
import Derived.Test.YtkkldciofndedaaRow3
import Derived.WalkKit
namespace Go.Proofs.Ytkkldciofndedaa.pageFills
open Go.ChangeShapes Go.WideShapes Go.ChangeAt Go.RowKit Go.Deep Go.Joins
set_option linter.unusedVariables false

set_option maxRecDepth 100000 in
theorem lifted (os : Os) (started : os.Started) (H : Type) (enc : TypeId × Value → H) :
    ReturnsInHanded {} Try.checked os 9 .any (Rows.pageFillsSpec.pre6 enc Try.prog Try.f9 Rows.pageFillsRow.domain false) (Rows.pageFillsSpec.post enc Try.prog Try.f9 false true false false) := by
  refine returnsInHanded_of_change (C := Try.checked) ownKnob_none started (by kernel_rfl) Try.func9
    (ChangeSpec.witness6 (enc := enc) (C := Try.checked) false ⟨#[], #[.int .u16 0], []⟩ 8 (by kernel_rfl) (by kernel_rfl) (by kernel_rfl) (by kernel_rfl)) ?_
  intro W base args ds gs before hval0 hW hcnd _
  have hval : ∀ (j : Nat) t v, Try.f9.params[j]? = some t → args[j]? = some v → Value.okWide Try.prog W .any base t v := hval0
  have hW' := hW
  obtain ⟨p, q, hA0, hV, rfl, hfz, hnd⟩ := hW
  have hA : DataW.TrodAll enc Try.prog W 0 (fun _ => true) true Try.f9.params.toList args.toList ds p := hA0
  rw [Try.params9] at hA hval
  obtain ⟨v0, vs0, d0, ds0, p0, q0, hargs, rfl, rfl, h0, r0⟩ := trodAll_cons hA
  obtain ⟨rfl, rfl, rfl⟩ := trodAll_nil r0
  obtain rfl : args = #[v0] := by cases args; simp_all
  obtain ⟨rfl, rfl⟩ := trodVars_none hV
  obtain ⟨a, rfl, _, _, z0⟩ := open_int Try.underlying58 (hval 0 58 _ rfl rfl) h0
  have z1 : (decide ((0 : Int) ≤ a) && decide (a ≤ 65535)) = true := z0
  have hz0 : 0 ≤ a ∧ a ≤ 65535 := by simpa using z1
  refine (pagefills_any a W hz0.1 hz0.2).mono fun e W' ⟨he, hx⟩ => ?_
  subst he
  exact ⟨_, rfl, law_post laidOut (by rw [Try.params9]; exact (by decide +kernel)) rfl Try.underlying4 hW' rfl rfl rfl rfl hx⟩

theorem over : Rows.pageFillsRow.holds Try.pinned (OpenSpec.ofChange Rows.pageFillsSpec) :=
  OpenClaim.holds_of_wide 9 Try.f9 rfl rfl rfl rfl rfl rfl rfl ⟨rfl, rfl, rfl, rfl, rfl⟩ rfl rfl rfl rfl rfl (by kernel_rfl) Try.func9 (by kernel_rfl)
    (of_decide_eq_true (by kernel_rfl)) (by unfold Func.isWrapper; first | (rw [if_pos (by decide +kernel)]; kernel_rfl) | (rw [if_neg (by decide +kernel)]; exact ⟨rfl, rfl⟩))
    (fun os started H enc _ => lifted os started H enc)

theorem proved : Rows.PageFillsSaid :=
  over
end Go.Proofs.Ytkkldciofndedaa.pageFills

/- What every row of this seat shares: the post of a law that writes nothing old, and the opening of its arguments. -/
import Derived.Test.YtfjpglohcppjeaaDoorBlk
import Derived.Test.YtfjpglohcppjeaaDoorRows
import Derived.ProofKit
import Derived.OpenShut
import Derived.Below
import Derived.ChangeSame
import Derived.WideKeyArgs
import Derived.SliceStrings
import Derived.ChangeMaps5
import Derived.Lib.SmallJoins
namespace Go.Proofs.YtfjpglohcppjeaaDoor
open Go.ChangeShapes Go.WideShapes Go.ChangeAt Go.RowKit Go.Deep Go.Joins
set_option linter.unusedVariables false
set_option linter.unusedSimpArgs false

theorem ownKnob_none : ownKnob Tryd.prog.godebug = none := by kernel_rfl
theorem laidOut : laidOutB Tryd.prog = true := by kernel_rfl

section
variable {H : Type} {enc : TypeId × Value → H} {P : Program}
theorem trodAll_stays (hl : laidOutB P = true) {W W' : World} {sp : Nat → Bool} : ∀ {ts : List TypeId} {vs : List Value} {ds : List (DataW H)} {ps : List MemPlace}, (∀ t ∈ ts, P.readableRec t = true ∧ t < P.types.size) →
    DataW.TrodAll enc P W 0 (fun _ => true) true ts vs ds ps → (∀ p ∈ ps, W.sameAt W' p) → (∀ p ∈ ps, sp p.block = true) → DataW.TrodAll enc P W' 0 sp true ts vs ds ps
  | [], [], [], _, _, h, _, _ => h
  | t :: _, _ :: _, _ :: _, _, hT, ⟨p, q, h1, h2, e⟩, hsm, hs =>
    ⟨p, q, WideElems.Trod_stays hl (hT t (by simp)).1 (hT t (by simp)).2 h1 (fun x hx => hsm x (by rw [e]; exact List.mem_append_left _ hx)) (fun x hx => hs x (by rw [e]; exact List.mem_append_left _ hx)),
      trodAll_stays hl (fun t ht => hT t (by simp [ht])) h2 (fun x hx => hsm x (by rw [e]; exact List.mem_append_right _ hx)) (fun x hx => hs x (by rw [e]; exact List.mem_append_right _ hx)), e⟩

/-- THE POST OF A LAW: true, and the input reads as it did, where the call wrote nothing that was there. -/
theorem law_post {f : Func} {s : ChangeSpec} {fresh handsOn again : Bool} {W W' : World} {args : Array Value} {ds gs : List (DataW H)} {before : List MemPlace} {tb : TypeId}
    (hl : laidOutB P = true) (hT : ∀ t ∈ f.params.toList, P.readableRec t = true ∧ t < P.types.size) (hr : f.resultTypes = #[tb]) (hb : P.underlying tb = some .bool)
    (hW : DataW.Whole enc P f.params.toList s.vars false W args.toList ds gs before) (hvs : s.vars = [])
    (hres : (s.fn H (ds ++ gs)).results = [.lit (.bool true)]) (hargs : (s.fn H (ds ++ gs)).args = ds) (hvars : (s.fn H (ds ++ gs)).vars = []) (hx : Ext W W') :
    s.post enc P f false fresh handsOn again W args (.bool true) W' := by
  have hlt : ∀ p ∈ before, p.block < W.heap.size := fun p hp => hW.lt p hp
  have hold : ∀ p ∈ before, (fun b => decide (b < W.heap.size)) p.block = true := fun p hp => by simpa using hlt p hp
  have hW0 := hW
  obtain ⟨p, q, hA, hV, rfl, hz, hn⟩ := hW
  rw [hvs] at hV
  obtain ⟨rfl, rfl⟩ := trodVars_none hV
  rw [List.append_nil] at hlt hold hz
  have HA : ∀ sp : Nat → Bool, (∀ x ∈ p, sp x.block = true) → DataW.TrodAll enc P W' 0 sp true f.params.toList args.toList (s.fn H (ds ++ [])).args p := fun sp hs => by
    rw [hargs]
    exact trodAll_stays hl hT hA (fun x hx' => hx.out.same (hlt x hx')) hs
  have HR : ∀ (b : Nat) (sp : Nat → Bool) (hd : Bool), DataW.TrodAll enc P W' b sp hd f.resultTypes.toList ((Value.bool true).resultList f.resultTypes.size) (s.fn H (ds ++ [])).results [] := fun b sp hd => by
    rw [hres, hr]
    exact trodAll_cons_mk (shut_bool hb _) trodAll_mk0
  have HV : ∀ sp : Nat → Bool, DataW.TrodVars enc P W' sp s.vars (s.fn H (ds ++ [])).vars [] := fun sp => by
    rw [hvs, hvars]
    rfl
  refine ⟨ds, [], p ++ [], [], p, [], hW0, HR _ _ _, HA _ hold, HV _, World.keptBut_mono (fun x hx' => ⟨hx', ?_⟩) (hx.out.frame (· ∈ p ++ [])), fun _ => ?_⟩
  · rw [List.append_nil] at hx'
    exact Or.inr (Or.inl hx')
  · refine ⟨?_, _, _, ([] ++ p) ++ [], ⟨[] ++ p, [], trodAll_append (HA _ (fun _ _ => rfl)) (HR _ _ _), HV _, rfl, ?_, fun ha => by cases ha⟩, ?_⟩
    · exact ok_one hr rfl (okWide_bool_mk hb _)
    · intro b off hp
      have hin : MemPlace.cell b off ∈ p := by simpa using hp
      rw [hx.out.frozen (hlt _ hin)]
      exact hz b off hin
    · intro x hx' _
      simpa using hx'

theorem trod_len {w : World} {base : Nat} {spare : Nat → Bool} {held : Bool} {fuel : Nat} {t e : TypeId} {cs : List Value} {x : DataW H × List MemPlace} (ht : P.underlying t = some (.slice e)) (he : P.underlying e = some .string) (hc : P.cellsOf e = 1)
    (h : DataW.trod enc P w base spare held fuel t cs = some x) : ∃ (A : Option Addr) (c : Nat) (ss : List ByteArray), cs = [.slice A ss.length c] ∧ At w A (ss.map Value.string) ∧ ss.length ≤ 9223372036854775807 ∧ ss.length ≤ c ∧ c ≤ 9223372036854775807 := by
  rcases open_strings ht he hc h with ⟨rfl, _⟩ | ⟨a, len, cap, ss, rfl, _, hl, hm, hlen, _, hcell, _⟩
  · exact ⟨none, 0, [], rfl, At.nil _ _, by simp, by simp, by omega⟩
  · have hle : len ≤ ss.length := by rw [hlen]; split <;> omega
    have hm' : cap ≤ 9223372036854775807 := hm
    have hL : (ss.take len).length = len := by simp; omega
    refine ⟨some a, cap, ss.take len, by rw [hL], fun j u hj => ?_, by omega, by omega, hm'⟩
    rw [List.getElem?_map, List.getElem?_take] at hj
    split at hj
    · rename_i hjl
      have hjs : j < ss.length := by omega
      rw [List.getElem?_eq_getElem hjs] at hj
      simp only [Option.map_some, Option.some.injEq] at hj
      subst hj
      have h1 := hcell j hjs
      rw [show ss.getD j ByteArray.empty = ss[j] by simp [List.getD, hjs]] at h1
      have h2 := World.block_lt_of_cell? _ _ h1
      rw [add_block] at h2
      exact ⟨a, rfl, h2, h1⟩
    · cases hj
theorem open_ils {W : World} {t e : TypeId} {f0 f1 f2 : Field} {v : Value} {d : DataW H} {p : List MemPlace} {r : Reach} {b0 : Nat} (hs : P.underlying t = some (.struct #[f0, f1, f2])) (hone : oneCellFields P #[f0, f1, f2] = true) (hC : P.cellsOf t = 3)
    (h0 : P.underlying f0.type = some (.int .i64)) (h1 : P.underlying f1.type = some (.int .i64)) (h2 : P.underlying f2.type = some (.slice e)) (he : P.underlying e = some .string) (hc : P.cellsOf e = 1)
    (hv : Value.okWide P W r b0 t v) (h : DataW.Trod enc P W 0 (fun _ => true) true t v d p) :
    ∃ (k l : Int) (A : Option Addr) (c : Nat) (ss : List ByteArray), v = .agg #[.int .i64 k, .int .i64 l, .slice A ss.length c] ∧ At W A (ss.map Value.string) ∧ ss.length ≤ 9223372036854775807 ∧ ss.length ≤ c ∧ c ≤ 9223372036854775807 ∧ (Lit.int .i64 k).wf = true ∧ (Lit.int .i64 l).wf = true := by
  obtain ⟨v0, v1, v2, y0, y1, y2, n, rfl, rfl, rfl, t0, t1, t2⟩ := open_agg3 hs hone hC hv h
  obtain ⟨k, e0, _, wk⟩ := DataW.trod_int h0 t0
  obtain ⟨l, e1, _, wl⟩ := DataW.trod_int h1 t1
  obtain ⟨A, c, ss, e2, hA, hl, hcc, hcm⟩ := trod_len h2 he hc t2
  simp only [List.cons.injEq, and_true] at e0 e1 e2
  subst e0; subst e1; subst e2
  exact ⟨k, l, A, c, ss, rfl, hA, hl, hcc, hcm, wk, wl⟩
end
end Go.Proofs.YtfjpglohcppjeaaDoor

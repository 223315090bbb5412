/- Maps from int to bool as entries. -/
import Derived.Maps.OwnSet
import Derived.Maps.Views
import Derived.Carry
import Derived.Test.YtfjpglohcppjeaaDoorVu
namespace Go.Proofs.YtfjpglohcppjeaaDoor
open Go.RowKit Go.Maps
set_option linter.unusedVariables false
set_option linter.unusedSimpArgs false

/-- block b holds a map from int to bool of at most n entries that answers m -/
def MapB (P : Program) (k e b n : Nat) (m : Int → Bool) (W : World) : Prop :=
  ∃ D : DataW Unit, W.ownsMap P k (plainElem P e) b n D ∧ IsMap D ∧ ∀ x : Int, (Lit.int .i64 x).wf = true → D.atKey (.int .i64 x) (.lit (.bool false)) = .lit (.bool (m x))
def eMb (P : Program) (k e b n : Nat) (m : Int → Bool) : Ent := ⟨[b], MapB P k e b n m⟩
theorem eMb_loc (P : Program) (k e b n : Nat) (m : Int → Bool) : (eMb P k e b n m).loc := fun W W' h hb => by
  obtain ⟨D, ⟨es, clock, h1, h2⟩, h3⟩ := hb
  exact ⟨D, ⟨es, clock, (h b (by simp [eMb])).trans h1, h2⟩, h3⟩
theorem MapB.lt {P : Program} {k e b n : Nat} {m : Int → Bool} {W : World} (h : MapB P k e b n m W) : b < W.heap.size := by
  obtain ⟨D, hD, _⟩ := h
  exact hD.lt
theorem i64_wf {x : Int} (h : -9223372036854775808 ≤ x ∧ x ≤ 9223372036854775807) : (Lit.int .i64 x).wf = true := by
  show (decide (IntKind.i64.min ≤ x) && decide (x ≤ IntKind.i64.max)) = true
  have h1 : IntKind.i64.min = -9223372036854775808 := by decide
  have h2 : IntKind.i64.max = 9223372036854775807 := by decide
  rw [h1, h2, decide_eq_true h.1, decide_eq_true h.2]; rfl
section
variable {P : Program} {o : Oper} {ρ : Operand → Value} {W : World} {k e b n : Nat} {m : Int → Bool}
theorem MapB.look {t : TypeId} {x : Int} (h : MapB P k e b n m W) (hk : P.underlying k = some (.int .i64)) (he : P.underlying e = some .bool) (ht : P.underlying t = some (.map k e)) (hz : ∀ w, (zeroValue e).run P w = .ok (.bool false) w) (hx : (Lit.int .i64 x).wf = true) :
    (Instr.lookup t (.map (some b)) (.int .i64 x) false).run P W = .ok (.bool (m x)) W := by
  obtain ⟨D, hD, _, hm⟩ := h
  obtain ⟨v, ps, hrun, hv⟩ := hD.lookup (int_keyed hk) ht (hz W) (plainElem_bool he false) (keyOf_int_mk hk hx)
  rw [hm x hx] at hv
  have : v = .bool (m x) := by
    unfold plainElem at hv
    rw [he] at hv
    cases v <;> simp at hv
    rw [hv.1]
  rw [this] at hrun
  exact hrun
theorem run_lookMb {t : TypeId} {y z : Operand} {x : Int} (h : o.op = .lookup t y z false) (hy : ρ y = .map (some b)) (hz : ρ z = .int .i64 x) (hb : MapB P k e b n m W) (hk : P.underlying k = some (.int .i64) := by kernel_rfl) (he : P.underlying e = some .bool := by kernel_rfl) (ht : P.underlying t = some (.map k e) := by kernel_rfl) (h0 : ∀ w, (zeroValue e).run P w = .ok (.bool false) w) (hx : -9223372036854775808 ≤ x ∧ x ≤ 9223372036854775807) :
    (execOp ρ o).run P W = .ok (.value (.bool (m x))) W := by
  have hrun := hb.look hk he ht h0 (i64_wf hx)
  unfold execOp
  rw [h]
  simp [hy, hz, hrun]
theorem MapB.set {t : TypeId} {x : Int} {v : Bool} (h : MapB P k e b n m W) (hk : P.underlying k = some (.int .i64)) (he : P.underlying e = some .bool) (ht : P.underlying t = some (.map k e)) (hn : n < 1000000) (hx : (Lit.int .i64 x).wf = true) :
    ∃ W', (Instr.mapUpdate t (.map (some b)) (.int .i64 x) (.bool v)).run P W = .ok () W' ∧ MapB P k e b (n + 1) (fun y => if y = x then v else m y) W' ∧ Upd [b] W W' := by
  obtain ⟨D, hD, hI, hm⟩ := h
  obtain ⟨W', hrun, hown, hg⟩ := hD.update (int_keyed hk) ht (by simp only [maxLen]; omega) (keyOf_int_mk hk hx) (plainElem_bool he v)
  refine ⟨W', hrun, ⟨_, hown, hown.isMap, fun y hy => ?_⟩, ⟨hg.os, hg.tape, hg.output, hg.size, fun i hi hn => hg.block i hi (fun e' => hn (by cases e'; simp))⟩⟩
  by_cases e' : y = x
  · subst e'
    show _ = DataW.lit (Lit.bool (if y = y then v else m y))
    rw [if_pos rfl]
    exact atKey_put_same hI (by trivial) _ _
  · show _ = DataW.lit (Lit.bool (if y = x then v else m y))
    rw [if_neg e', atKey_put_other (by simpa using e')]
    exact hm y hy
theorem run_setMb {t : TypeId} {y z u : Operand} {x : Int} {v : Bool} (h : o.op = .mapUpdate t y z u ∨ o.op = .insert t y z u) (hy : ρ y = .map (some b)) (hz : ρ z = .int .i64 x) (hu : ρ u = .bool v) (hb : MapB P k e b n m W) (hn : n < 1000000) (hx : -9223372036854775808 ≤ x ∧ x ≤ 9223372036854775807)
    (hk : P.underlying k = some (.int .i64) := by kernel_rfl) (he : P.underlying e = some .bool := by kernel_rfl) (ht : P.underlying t = some (.map k e) := by kernel_rfl) :
    ∃ W', (execOp ρ o).run P W = .ok .skip W' ∧ MapB P k e b (n + 1) (fun y => if y = x then v else m y) W' ∧ Upd [b] W W' := by
  obtain ⟨W', hrun, h1, h2⟩ := hb.set (v := v) hk he ht hn (i64_wf hx)
  refine ⟨W', ?_, h1, h2⟩
  unfold execOp
  rcases h with h | h <;> rw [h] <;> simp [hy, hz, hu, hrun]
theorem MapB.made : MapB P k e W.heap.size 0 (fun _ => false) (W.alloc (.map #[] 0)) := ⟨.map [], World.ownsMap_made W P k (plainElem P e), ⟨_, rfl⟩, fun x hx => rfl⟩
end
def pbm : Value → Nat
  | .map (some b) => b
  | _ => 0
section
variable {P : Program} {ops : Array Oper} {L : List Nat} {a0 : Act} {w0 : World} {bor : List Nat} {X0 : List Ent} {us cr kl : List (List Nat)}
  {D : Nat → (Tmp → Value) → (Tmp → Value) → (Nat → Ent) → Prop} {i : Nat} {o : Oper} {ρ : Operand → Value} {β : Tmp → Value} {W : World} {X : Nat → Ent}
theorem CtxV.mb {q k e b n : Nat} {m : Int → Bool} (cx : CtxV ops L a0 w0 bor X0 us D i ρ β W X) (hX : X q = eMb P k e b n m) (hu : (atV us i).contains q = true) : MapB P k e b n m W := by
  have h := (cx.ok q hu).holds
  rw [hX] at h; exact h
theorem dv_makeMb {t d k e q : Nat} (h : o.op = .makeMap t none) (hd : o.dst = some d) (hc : atV cr i = [q]) (hk : atV kl i = [])
    (hD : ∀ (σ β' : Tmp → Value) (X' : Nat → Ent), (∀ t, t ≠ d → σ t = ρ (.tmp t)) → (∀ t, t ≠ d → β' t = β t) → σ d = .map (some (pbm (β' d))) → X' q = eMb P k e (pbm (β' d)) 0 (fun _ => false) → D i σ β' X') : DoesU P o ρ W (PostV cr kl D i o.dst ρ β W X) := by
  refine DoesU.value (v := .map (some W.heap.size)) (w' := W.alloc (.map #[] 0)) (by unfold execOp; rw [h]; rfl) ?_
  refine post_call [eMb P k e W.heap.size 0 (fun _ => false)] hk (by rw [hc]; rfl) ((Ext.refl W).alloc _) (one_new ⟨MapB.made, eMb_loc _ _ _ _ _ _, fun k' hk' => ?_⟩) (List.pairwise_singleton _ _) (fun σ β' X' hs hb hv hN => ?_)
  · have : k' = W.heap.size := by simpa [eMb] using hk'
    subst this
    exact ⟨Nat.le_refl _, by simp⟩
  · have hv1 := (hv d hd).1; have hv2 := (hv d hd).2
    rw [hc] at hN
    refine hD σ β' X' (fun t ht => hs t (by rw [hd]; simpa using ht.symm)) (fun t ht => hb t (by rw [hd]; simpa using ht.symm)) ?_ ?_
    · rw [hv1, hv2]; rfl
    · rw [hv2]; exact (List.cons.inj hN).1
theorem dv_setMb {t k e b n q q' : Nat} {m : Int → Bool} {y z u : Operand} {x : Int} {v : Bool} (h : o.op = .mapUpdate t y z u ∨ o.op = .insert t y z u) (hy : ρ y = .map (some b)) (hz : ρ z = .int .i64 x) (hu : ρ u = .bool v)
    (cx : CtxV ops L a0 w0 bor X0 us D i ρ β W X) (hX : X q = eMb P k e b n m) (hq : (atV us i).contains q = true) (hn : n < 1000000) (hx : -9223372036854775808 ≤ x ∧ x ≤ 9223372036854775807) (hd : o.dst = none) (hc : atV cr i = [q']) (hkl : atV kl i = [q])
    (hD : ∀ (σ β' : Tmp → Value) (X' : Nat → Ent), (∀ t, σ t = ρ (.tmp t)) → (∀ t, β' t = β t) → X' q' = eMb P k e b (n + 1) (fun y => if y = x then v else m y) → D i σ β' X')
    (hk : P.underlying k = some (.int .i64) := by kernel_rfl) (he : P.underlying e = some .bool := by kernel_rfl) (ht : P.underlying t = some (.map k e) := by kernel_rfl) : DoesU P o ρ W (PostV cr kl D i o.dst ρ β W X) := by
  obtain ⟨W', hrun, h1, h2⟩ := run_setMb (v := v) h hy hz hu (cx.mb hX hq) hn hx hk he ht
  refine DoesU.skip hrun ⟨[eMb P k e b (n + 1) (fun y => if y = x then v else m y)], by rw [hc]; rfl, ⟨?_, fun e' he' => ?_, List.pairwise_singleton _ _⟩, fun σ β' X' hs hv hb' hbv hx' hN => hD σ β' X' (fun t => hs t (by rw [hd]; simp)) (fun t => hb' t (by rw [hd]; simp)) ?_⟩
  · rw [hkl]
    simp only [List.flatMap_cons, List.flatMap_nil, List.append_nil, hX]
    exact h2
  · rw [List.mem_singleton] at he'
    subst he'
    refine ⟨h1, eMb_loc _ _ _ _ _ _, fun k' hk' => ?_⟩
    have hkb : k' = b := by simpa [eMb] using hk'
    subst hkb
    refine ⟨.inl ?_, h1.lt⟩
    rw [hkl]
    simp [hX, eMb]
  · rw [hc] at hN
    exact (List.cons.inj hN).1
end
end Go.Proofs.YtfjpglohcppjeaaDoor

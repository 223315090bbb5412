/- Operations under a guard that is not decided: no splitting. 'mb c v': v where c holds, else undef. -/
import Derived.Test.YtfjpglohcppjeaaDoorVq
namespace Go.Proofs.YtfjpglohcppjeaaDoor
open Go.RowKit
set_option linter.unusedVariables false

def mb (c : Bool) (v : Value) : Value := bif c then v else undef
theorem zB : (∀ {a b : Bool}, ((a || b) = true) ↔ (a = true ∨ b = true)) ∧ (∀ {a b : Bool}, ((a && b) = true) ↔ (a = true ∧ b = true)) ∧ (∀ {a b : Bool}, ((a || b) = false) ↔ (a = false ∧ b = false)) ∧ (∀ {a b : Bool}, ((a && b) = false) ↔ (a = false ∨ b = false)) ∧
    (∀ {p : Prop} [Decidable p], (decide p = true) ↔ p) ∧ (∀ {p : Prop} [Decidable p], (decide p = false) ↔ ¬ p) ∧ (∀ {b : Bool}, ((!b) = true) ↔ b = false) ∧ (∀ {b : Bool}, ((!b) = false) ↔ b = true) ∧
    (∀ {a b : Int}, ((a == b) = true) ↔ a = b) ∧ (∀ {a b : Int}, ((a == b) = false) ↔ a ≠ b) ∧ (∀ {a b : Int}, ((a != b) = true) ↔ a ≠ b) ∧ (∀ {a b : Int}, ((a != b) = false) ↔ a = b) := by
  refine ⟨?_, ?_, ?_, fun {a b} => by cases a <;> cases b <;> simp, ?_, ?_, ?_, ?_, ?_, ?_, ?_, ?_⟩ <;> intros <;> simp
theorem mb_t (v : Value) : mb true v = v := rfl
theorem mbv {q : Bool} {v u : Value} (h : u = mb q v) (hq : q = true) : u = v := by rw [h, hq]; rfl
theorem mb_l {c x : Bool} (h : (c && x) = true) : c = true := by cases c <;> simp_all
theorem mb_r {c x : Bool} (h : (c && x) = true) : x = true := by cases c <;> simp_all
theorem GSayV.maybe {ops : Array Oper} {ρ : Operand → Value} {o : Oper} {yes no : Prop} {g d : Nat} {b c x q : Bool} (hg : o.guard = some (g, b)) (hd : dstAt ops g = some d) (hv : ρ (.tmp d) = mb c (.bool x)) (hq : (c && (x == b)) = q) (hy : q = true → yes) (hn : q = false → no) : GSayV ops ρ o yes no := by
  cases c with
  | false =>
    have : q = false := by rw [← hq]; rfl
    exact GSayV.un hg hd hv (hn this)
  | true =>
    by_cases e : x = b
    · subst e
      exact GSayV.on hg hd hv (hy (by rw [← hq]; simp))
    · exact GSayV.off hg hd hv e (hn (by rw [← hq]; cases x <;> cases b <;> simp_all))
section
variable {P : Program} {ops : Array Oper} {L : List Nat} {a0 : Act} {w0 : World} {bor : List Nat} {X0 : List Ent} {us cr kl : List (List Nat)}
  {D : Nat → (Tmp → Value) → (Tmp → Value) → (Nat → Ent) → Prop} {i : Nat} {o : Oper} {ρ : Operand → Value} {W : World}
/-- a step without effect under an undecided guard -/
theorem m0 (ho : ops[i]? = some o) {g dg : Nat} {b c x q : Bool} {d : Tmp} {V : Value} (hD : ∀ σ β X, σ d = mb q V → D i σ β X) (hgv : ∀ {ρ : Operand → Value} {β : Tmp → Value} {W : World} {X : Nat → Ent}, CtxV ops L a0 w0 bor X0 us D i ρ β W X → ρ (.tmp dg) = mb c (.bool x))
    (h : ∀ {ρ : Operand → Value} {β : Tmp → Value} {W : World} {X : Nat → Ent}, CtxV ops L a0 w0 bor X0 us D i ρ β W X → q = true → (execOp ρ o).run P W = .ok (.value V) W)
    (hg : o.guard = some (g, b) := by rfl) (hdg : dstAt ops g = some dg := by rfl) (hd : o.dst = some d := by rfl) (hc : atV cr i = [] := by rfl) (hk : atV kl i = [] := by rfl) (hq : (c && (x == b)) = q := by simp) : StepV P ops L a0 w0 bor X0 us cr kl D i := by
  intro ρ β W X cx
  rw [ho]
  refine GSayV.maybe hg hdg (hgv cx) hq (fun e => DoesU.value (h cx e) ⟨[], by rw [hc]; rfl, ⟨Upd.refl _ _, by simp, List.Pairwise.nil⟩, fun σ β' X' hs hv hb hbv hx hN => hD σ β' X' ?_⟩) fun e => ⟨hc, hk, fun σ β' hs hv hb hbv => hD σ β' X ?_⟩
  · rw [hv d hd, e]; rfl
  · rw [hv d hd, e]; rfl
/-- a call that changes nothing old, under an undecided guard -/
theorem m1 (ho : ops[i]? = some o) {g dg : Nat} {b c x q : Bool} {d : Tmp} {V : Value} (hD : ∀ σ β X, σ d = mb q V → D i σ β X) (hgv : ∀ {ρ : Operand → Value} {β : Tmp → Value} {W : World} {X : Nat → Ent}, CtxV ops L a0 w0 bor X0 us D i ρ β W X → ρ (.tmp dg) = mb c (.bool x))
    (h : ∀ {ρ : Operand → Value} {β : Tmp → Value} {W : World} {X : Nat → Ent}, CtxV ops L a0 w0 bor X0 us D i ρ β W X → q = true → ∃ f args, (execOp ρ o).run P W = .ok (.enter f args) W ∧ Calls P f args W fun e W' => e = .returned V ∧ Ext W W')
    (hg : o.guard = some (g, b) := by rfl) (hdg : dstAt ops g = some dg := by rfl) (hd : o.dst = some d := by rfl) (hc : atV cr i = [] := by rfl) (hk : atV kl i = [] := by rfl) (hq : (c && (x == b)) = q := by simp) : StepV P ops L a0 w0 bor X0 us cr kl D i := by
  intro ρ β W X cx
  rw [ho]
  refine GSayV.maybe hg hdg (hgv cx) hq (fun e => ?_) fun e => ⟨hc, hk, fun σ β' hs hv hb hbv => hD σ β' X (by rw [hv d hd, e]; rfl)⟩
  obtain ⟨f, args, hr, hcall⟩ := h cx e
  refine DoesU.call hr (hcall.mono fun e' W' ⟨he, hx⟩ => ⟨V, he, post_call [] hk (by rw [hc]; rfl) hx (by simp) List.Pairwise.nil fun σ β' X' hs hb hv hN => hD σ β' X' ?_⟩)
  rw [(hv d hd).1, e]; rfl
theorem m2 (ho : ops[i]? = some o) {g dg : Nat} {b x q : Bool} {d : Tmp} {V : Value} (hD : ∀ σ β X, σ d = mb q V → D i σ β X) (hgv : ∀ {ρ : Operand → Value} {β : Tmp → Value} {W : World} {X : Nat → Ent}, CtxV ops L a0 w0 bor X0 us D i ρ β W X → ρ (.tmp dg) = .bool x)
    (h : ∀ {ρ : Operand → Value} {β : Tmp → Value} {W : World} {X : Nat → Ent}, CtxV ops L a0 w0 bor X0 us D i ρ β W X → q = true → (execOp ρ o).run P W = .ok (.value V) W)
    (hg : o.guard = some (g, b) := by rfl) (hdg : dstAt ops g = some dg := by rfl) (hd : o.dst = some d := by rfl) (hc : atV cr i = [] := by rfl) (hk : atV kl i = [] := by rfl) (hq : (x == b) = q := by simp) : StepV P ops L a0 w0 bor X0 us cr kl D i :=
  m0 (c := true) ho hD (fun cx => hgv cx) h hg hdg hd hc hk (by rw [← hq]; simp)
theorem m3 (ho : ops[i]? = some o) {g dg : Nat} {b x q : Bool} {d : Tmp} {V : Value} (hD : ∀ σ β X, σ d = mb q V → D i σ β X) (hgv : ∀ {ρ : Operand → Value} {β : Tmp → Value} {W : World} {X : Nat → Ent}, CtxV ops L a0 w0 bor X0 us D i ρ β W X → ρ (.tmp dg) = .bool x)
    (h : ∀ {ρ : Operand → Value} {β : Tmp → Value} {W : World} {X : Nat → Ent}, CtxV ops L a0 w0 bor X0 us D i ρ β W X → q = true → ∃ f args, (execOp ρ o).run P W = .ok (.enter f args) W ∧ Calls P f args W fun e W' => e = .returned V ∧ Ext W W')
    (hg : o.guard = some (g, b) := by rfl) (hdg : dstAt ops g = some dg := by rfl) (hd : o.dst = some d := by rfl) (hc : atV cr i = [] := by rfl) (hk : atV kl i = [] := by rfl) (hq : (x == b) = q := by simp) : StepV P ops L a0 w0 bor X0 us cr kl D i :=
  m1 (c := true) ho hD (fun cx => hgv cx) h hg hdg hd hc hk (by rw [← hq]; simp)
/-- '&&', '||' -/
theorem run_pick_and {c a b : Operand} {x y q : Bool} (h : o.op = .pick c a b) (hc : ρ c = .bool x) (ha : ρ a = mb q (.bool y)) (hq : x = true → q = true) (hb : ρ b = .bool false) : (execOp ρ o).run P W = .ok (.value (.bool (x && y))) W := by
  cases x with
  | true => exact run_pick_t h hc (mbv ha (hq rfl))
  | false => exact run_pick_f h hc hb
theorem run_pick_or {c a b : Operand} {x y q : Bool} (h : o.op = .pick c a b) (hc : ρ c = .bool x) (ha : ρ a = .bool true) (hb : ρ b = mb q (.bool y)) (hq : x = false → q = true) : (execOp ρ o).run P W = .ok (.value (.bool (x || y))) W := by
  cases x with
  | true => exact run_pick_t h hc ha
  | false => exact run_pick_f h hc (mbv hb (hq rfl))
end
end Go.Proofs.YtfjpglohcppjeaaDoor

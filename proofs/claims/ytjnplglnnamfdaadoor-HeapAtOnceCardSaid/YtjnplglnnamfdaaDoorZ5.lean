/- HeapAtOnceRow9: part 5 of the proof. -/
import Derived.Test.YtjnplglnnamfdaaDoorZ4
import Derived.RangeFuncBox
import Derived.RangeFuncBound
import Derived.RangeFuncCalls
import Derived.RangeFuncLeaves
import Derived.TacticsIn
import Derived.OrdersIn
import Derived.LoopNIn
import Derived.OwnWalkIn
import Derived.TacticsInMore
import Derived.LoopIn
import Derived.WalkKit
set_option linter.unusedVariables false
set_option linter.unusedSimpArgs false
namespace Go.Proofs.YtjnplglnnamfdaaDoor
section
open Go.RowKit
set_option linter.unusedVariables false
set_option linter.unusedSimpArgs false
/-- inside a round -/
abbrev Rnd (l : Nat) : Fence := Fence.wide.inRound l
def noDefer (ops : Array Oper) : Bool := ops.all fun o => match o.op with | .defer _ => false | _ => true
theorem noDefer_at {ops : Array Oper} (h : noDefer ops = true) {i : Nat} {o : Oper} (ho : ops[i]? = some o) : ∀ c, o.op ≠ .defer c := by
  intro c hc
  obtain ⟨hi, he⟩ := Array.getElem?_eq_some_iff.1 ho
  have h2 := (Array.all_eq_true.1 h) i hi
  rw [he, hc] at h2
  cases h2
theorem opIn {P : Program} {l n : Nat} {o : Oper} {a : Act} {w : World} {K : Act → World → Prop} {Q : Exit → Act → World → Prop} (hd : ∀ c, o.op ≠ .defer c) (h : o.wp P a w K Q) : o.wpIn (Rnd l) n P a w K Q := by
  unfold Oper.wp at h
  refine ⟨fun _ _ => trivial, ?_⟩
  show o.uponIn (Rnd l) n P a K Q ((o.semAt (some l) a.eval).run P w)
  rw [Oper.semAt_eq (some l) a.eval o hd]
  generalize (execOp a.eval o).run P w = r at h ⊢
  cases r with
  | ok x w' =>
    cases x <;> simp only [Oper.upon, Oper.uponIn] at h ⊢ <;> first
      | exact h
      | exact ⟨fun hh => by simp [Rnd, Fence.wide] at hh, CallsIn.inRound l (callsIn_wide.2 h)⟩
      | exact ⟨fun hh => by simp [Rnd, Fence.wide] at hh, fun c cs _ => let ⟨v, w', r, s⟩ := h c cs; ⟨v, w', r, stepsIn_wide.2 s⟩⟩
  | halt x w' => cases x <;> simp only [Oper.upon, Oper.uponIn] at h ⊢ <;> exact h
section
variable {P : Program} {l n : Nat} {ops : Array Oper} {Q : Exit → Act → World → Prop}
theorem wpOpIn_of (hnd : noDefer ops = true) (hLo : ¬ LetsOut Q) {i : Nat} {K : Act → World → Prop} {a : Act} {w : World} (h : wpOp P ops Q i K a w) : wpOpIn (Rnd l) n P ops Q i K a w := by
  unfold wpOp at h
  unfold wpOpIn
  cases ho : ops[i]? with
  | none => simp only [ho] at h ⊢; exact h
  | some o =>
    simp only [ho] at h ⊢
    split
    · rename_i hw
      rw [if_pos hw] at h
      exact opIn (noDefer_at hnd ho) (h.resolve_right fun hh => hLo hh.2)
    · rename_i hw
      rw [if_neg hw] at h
      exact ⟨fun _ _ => trivial, h⟩
theorem wpAnyIn_of (hnd : noDefer ops = true) (hLo : ¬ LetsOut Q) : ∀ (m : Nat) (listed : Array Bool) (a : Act) (w : World), wpAny P .any ops Q m listed a w → wpAnyIn (Rnd l) n P .any ops Q m listed a w
  | 0, listed, a, w, h => h
  | m + 1, listed, a, w, h => ⟨h.1, fun i hi => wpOpIn_mono (fun a w hh => wpAnyIn_of hnd hLo m _ a w hh) (wpOpIn_of hnd hLo (h.2 i hi))⟩
theorem wpOpsIn_of (hnd : noDefer ops = true) (hLo : ¬ LetsOut Q) : ∀ (is : List Nat) (a : Act) (w : World), wpOps P ops Q is a w → wpOpsIn (Rnd l) n P ops Q is a w
  | [], a, w, h => h
  | i :: is, a, w, h => by
    rw [wpOps_cons] at h
    rw [wpOpsIn_cons]
    exact wpOpIn_mono (fun a w hh => wpOpsIn_of hnd hLo is a w hh) (wpOpIn_of hnd hLo h)
end
section
variable {P : Program} {ops : Array Oper} {L : List Nat} {w0 : World} {bor : List Nat} {X0 : List Ent} {us cr kl : List (List Nat)} {Q : Exit → Act → World → Prop} {l n : Nat}
/-- THE RULE, inside a round -/
theorem wpIn_region_W {id : Nat} {dr : Bool} {w : World} {t0 : Array Value} {d0 : List Deferred} (hnd : noDefer ops = true) (hm : P.follows .mixedOrders = true) (L : List Nat) (us cr kl : List (List Nat)) (D : Nat → (Tmp → Value) → (Tmp → Value) → (Nat → Ent) → Prop) (fin : List Nat)
    (hL : okAnc ops L = true) (hd : dstOk ops t0.size = true) (hflow : flowV ops.size X0.length L us cr kl = true) (hfin : finV ops.size X0.length cr kl fin = true)
    (hloc : LocalV ops X0.length L cr D) (hst : St w0 bor X0 w) (hstep : AllTo (StepV P ops L ⟨t0, d0⟩ w0 bor X0 us cr kl D) ops.size)
    (hrest : ∀ (σ β : Tmp → Value) (X : Nat → Ent) (w' : World), (∀ i, i < ops.size → D i σ β X) → (∀ q e, X0[q]? = some e → X q = e) → St w0 bor (fin.map X) w' →
      ∀ fr, fr = putAll (dstsU ops) ((dstsU ops).map σ) t0 → Q .normal ⟨fr, d0⟩ w') : (Code.region id ops dr).wpIn (Rnd l) n P Q ⟨t0, d0⟩ w := by
  have hs : ∀ i, i < ops.size → StepV P ops L ⟨t0, d0⟩ w0 bor X0 us cr kl D i := fun i hi => hstep.get i hi
  obtain ⟨Q', hQ'⟩ : ∃ Q' : Exit → Act → World → Prop, Q' = fun e a w => e = .normal ∧ Q .normal a w := ⟨_, rfl⟩
  have hr : ∀ (a : Act) (w : World) (listed : Array Bool), (∀ i, i < ops.size → listed.getD i false = true) → VInv ops L ⟨t0, d0⟩ w0 bor X0 cr kl D listed a w → Q' .normal a w := fun a w listed hall inv => by
    rw [hQ']; exact ⟨rfl, vinv_end (a0 := ⟨t0, d0⟩) hd hfin (fun σ β X w' h1 h2 h3 => hrest σ β X w' h1 h2 h3 _ rfl) hall inv⟩
  have hLo : ¬ LetsOut Q' := by rw [hQ']; rintro ⟨a, w, h, _⟩; cases h
  refine wpIn_mono (Q := Q') ?_ fun e a w h => by rw [hQ'] at h; obtain ⟨rfl, h⟩ := h; exact h
  cases dr with
  | true =>
    refine wpIn_region_any hm (wpAnyIn_of hnd hLo _ _ _ _ (wpAny_V hL hd hflow hloc hs hr ops.size (Array.replicate ops.size false) ⟨t0, d0⟩ w.drew ?_ (vinv_start hst.drew)))
    rw [List.countP_eq_length.2]
    · simp
    · intro i _
      rw [getD_replicate_false]
      rfl
  | false =>
    refine wpIn_region ?_
    rw [List.range_eq_range']
    exact wpOpsIn_of hnd hLo _ _ _ (wpOps_V hL hd hflow hloc hs hr ops.size 0 (Array.replicate ops.size false) ⟨t0, d0⟩ w (by omega) (fun j => by rw [getD_replicate_false]; simp) (vinv_start hst))
end
theorem wpIn_region_T {l n : Nat} {P : Program} {ops : Array Oper} {Q : Exit → Act → World → Prop} {w0 : World} {bor : List Nat} {X0 : List Ent} {id : Nat} {dr : Bool} {w : World} {t0 : List Value} {d0 : List Deferred} (L : List Nat) (us cr kl : List (List Nat)) (tb : List TE)
    (A : Nat → (Tmp → Value) → (Tmp → Value) → (Nat → Ent) → Prop) (fin sp : List Nat) (rs : List (Nat × Nat × Nat × Nat)) (hst : St w0 bor X0 w) (hloc : LocalV ops X0.length L cr A)
    (hstep : inAll (StepV P ops L ⟨t0.toArray, d0⟩ w0 bor X0 us cr kl (fun ix σ β X => dT tb ix σ (A ix σ β X))) sp)
    (hrest : ∀ (σ β : Tmp → Value) (X : Nat → Ent) (w' : World), (∀ i, i < ops.size → dT tb i σ (A i σ β X)) → (∀ q e, X0[q]? = some e → X q = e) → St w0 bor (fin.map X) w' → ∀ fr, fr = mgT tb σ rs t0 → Q .normal ⟨fr.toArray, d0⟩ w')
    (ht : goTs P ops L t0.toArray tb 0 tb = tb.map wantT := by kernel_rfl) (hl : lineOk ops L cr kl sp 0 tb = true := by kernel_rfl) (hn : tb.length = ops.size := by kernel_rfl)
    (hfr : ∀ σ, putAll (dstsU ops) ((idxU ops).map (valT ops tb σ)) t0.toArray = (mgT tb σ rs t0).toArray := by intro σ; kernel_rfl)
    (hm : P.follows .mixedOrders = true := by kernel_rfl) (hnd : noDefer ops = true := by kernel_rfl) (hL : okAnc ops L = true := by kernel_rfl) (hd : dstOk ops t0.toArray.size = true := by kernel_rfl) (hflow : flowV ops.size X0.length L us cr kl = true := by kernel_rfl) (hfin : finV ops.size X0.length cr kl fin = true := by kernel_rfl) :
    (Code.region id ops dr).wpIn (Rnd l) n P Q ⟨t0.toArray, d0⟩ w := by
  refine wpIn_region_W hnd hm L us cr kl (fun ix σ β X => dT tb ix σ (A ix σ β X)) fin hL hd hflow hfin (fun i σ σ' β β' X X' h1 h2 h3 h => ?_) hst (AllTo.of fun i hi => ?_) fun σ β X w' hD hX hst' fr hfr' => ?_
  · dsimp only at h ⊢
    rw [dT_iff] at h ⊢
    cases hdd : (tb.getD i .n).dst with
    | some d =>
      rw [hdd] at h
      dsimp only at h ⊢
      have hi : i < tb.length := getD_lt (by rw [hdd]; simp)
      have := (tOk_dst ht hi hdd).1
      rw [← h1 d (by unfold seesV; simp [this])]
      exact h
    | none =>
      rw [hdd] at h
      exact hloc i σ σ' β β' X X' h1 h2 h3 h
  · have hi' : i < tb.length := by rw [hn]; exact hi
    have h := lineOk_get (i := i) hl hi'
    rw [Nat.zero_add] at h
    rcases h with ⟨_, h⟩ | ⟨h, _⟩
    · exact inAll_get hstep i h
    · exact pure_step hd ht hl hi' h
  · subst hfr'
    have e : (dstsU ops).map σ = (idxU ops).map (valT ops tb σ) := by
      unfold dstsU
      rw [List.map_map]
      refine List.map_congr_left fun i hi => ?_
      have him := List.mem_filter.1 hi
      have hlt : i < ops.size := List.mem_range.1 him.1
      have h := hD i hlt
      rw [dT_iff] at h
      unfold valT
      cases hdd : (tb.getD i .n).dst with
      | none => rfl
      | some d =>
        rw [hdd] at h
        dsimp only at h ⊢
        have := (tOk_dst ht (i := i) (by rw [hn]; exact hlt) hdd).1
        simp only [Function.comp, this, Option.getD_some]
        exact h
    rw [e, hfr σ]
    exact hrest σ β X w' hD hX hst' _ rfl
theorem wpIn_region_Y {l n : Nat} {P : Program} {ops : Array Oper} {Q : Exit → Act → World → Prop} {w0 : World} {bor : List Nat} {X0 : List Ent} {id : Nat} {dr : Bool} {w : World} {t0 : List Value} {t1 : (Tmp → Value) → List Value} {E : (Nat → Ent) → List Ent} {d0 : List Deferred} (L : List Nat) (us cr kl : List (List Nat)) (tb : List TE)
    (A : Nat → (Tmp → Value) → (Tmp → Value) → (Nat → Ent) → Prop) (fin sp : List Nat) (rs : List (Nat × Nat × Nat × Nat)) (hst : St w0 bor X0 w) (hloc : LocalV ops X0.length L cr A)
    (hstep : inAll (StepV P ops L ⟨t0.toArray, d0⟩ w0 bor X0 us cr kl (fun ix σ β X => dT tb ix σ (A ix σ β X))) sp)
    (hrest : ∀ (σ β : Tmp → Value) (X : Nat → Ent) (w' : World), (∀ i, i < ops.size → dT tb i σ (A i σ β X)) → St w0 bor (E X) w' → ∀ fr, fr = t1 σ → Q .normal ⟨fr.toArray, d0⟩ w')
    (h1 : ∀ σ, mgT tb σ rs t0 = t1 σ := by intro σ; dsimp only [mgT, vals, List.take, List.drop, List.cons_append, List.nil_append]) (hE : ∀ X, finE X0 X fin = E X := by intro X; dsimp only [finE, entQ])
    (ht : goTs P ops L t0.toArray tb 0 tb = tb.map wantT := by kernel_rfl) (hl : lineOk ops L cr kl sp 0 tb = true := by kernel_rfl) (hn : tb.length = ops.size := by kernel_rfl)
    (hfr : ∀ σ, putAll (dstsU ops) ((idxU ops).map (valT ops tb σ)) t0.toArray = (mgT tb σ rs t0).toArray := by intro σ; kernel_rfl)
    (hm : P.follows .mixedOrders = true := by kernel_rfl) (hnd : noDefer ops = true := by kernel_rfl) (hL : okAnc ops L = true := by kernel_rfl) (hd : dstOk ops t0.toArray.size = true := by kernel_rfl) (hflow : flowV ops.size X0.length L us cr kl = true := by kernel_rfl) (hfin : finV ops.size X0.length cr kl fin = true := by kernel_rfl) :
    (Code.region id ops dr).wpIn (Rnd l) n P Q ⟨t0.toArray, d0⟩ w :=
  wpIn_region_T L us cr kl tb A fin sp rs hst hloc hstep (fun σ β X w' hD hX hs fr hf => hrest σ β X w' hD (by rw [← hE X, finE_eq hX]; exact hs) fr (hf.trans (h1 σ))) ht hl hn hfr hm hnd hL hd hflow hfin
theorem wpIn_region_Z {l n : Nat} {P : Program} {ops : Array Oper} {Q : Exit → Act → World → Prop} {w0 : World} {bor : List Nat} {X0 E : List Ent} {id : Nat} {dr : Bool} {w : World} {t0 t1 : List Value} {d0 : List Deferred} (L : List Nat) (us : List (List Nat)) (tb : List TE)
    (fin sp : List Nat) (rs : List (Nat × Nat × Nat × Nat)) (hst : St w0 bor X0 w)
    (hstep : inAll (StepV P ops L ⟨t0.toArray, d0⟩ w0 bor X0 us [] [] (fun ix σ β X => dT tb ix σ True)) sp)
    (hrest : ∀ (w' : World), St w0 bor E w' → Q .normal ⟨t1.toArray, d0⟩ w')
    (h1 : mgT tb (fun _ => undef) rs t0 = t1 := by dsimp only [mgT, vals, List.take, List.drop, List.cons_append, List.nil_append]) (hE : finE X0 (fun _ => ⟨[], fun _ => True⟩) fin = E := by dsimp only [finE, entQ])
    (hfz : fin.all (fun q => Nat.blt q X0.length) = true := by kernel_rfl)
    (ht : goTs P ops L t0.toArray tb 0 tb = tb.map wantT := by kernel_rfl) (hl : lineOk ops L [] [] sp 0 tb = true := by kernel_rfl) (hn : tb.length = ops.size := by kernel_rfl)
    (hfr : ∀ σ, putAll (dstsU ops) ((idxU ops).map (valT ops tb σ)) t0.toArray = (mgT tb (fun _ => undef) rs t0).toArray := by intro σ; kernel_rfl)
    (hm : P.follows .mixedOrders = true := by kernel_rfl) (hnd : noDefer ops = true := by kernel_rfl) (hL : okAnc ops L = true := by kernel_rfl) (hd : dstOk ops t0.toArray.size = true := by kernel_rfl) (hflow : flowV ops.size X0.length L us [] [] = true := by kernel_rfl) (hfin : finV ops.size X0.length [] [] fin = true := by kernel_rfl) :
    (Code.region id ops dr).wpIn (Rnd l) n P Q ⟨t0.toArray, d0⟩ w := by
  have hfr2 : ∀ σ, putAll (dstsU ops) ((idxU ops).map (valT ops tb σ)) t0.toArray = t1.toArray := fun σ => by rw [hfr σ, h1]
  refine wpIn_region_W hnd hm L us [] [] (fun ix σ β X => dT tb ix σ True) fin hL hd hflow hfin (fun i σ σ' β β' X X' h1 h2 h3 h => ?_) hst (AllTo.of fun i hi => ?_) fun σ β X w' hD hX hst' fr hfr' => ?_
  · dsimp only at h ⊢
    rw [dT_iff] at h ⊢
    cases hdd : (tb.getD i .n).dst with
    | some d =>
      rw [hdd] at h
      dsimp only at h ⊢
      have hi : i < tb.length := getD_lt (by rw [hdd]; simp)
      have := (tOk_dst ht hi hdd).1
      rw [← h1 d (by unfold seesV; simp [this])]
      exact h
    | none => trivial
  · have hi' : i < tb.length := by rw [hn]; exact hi
    have h := lineOk_get (i := i) hl hi'
    rw [Nat.zero_add] at h
    rcases h with ⟨_, h⟩ | ⟨h, _⟩
    · exact inAll_get hstep i h
    · exact pure_step (A := fun _ _ _ _ => True) hd ht hl hi' h
  · subst hfr'
    have e : (dstsU ops).map σ = (idxU ops).map (valT ops tb σ) := by
      unfold dstsU
      rw [List.map_map]
      refine List.map_congr_left fun i hi => ?_
      have him := List.mem_filter.1 hi
      have hlt : i < ops.size := List.mem_range.1 him.1
      have h := hD i hlt
      rw [dT_iff] at h
      unfold valT
      cases hdd : (tb.getD i .n).dst with
      | none => rfl
      | some d =>
        rw [hdd] at h
        dsimp only at h ⊢
        have := (tOk_dst ht (i := i) (by rw [hn]; exact hlt) hdd).1
        simp only [Function.comp, this, Option.getD_some]
        exact h
    rw [e, hfr2 σ]
    refine hrest w' ?_
    have h2 : finE X0 X fin = E := by rw [← hE]; exact finE_const hfz
    rw [← h2, finE_eq hX]
    exact hst'
/-- an entry whose blocks are cells -/
def Ent.cells (e : Ent) : Prop := ∀ W, e.holds W → ∀ k ∈ e.fp, ∃ o : Obj, W.heap[k]? = some o ∧ o.isCells = true
theorem eB_cells (b : Nat) (t : TypeId) (cs : Array Value) : (eB b t cs).cells := fun W h k hk => by
  have : k = b := by simpa [eB] using hk
  subst this
  exact ⟨_, h, rfl⟩
theorem eO_cells (e : TypeId) (sz : Nat) (v : Value) (n : Nat) (xs : List Value) : (eO e sz v n xs).cells := fun W h k hk => by
  have hb : W.ownsRow 0 e sz v n xs := h
  rcases hb.2 with ⟨rfl, _⟩ | ⟨g, cap, cur, rfl, _, hg, _⟩
  · cases hk
  · have : k = g := by simpa [eO, Value.ownBlock] using hk
    subst this
    exact ⟨_, hg, rfl⟩
abbrev fps (L : List Ent) : List Nat := L.flatMap (·.fp)
theorem fps_mem {L : List Ent} {k : Nat} : k ∈ fps L ↔ ∃ e ∈ L, k ∈ e.fp := by simp [fps]
/-- all entries lent -/
theorem St.lendAll {w0 w : World} {bor : List Nat} {L : List Ent} (h : St w0 bor L w) : St w (fps L) L w :=
  ⟨Upd.refl _ _, fun e he => ⟨(h.ok e he).holds, (h.ok e he).loc, fun k hk => ⟨.inl (fps_mem.2 ⟨e, he, hk⟩), ((h.ok e he).own k hk).2⟩⟩, h.apart⟩
theorem St.fps_own {w0 w : World} {bor : List Nat} {L : List Ent} (h : St w0 bor L w) {k : Nat} (hk : k ∈ fps L) : (k ∈ bor ∨ w0.heap.size ≤ k) ∧ k < w.heap.size := by
  obtain ⟨e, he, hk⟩ := fps_mem.1 hk
  exact (h.ok e he).own k hk
/-- a call's part joined to what went before -/
theorem St.joinT {w0 w W : World} {bor T : List Nat} {L : List Ent} (hu : Upd bor w0 w) (hT : ∀ k ∈ T, k ∈ bor ∨ w0.heap.size ≤ k) (h : St w T L W) : St w0 bor L W :=
  ⟨hu.join h.upd hT, fun e he => ⟨(h.ok e he).holds, (h.ok e he).loc, fun k hk => ⟨by
    rcases ((h.ok e he).own k hk).1 with h1 | h1
    · exact hT k h1
    · exact .inr (Nat.le_trans hu.size h1), ((h.ok e he).own k hk).2⟩⟩, h.apart⟩
/-- what a round keeps: the blocks R -/
def KpR (R : List Nat) (W W' : World) : Prop := ∀ k, k ∈ R → W'.heap[k]? = W.heap[k]?
theorem KpR.blk {g t : Nat} {R : List Nat} {W W' : World} {cs : Array Value} (h : KpR R W W') (hR : g ∈ R) (hb : Blk W g t cs) : Blk W' g t cs := (h g hR).trans hb
theorem KpR.nil {W W' : World} : KpR [] W W' := fun k hk => by cases hk
theorem KpR.cons {R : List Nat} {W W' : World} {g t : Nat} {cs : Array Value} (hb : Blk W g t cs) (hb' : Blk W' g t cs) (h : KpR R W W') : KpR (g :: R) W W' := fun k hk => by
  rcases List.mem_cons.1 hk with rfl | hk
  · exact hb'.trans hb.symm
  · exact h k hk
/-- an entry that a turn of the loop's own blocks does not touch -/
def CellsB (B : Nat) (L : List Ent) : Prop := ∀ e ∈ L, e.cells ∨ ∀ k ∈ e.fp, k < B
theorem CellsB.nil {B : Nat} : CellsB B [] := fun e he => by cases he
theorem CellsB.cons {B : Nat} {e : Ent} {L : List Ent} (h : e.cells) (hL : CellsB B L) : CellsB B (e :: L) := fun x hx => by
  rcases List.mem_cons.1 hx with rfl | hx
  · exact .inl h
  · exact hL x hx
theorem CellsB.consB {B : Nat} {e : Ent} {L : List Ent} (h : ∀ k ∈ e.fp, k < B) (hL : CellsB B L) : CellsB B (e :: L) := fun x hx => by
  rcases List.mem_cons.1 hx with rfl | hx
  · exact .inr h
  · exact hL x hx
theorem CellsB.ne {B : Nat} {L : List Ent} {W : World} (hc : CellsB B L) {e : Ent} (he : e ∈ L) (hh : e.holds W) {k : Nat} (hk : k ∈ e.fp) {r : Nat} {o : Obj} (hB : B ≤ r) (ho : W.heap[r]? = some o) (hf : o.isCells = false) : k ≠ r := by
  rintro rfl
  rcases hc e he with h | h
  · obtain ⟨o', ho', hf'⟩ := h W hh k hk
    rw [ho] at ho'; cases ho'; rw [hf] at hf'; cases hf'
  · have := h k hk; omega
theorem St.turn {w0 W W' : World} {bor : List Nat} {L : List Ent} {row : Option Nat} (h : St w0 bor L W) (hc : CellsB w0.heap.size L) (hg : W.grownBy W' row) (hr : ∀ r, row = some r → w0.heap.size ≤ r ∧ ∃ o : Obj, W.heap[r]? = some o ∧ o.isCells = false) : St w0 bor L W' := by
  have hne : ∀ e ∈ L, ∀ k ∈ e.fp, W'.heap[k]? = W.heap[k]? := fun e he k hk => by
    refine hg.block k ((h.ok e he).own k hk).2 fun e' => ?_
    obtain ⟨hB, o, ho, hf⟩ := hr k e'.symm
    exact hc.ne he (h.ok e he).holds hk hB ho hf rfl
  refine ⟨⟨hg.os.trans h.upd.os, hg.tape.trans h.upd.tape, hg.output.trans h.upd.output, Nat.le_trans h.upd.size hg.size, fun k hk hb => ?_⟩, fun e he => ⟨(h.ok e he).loc W W' (hne e he) (h.ok e he).holds, (h.ok e he).loc, fun k hk => ⟨((h.ok e he).own k hk).1, Nat.lt_of_lt_of_le ((h.ok e he).own k hk).2 hg.size⟩⟩, h.apart⟩
  rw [hg.block k (Nat.lt_of_lt_of_le hk h.upd.size) fun e' => ?_]
  · exact h.upd.block k hk hb
  · have := (hr k e'.symm).1; omega
/-- the block for the rounds' deferred calls -/
def eDfr (D : Nat) : Ent := ⟨[D], fun W => W.heap[D]? = some (.deferred (some []))⟩
theorem eD_loc (D : Nat) : (eDfr D).loc := fun W W' h hb => (h D (by simp [eDfr])).trans hb
theorem St.addD {w0 W : World} {bor : List Nat} {L : List Ent} {B D : Nat} (h : St w0 bor L W) (hc : CellsB B L) (hB : B ≤ D) (hD : w0.heap.size ≤ D) (hK : W.heap[D]? = some (.deferred (some []))) : St w0 bor (L ++ [eDfr D]) W := by
  refine ⟨h.upd, fun x hx => ?_, ?_⟩
  · rcases List.mem_append.1 hx with hx | hx
    · exact h.ok x hx
    · rw [List.mem_singleton] at hx
      subst hx
      exact ⟨hK, eD_loc D, fun k hk => by
        have : k = D := by simpa [eDfr] using hk
        subst this
        exact ⟨.inr hD, (Array.getElem?_eq_some_iff.1 hK).1⟩⟩
  · rw [List.pairwise_append]
    refine ⟨h.apart, List.pairwise_singleton _ _, fun a ha b hb => ?_⟩
    rw [List.mem_singleton] at hb
    subst hb
    intro k hk hkb
    have : k = D := by simpa [eDfr] using hkb
    exact hc.ne ha (h.ok a ha).holds hk hB hK rfl this
/-- at the function's return the block is shut -/
theorem St.takeD {w0 W : World} {bor : List Nat} {L : List Ent} {D : Nat} (h : St w0 bor (L ++ [eDfr D]) W) : St w0 bor L (W.putObj D (.deferred none)) := by
  have hd := h.ok (eDfr D) (by simp)
  have hown := hd.own D (by simp [eDfr])
  have hap : ∀ e ∈ L, D ∉ e.fp := fun e he hk => by
    have := (List.pairwise_append.1 h.apart).2.2 e he (eDfr D) (by simp)
    exact this D hk (by simp [eDfr])
  have hg := grownBy_putObj' W D (.deferred none)
  refine ⟨⟨hg.os.trans h.upd.os, hg.tape.trans h.upd.tape, hg.output.trans h.upd.output, Nat.le_trans h.upd.size hg.size, fun k hk hb => ?_⟩, fun e he => ?_, (List.pairwise_append.1 h.apart).1⟩
  · rw [hg.block k (Nat.lt_of_lt_of_le hk h.upd.size) fun e' => ?_]
    · exact h.upd.block k hk hb
    · cases e'
      rcases hown.1 with h1 | h1
      · exact hb h1
      · omega
  · have h2 := h.ok e (by simp [he])
    refine ⟨h2.loc W _ (fun k hk => hg.block k (h2.own k hk).2 fun e' => ?_) h2.holds, h2.loc, fun k hk => ⟨(h2.own k hk).1, Nat.lt_of_lt_of_le (h2.own k hk).2 hg.size⟩⟩
    cases e'
    exact hap e he hk
theorem bpm_take {P : Program} {n : Nat} {fn : Func} {R : Ending → World → Prop} {t0 : Array Value} {w0 w : World} {bor : List Nat} {L : List Ent} {D : Nat} (hst : St w0 bor (L ++ [eDfr D]) w)
    (h : ∀ W, St w0 bor L W → ∃ v, (results fn t0).run P W = .ok v W ∧ R (.returned v) W) : bodyPostM Fence.wide n P fn R .ret ⟨t0, [{ target := .collected D, args := #[] }]⟩ w := by
  have hK : w.heap[D]? = some (.deferred (some [])) := (hst.ok (eDfr D) (by simp)).holds
  show LeavesInM Fence.wide n P fn t0 R [{ target := .collected D, args := #[] }] .returning w
  exact ⟨by simp, .inl ⟨_, _, rfl, run_takeDeferred hK, h _ hst.takeD⟩⟩
theorem lt_cons {g n : Nat} {R : List Nat} (h : g < n) (hR : ∀ k ∈ R, k < n) : ∀ k ∈ g :: R, k < n := fun k hk => by
  rcases List.mem_cons.1 hk with rfl | hk
  · exact h
  · exact hR k hk
theorem rnd_assign {P : Program} {l n id d s : Nat} {o : Oper} {K : Act → World → Prop} {a a1 : Act} {W : World} (ho : o.op = .assign (.tmp s)) (hg : o.guard = none) (hd : o.dst = some d) (h : K a1 W) (he : a.put (some d) (a.eval (.tmp s)) = a1) :
    (Code.region id #[o] false).wpIn (Rnd l) n P (Exit.then K (fun _ _ _ => False)) a W := by
  refine wpIn_region ?_
  refine wpOpsIn_of (by simp [noDefer, ho]) (by rintro ⟨a, w, h⟩; exact h) _ _ _ ?_
  show wpOps P _ _ [0] a W
  rw [wpOps_cons]
  refine wpOp_step (show (#[o] : Array Oper)[0]? = some o from rfl) fun K' hK' => ?_
  rw [if_pos (show Region.wanted o _ = true by unfold Region.wanted; rw [hg])]
  refine DoesU.wp (post := fun v w' => v = a.eval (.tmp s) ∧ w' = W) (DoesU.value (run_assign' ho rfl) ⟨rfl, rfl⟩) fun v w' hv => ?_
  obtain ⟨rfl, rfl⟩ := hv
  refine hK' _ _ ?_
  rw [hd, he]
  exact h
/-- **A RANGE OVER A FUNCTION, ITS BODY ALWAYS GOING ON** -/
theorem wp_rangeSt {α : Type} {P : Program} {g : Operand} {ps : Array Tmp} {assign body : Code} {Q : Exit → Act → World → Prop} {t0 : Array Value} {w0 w : World} {bor : List Nat} {L0 : List Ent} (R : List Nat) (hst : St w0 bor L0 w)
    {gf : Nat} {lb : Array Value} (hg : Act.eval ⟨t0, []⟩ g = .func (.func gf) #[] lb) (eg : ∀ args w, (callFunc gf args).run P w = .ok (.enter gf args) w)
    {encs : α → Array Value} {XS : List α} {N : Nat} (hR : ∀ k ∈ R, k < w.heap.size) (hseq : SeqStopsK Fence.wide 2 P gf lb encs (KpR R) (fun xs => xs = XS) (fun pre => pre <+: XS) N w)
    (hps : ∀ x, (encs x).size = ps.size) (I : List α → List Ent → Prop) (hC : ∀ pre L, I pre L → CellsB w.heap.size L) (h0 : I [] L0) (a₁ : α → Act)
    (hassign : ∀ (l : Nat) (x : α) (W : World) (K : Act → World → Prop), K (a₁ x) W →
      assign.wpIn (Rnd l) 1 P (Exit.then K (fun _ _ _ => False)) { tmps := (ps.zip (encs x)).foldl (fun t (p, v) => t.setIfInBounds p v) t0, defers := [] } W)
    (hbody : ∀ (l : Nat) (pre : List α) (x : α) (W : World) (L : List Ent), I pre L → pre.length < N → Upd bor w0 W → St W (fps L) L W → body.wpIn (Rnd l) 1 P (fun e _ W' => e = .normal ∧ KpR R W W' ∧ ∃ L', I (pre ++ [x]) L' ∧ St W (fps L) L' W') (a₁ x) W)
    (hdone : ∀ (D : Nat) (W : World) (L : List Ent), I XS L → St w0 bor (L ++ [eDfr D]) W → Q .normal ⟨t0, [{ target := .collected D, args := #[] }]⟩ W) :
    (Code.rangeFunc g ps assign body).wp P Q ⟨t0, []⟩ w := by
  have hT0 : ∀ k ∈ fps L0, k ∈ bor ∨ w0.heap.size ≤ k := fun k hk => (hst.fps_own hk).1
  refine wpIn_wide.1 (wpIn_rangeFunc_ownG (F := Fence.wide) (n := 3) rfl (by omega) hg trivial eg hseq (fun h k => fun i hi => (k i hi).trans (h i hi))
    (fun W l o o' hl ho hc hw => fun k hk => World.putObj_heap_other (by have := hR k hk; omega)) (Below.refl _ _) hps
    (fun pre W => ∃ L, I pre L ∧ St w (fps L0) L W) (fun _ _ _ => False) ?_ (fun _ _ _ _ _ hs _ _ => hs) ⟨L0, h0, hst.lendAll⟩ a₁ hassign ?_ ?_ ?_)
  · rintro pre A B row ⟨L, hi, hs⟩ hgr hr
    exact ⟨L, hi, hs.turn (hC _ _ hi) hgr hr⟩
  · rintro l pre x W ⟨L, hi, hs⟩ hlt
    have hTL : ∀ k ∈ fps L, k ∈ fps L0 ∨ w.heap.size ≤ k := fun k hk => (hs.fps_own hk).1
    refine wpIn_mono (hbody l pre x W L hi hlt (hst.upd.join hs.upd hT0) hs.lendAll) ?_
    rintro e a W' ⟨rfl, hkp, L', hi', hs'⟩
    refine ⟨⟨hs'.upd.size, fun k o hB hk ho => ?_⟩, hkp, L', hi', St.joinT hs.upd hTL hs'⟩
    refine (hs'.upd.block k (Array.getElem?_eq_some_iff.1 hk).1 fun hkT => ?_).trans hk
    obtain ⟨e, he, hke⟩ := fps_mem.1 hkT
    exact (hC _ _ hi).ne he (hs.ok e he).holds hke hB hk ho rfl
  · rintro D xs W hD rfl ⟨L, hi, hs⟩ hK
    exact hdone D W L hi ((St.joinT hst.upd hT0 hs).addD (hC _ _ hi) hD (Nat.le_trans hst.upd.size hD) hK)
  · rintro D c pre W _ _ h _
    exact h.elim
end
end Go.Proofs.YtjnplglnnamfdaaDoor
namespace Go.Proofs.YtjnplglnnamfdaaDoor
section
open Go.RowKit
set_option linter.unusedVariables false
set_option linter.unusedSimpArgs false
def standL (K : List Int) : List Value := K.flatMap fun s => [.int .i64 s, .int .i64 0]
def clockL (lo nx : Int) (K : List Int) : List Value := .int .i64 lo :: .int .i64 nx :: standL K
theorem stand_at : ∀ (K : List Int) (x : Nat), x < K.length → (standL K)[x * 2]? = some (.int .i64 (K.getD x 0)) ∧ (standL K)[x * 2 + 1]? = some (.int .i64 0)
  | [], x, h => by simp at h
  | s :: K, 0, _ => ⟨rfl, rfl⟩
  | s :: K, x + 1, h => by
    have h2 := stand_at K x (by simpa using h)
    rw [show (x + 1) * 2 = x * 2 + 1 + 1 by omega]
    exact h2
theorem stand_set : ∀ (K : List Int) (x : Nat) (v : Int), (standL K).set (x * 2) (.int .i64 v) = standL (K.set x v)
  | [], x, v => by simp [standL]
  | s :: K, 0, v => rfl
  | s :: K, x + 1, v => by
    rw [show (x + 1) * 2 = x * 2 + 1 + 1 by omega]
    show Value.int .i64 s :: Value.int .i64 0 :: (standL K).set (x * 2) (.int .i64 v) = _
    rw [stand_set K x v]; rfl
theorem stand_set0 : ∀ (K : List Int) (x : Nat), (standL K).set (x * 2 + 1) (.int .i64 0) = standL K
  | [], x => by simp [standL]
  | s :: K, 0 => rfl
  | s :: K, x + 1 => by
    rw [show (x + 1) * 2 = x * 2 + 1 + 1 by omega]
    show Value.int .i64 s :: Value.int .i64 0 :: (standL K).set (x * 2 + 1) (.int .i64 0) = _
    rw [stand_set0 K x]; rfl
theorem stand_len : ∀ K : List Int, (standL K).length = K.length * 2
  | [] => rfl
  | s :: K => by
    show (standL K).length + 1 + 1 = (K.length + 1) * 2
    rw [stand_len K]; omega
theorem clk_st {lo nx : Int} {K : List Int} {x : Nat} (h : x < K.length) : (clockL lo nx K)[2 + x * 2]? = some (.int .i64 (K.getD x 0)) := by
  rw [show 2 + x * 2 = x * 2 + 1 + 1 by omega]; exact (stand_at K x h).1
theorem clk_ab {lo nx : Int} {K : List Int} {x : Nat} (h : x < K.length) : (clockL lo nx K)[2 + x * 2 + 1]? = some (.int .i64 0) := by
  rw [show 2 + x * 2 + 1 = x * 2 + 1 + 1 + 1 by omega]; exact (stand_at K x h).2
theorem clk_set (lo nx : Int) (K : List Int) (x : Nat) (v : Int) : (clockL lo nx K).set (2 + x * 2) (.int .i64 v) = clockL lo nx (K.set x v) := by
  rw [show 2 + x * 2 = x * 2 + 1 + 1 by omega]
  show Value.int .i64 lo :: Value.int .i64 nx :: (standL K).set (x * 2) (.int .i64 v) = _
  rw [stand_set]; rfl
theorem clk_put (lo nx : Int) (K : List Int) (x : Nat) (v : Int) : putC (clockL lo nx K).toArray (2 + x * 2) [.int .i64 v, .int .i64 0] = (clockL lo nx (K.set x v)).toArray := by
  show (((clockL lo nx K).toArray.setIfInBounds (2 + x * 2) (.int .i64 v)).setIfInBounds (2 + x * 2 + 1) (.int .i64 0)) = _
  rw [List.setIfInBounds_toArray, List.setIfInBounds_toArray, clk_set, show 2 + x * 2 + 1 = x * 2 + 1 + 1 + 1 by omega]
  show (Value.int .i64 lo :: Value.int .i64 nx :: (standL (K.set x v)).set (x * 2 + 1) (.int .i64 0)).toArray = _
  rw [stand_set0]; rfl
theorem clk_arr (lo nx : Int) (K : List Int) : (clockL lo nx K).toArray.size = 2 + K.length * 2 := by
  show (standL K).length + 1 + 1 = _
  rw [stand_len]; omega
theorem clk_len (lo nx : Int) (K : List Int) : (clockL lo nx K).length = 2 + K.length * 2 := clk_arr lo nx K
def knowsF (lo nx x : Int) : Bool := onF x && decide (stepsF lo x < stepsF lo nx)
def liveF (K : List Int) (x : Int) : Bool := K.getD x.toNat 0 == 1 || K.getD x.toNat 0 == 4
def stateF (lo nx : Int) (K : List Int) (x : Int) : Int := if x = 2 then 2 else if knowsF lo nx x then K.getD x.toNat 0 else 0
def nxF (x : Int) : Int := 3 + (x - 2) % 125
theorem knows_zero (lo nx : Int) : knowsF lo nx 0 = false := rfl
theorem knows_on {lo nx x : Int} (h : knowsF lo nx x = true) : onF x = true := by
  unfold knowsF at h; rw [Bool.and_eq_true] at h; exact h.1
theorem St.still {w W : World} {b t : Nat} {cs : Array Value} {L : List Ent} (h : St w [b] (eB b t cs :: L) W) (hb : Blk w b t cs) : Ext w W := by
  refine (Upd.to_ext (⟨h.upd.os, h.upd.tape, h.upd.output, h.upd.size, fun k hk hn => ?_⟩ : Upd [] w W))
  by_cases e : k = b
  · rw [e]; exact (h.blk 0 rfl).trans hb.symm
  · exact h.upd.block k hk (by simpa using e)
theorem St.own1 {w0 W : World} {b t i j e sz n : Nat} {cs : Array Value} {v : Value} {xs : List Value} {L : List Ent} (h : St w0 [b] L W) (hi : L[i]? = some (eB b t cs)) (hj : L[j]? = some (eO e sz v n xs)) (hij : i < j) : W.ownsRow w0.heap.size e sz v n xs := by
  rcases h.own j hj with h1 | ⟨k, hk, hb⟩
  · exact h1
  · have hkb : k = b := by simpa using hb
    obtain ⟨hi1, hi2⟩ := List.getElem?_eq_some_iff.1 hi
    obtain ⟨hj1, hj2⟩ := List.getElem?_eq_some_iff.1 hj
    have h2 := List.pairwise_iff_getElem.1 h.apart i j hi1 hj1 hij
    rw [hi2, hj2] at h2
    exact (h2 k (by simp [eB, hkb]) (by simp [eO, hk])).elim
def ClkPost (b : Nat) (v : Value) (L : List Value) (w : World) (e : Ending) (w' : World) : Prop := e = .returned v ∧ Blk w' b 114 L.toArray ∧ Upd [b] w w'
def NewClk (n : Int) (w : World) (e : Ending) (w' : World) : Prop := ∃ b, e = .returned (.pointer (some ⟨b, 0, none⟩)) ∧ Blk w' b 114 (clockL n n (List.replicate 128 0)).toArray ∧ w.heap.size ≤ b ∧ Ext w w'
set_option maxRecDepth 100000 in
set_option maxHeartbeats 2000000 in
theorem cknows_any (cb : Nat) (lo nx : Int) (K : List Int) (x : Int) (w : World) (hb : Blk w cb 114 (clockL lo nx K).toArray) (hlo : onF lo = true) (hnx : onF nx = true) :
    Calls Tryd.prog 41 #[.pointer (some ⟨cb, 0, none⟩), .int .i64 x] w (Ret (.bool (knowsF lo nx x)) w) := by
  have st0 := St.lent1 hb
  have hal := clk_arr lo nx K
  go_enter Tryd.func41, Tryd.ntmps41
  have hst0 := st0
  refine wp_seq (wp_region_P [0] [.k 4 (.bool false)] [(4, 0, 1, 5)] hst0 fun W1 hst1 => ?_)
  refine then_normal (wp_seq ?_)
  rcases Bool.eq_false_or_eq_true (onF x) with hs3 | hs3
  · skip
    refine wp_region_Z [0, 1, 3, 7, 15, 31, 63, 127, 255, 511, 1023, 127, 4095, 127, 8319, 24703, 57471, 127, 131199, 393343, 917631, 2097151, 4194303, 8388607, 16777215] [[], [], [], [], [], [], [], [], [], [], [0], [], [], [], [], [], [0], [], [], [], [0]] [.k 5 (vp cb), .c 6 (.bool true), .k 7 (.bool true), .k 8 (vi x), .c 9 (.bool true), .k 10 (.bool true), .k 11 (.bool true), .k 12 (vp cb), .k 13 (vp cb), .k 14 (vp cb), .c 15 (vi lo), .k 16 (vi x), .c 17 (vi (stepsF lo x)), .k 18 (vp cb), .k 19 (vp cb), .k 20 (vp cb), .c 21 (vi lo), .k 22 (vp cb), .k 23 (vp cb), .k 24 (.pointer (some ⟨cb, 1, none⟩)), .c 25 (vi nx), .c 26 (vi (stepsF lo nx)), .k 27 (.bool (decide (stepsF lo x < stepsF lo nx))), .k 28 (.bool (decide (stepsF lo x < stepsF lo nx))), .k 4 (.bool (decide (stepsF lo x < stepsF lo nx)))] [0] [1, 4, 10, 12, 16, 20, 21] [(4, 24, 1, 5), (0, 0, 24, 24)] hst1 ?_ fun W4 hst4 => ?_
    · refine ⟨?_, ?_, ?_, ?_, ?_, ?_, ?_, trivial⟩
      · exact sv0 rfl rfl rfl rfl rfl (fun _ _ _ h => h) fun ρ β W X cx => by
          have fF5 : ρ (.tmp 5) = vp cb := (cx.an 0)
          simp [go_sem, cx.sees.const, fF5]
      · exact sv_call_on rfl rfl rfl rfl rfl rfl (fun _ _ _ h => h.trans (congrArg Value.bool hs3)) (fun _ _ _ _ cx => (cx.an 2)) fun ρ β W X cx => ⟨_, _, run_callF (args := #[vi x]) rfl cx.sees rfl (by kernel_rfl) (map1 (cx.an 3)), con_any x _⟩
      · exact xs5 rfl id (fun cx => (cx.an 6)) fun cx => run_load1 rfl (by kernel_rfl) (cx.an 9) (((cx.bi 0 rfl).cell 0).trans ((List.getElem?_toArray ..).trans rfl))
      · exact sv_call_on rfl rfl rfl rfl rfl rfl (fun _ _ _ h => h) (fun _ _ _ _ cx => (cx.an 6)) fun ρ β W X cx => ⟨_, _, run_callF (args := #[vi lo, vi x]) rfl cx.sees rfl (by kernel_rfl) (map2 (cx.an 10) (cx.an 11)), csteps_any lo x _ (by assumption) (by assumption)⟩
      · exact xs5 rfl id (fun cx => (cx.an 6)) fun cx => run_load1 rfl (by kernel_rfl) (cx.an 15) (((cx.bi 0 rfl).cell 0).trans ((List.getElem?_toArray ..).trans rfl))
      · exact xs5 rfl id (fun cx => (cx.an 6)) fun cx => run_load1 rfl (by kernel_rfl) (cx.an 19) (((cx.bi 0 rfl).cell 1).trans ((List.getElem?_toArray ..).trans rfl))
      · exact sv_call_on rfl rfl rfl rfl rfl rfl (fun _ _ _ h => h) (fun _ _ _ _ cx => (cx.an 6)) fun ρ β W X cx => ⟨_, _, run_callF (args := #[vi lo, vi nx]) rfl cx.sees rfl (by kernel_rfl) (map2 (cx.an 16) (cx.an 20)), csteps_any lo nx _ (by assumption) (by assumption)⟩
    refine then_normal (wp_ret ?_)
    refine bodyPost_ret (v := .bool (decide (stepsF lo x < stepsF lo nx))) (results_tmp Tryd.results41 rfl) rfl ?_
    exact Ret.bool (by simp_all [knowsF]) (St.still hst4 hb)
  refine wp_region_Z [0, 1, 3, 7, 15, 31, 63, 127, 255, 511, 1023, 127, 4095, 127, 8319, 24703, 57471, 127, 131199, 393343, 917631, 2097151, 4194303, 8388607, 16777215] [] [.k 5 (vp cb), .c 6 (.bool true), .k 7 (.bool true), .k 8 (vi x), .c 9 (.bool false), .k 10 (.bool false), .k 11 (.bool false), .u 12, .u 13, .u 14, .u 15, .u 16, .u 17, .u 18, .u 19, .u 20, .u 21, .u 22, .u 23, .u 24, .u 25, .u 26, .u 27, .k 28 (.bool false), .k 4 (.bool false)] [0] [1, 4] [(4, 24, 1, 5), (0, 0, 24, 24)] hst1 ?_ fun W5 hst5 => ?_
  · refine ⟨?_, ?_, trivial⟩
    · exact sv0 rfl rfl rfl rfl rfl (fun _ _ _ h => h) fun ρ β W X cx => by
        have fF5 : ρ (.tmp 5) = vp cb := (cx.an 0)
        simp [go_sem, cx.sees.const, fF5]
    · exact sv_call_on rfl rfl rfl rfl rfl rfl (fun _ _ _ h => h.trans (congrArg Value.bool hs3)) (fun _ _ _ _ cx => (cx.an 2)) fun ρ β W X cx => ⟨_, _, run_callF (args := #[vi x]) rfl cx.sees rfl (by kernel_rfl) (map1 (cx.an 3)), con_any x _⟩
  refine then_normal (wp_ret ?_)
  refine bodyPost_ret (v := .bool false) (results_tmp Tryd.results41 rfl) rfl ?_
  exact Ret.bool (by simp_all [knowsF]) (St.still hst5 hb)
set_option maxRecDepth 100000 in
set_option maxHeartbeats 2000000 in
theorem clive_any (cb : Nat) (lo nx : Int) (K : List Int) (x : Int) (w : World) (hb : Blk w cb 114 (clockL lo nx K).toArray) (hK : K.length = 128) (hx : 0 ≤ x ∧ x < 128) :
    Calls Tryd.prog 47 #[.pointer (some ⟨cb, 0, none⟩), .int .i64 x] w (Ret (.bool (liveF K x)) w) := by
  have st0 := St.lent1 hb
  have hal := clk_arr lo nx K
  go_enter Tryd.func47, Tryd.ntmps47
  have hst0 := st0
  refine wp_seq (wp_region_P [0] [.k 4 (.bool false)] [(4, 0, 1, 5)] hst0 fun W1 hst1 => ?_)
  refine then_normal (wp_seq (wp_region_Z [0, 0, 1, 5, 15, 31, 63, 127] [[], [], [], [], [], [], [0]] [.k 6 (vp cb), .k 7 (vi x), .k 8 (vp cb), .k 9 (.pointer (some ⟨cb, 2, none⟩)), .c 10 (.pointer (some ⟨cb, 2 + ((x).toNat) * 2, none⟩)), .k 11 (.pointer (some ⟨cb, 2 + ((x).toNat) * 2, none⟩)), .c 12 (vi (K.getD ((x).toNat) 0)), .k 5 (vi (K.getD ((x).toNat) 0))] [0] [4, 6] [(5, 7, 1, 6), (0, 0, 7, 7)] hst1 ?_ fun W2 hst2 => ?_))
  · refine ⟨?_, ?_, trivial⟩
    · exact xs4 rfl id fun cx => run_indexArrB (n := 128) (sz := 2) (m := (x).toNat) (q := 2 + ((x).toNat) * 2) rfl (by kernel_rfl) (cx.an 3) (cx.an 1) (by omega) (by omega) (by omega)
    · exact xs4 rfl id fun cx => run_load1 rfl (by kernel_rfl) (cx.an 5) (((cx.bi 0 rfl).cell (2 + ((x).toNat) * 2)).trans ((List.getElem?_toArray ..).trans (clk_st (by omega))))
  refine then_normal (wp_seq (wp_region_P [0, 1, 3, 7, 15, 31, 63] [.k 13 (vi (K.getD ((x).toNat) 0)), .k 14 (.bool ((K.getD ((x).toNat) 0) == 1)), .k 15 (.bool ((K.getD ((x).toNat) 0) == 1)), .z 16 (!((K.getD ((x).toNat) 0) == 1)) (vi (K.getD ((x).toNat) 0)), .z 17 (!((K.getD ((x).toNat) 0) == 1)) (.bool ((K.getD ((x).toNat) 0) == 4)), tO 18 ((K.getD ((x).toNat) 0) == 1) ((K.getD ((x).toNat) 0) == 4), .k 4 (.bool (((K.getD ((x).toNat) 0) == 1) || ((K.getD ((x).toNat) 0) == 4)))] [(4, 6, 1, 5), (8, 0, 6, 14)] hst2 fun W3 hst3 => ?_))
  refine then_normal (wp_ret ?_)
  refine bodyPost_ret (v := .bool (((K.getD ((x).toNat) 0) == 1) || ((K.getD ((x).toNat) 0) == 4))) (results_tmp Tryd.results47 rfl) rfl ?_
  exact Ret.bool (by simp_all [liveF]) (St.still hst3 hb)
set_option maxRecDepth 100000 in
set_option maxHeartbeats 2000000 in
theorem cabove_any (cb : Nat) (lo nx : Int) (K : List Int) (x : Int) (w : World) (hb : Blk w cb 114 (clockL lo nx K).toArray) (hlo : onF lo = true) (hnx : onF nx = true) (hK : K.length = 128) (hx : 0 ≤ x ∧ x < 128) :
    Calls Tryd.prog 79 #[.pointer (some ⟨cb, 0, none⟩), .int .i64 x] w (Ret (.int .i64 0) w) := by
  have st0 := St.lent1 hb
  have hal := clk_arr lo nx K
  go_enter Tryd.func79, Tryd.ntmps79
  have hst0 := st0
  refine wp_seq (wp_region_P [0] [.k 4 (vi 0)] [(4, 0, 1, 5)] hst0 fun W1 hst1 => ?_)
  refine then_normal (wp_seq (wp_seq (wp_region_Z [0, 0, 1, 5, 15, 31, 63, 127] [[], [], [], [], [], [], [0]] [.k 6 (vp cb), .k 7 (vi x), .k 8 (vp cb), .k 9 (.pointer (some ⟨cb, 2, none⟩)), .c 10 (.pointer (some ⟨cb, 2 + ((x).toNat) * 2, none⟩)), .k 11 (.pointer (some ⟨cb, 2 + ((x).toNat) * 2 + 1, none⟩)), .c 12 (vi 0), .k 5 (vi 0)] [0] [4, 6] [(5, 7, 1, 6), (0, 0, 7, 7)] hst1 ?_ fun W2 hst2 => ?_)))
  · refine ⟨?_, ?_, trivial⟩
    · exact xs4 rfl id fun cx => run_indexArrB (n := 128) (sz := 2) (m := (x).toNat) (q := 2 + ((x).toNat) * 2) rfl (by kernel_rfl) (cx.an 3) (cx.an 1) (by omega) (by omega) (by omega)
    · exact xs4 rfl id fun cx => run_load1 rfl (by kernel_rfl) (cx.an 5) (((cx.bi 0 rfl).cell (2 + ((x).toNat) * 2 + 1)).trans ((List.getElem?_toArray ..).trans (clk_ab (by omega))))
  refine then_normal (wp_seq ?_)
  have hd4 : (knowsF lo nx 0) = false := knows_zero _ _
  refine wp_region_Z [0, 0, 3] [[], [], [0]] [.k 13 (vp cb), .k 14 (vi 0), .c 15 (.bool false)] [0] [2] [(13, 0, 3, 16)] hst2 ?_ fun W3 hst3 => ?_
  · refine ⟨?_, trivial⟩
    · exact sv_call rfl rfl rfl rfl rfl (fun _ _ _ h => h.trans (congrArg Value.bool hd4)) fun ρ β W X cx => ⟨_, _, run_callF (args := #[vp cb, vi 0]) rfl cx.sees rfl (by kernel_rfl) (map2 (cx.an 0) (cx.an 1)), cknows_any _ lo nx K 0 _ (cx.bi 0 rfl) hlo hnx⟩
  refine then_normal (wp_cond_false (show Act.eval _ _ = .bool false from rfl) (wp_skip (then_normal (wp_seq (wp_region_P [0] [.k 4 (vi 0)] [(4, 0, 1, 5)] hst3 fun W5 hst5 => ?_)))))
  refine then_normal (wp_ret ?_)
  refine bodyPost_ret (v := vi 0) (results_tmp Tryd.results79 rfl) rfl ?_
  exact Ret.int rfl (St.still hst5 hb)
set_option maxRecDepth 100000 in
set_option maxHeartbeats 2000000 in
theorem cnext_any (x : Int) (w : World) (hx : onF x = true) :
    Calls Tryd.prog 43 #[.int .i64 x] w (Ret (.int .i64 (nxF x)) w) := by
  have hx2 := onF_iff.1 hx
  go_enter Tryd.func43, Tryd.ntmps43
  have hst0 := St.start w
  refine wp_seq (wp_region_P [0] [.k 2 (vi 0)] [(2, 0, 1, 3)] hst0 fun W1 hst1 => ?_)
  refine then_normal (wp_seq (wp_seq ?_))
  have hd3 : (onF x) = true := hx
  refine wp_region_Z [0, 1, 3, 7, 15, 31, 63] [] [.k 3 (vi x), .c 4 (.bool true), .k 5 (.bool false), .k 6 (.bool false), .k 7 (vi x), .k 8 (.bool (x == 127)), .k 9 (.bool (x == 127))] [] [1] [(3, 0, 7, 10)] hst1 ?_ fun W2 hst2 => ?_
  · refine ⟨?_, trivial⟩
    · exact sv_call rfl rfl rfl rfl rfl (fun _ _ _ h => h.trans (congrArg Value.bool hd3)) fun ρ β W X cx => ⟨_, _, run_callF (args := #[vi x]) rfl cx.sees rfl (by kernel_rfl) (map1 (cx.an 0)), con_any x _⟩
  refine then_normal ?_
  rcases Bool.eq_false_or_eq_true (x == 127) with hs4 | hs4
  · skip
    have hs4p : x = 127 := by simpa using hs4
    refine wp_cond_true (show Act.eval _ _ = .bool true from (congrArg Value.bool hs4)) (wp_seq (wp_region_P [0] [.k 2 (vi 3)] [(2, 0, 1, 3)] hst2 fun W5 hst5 => ?_))
    refine then_normal (wp_ret (then_ret ?_))
    refine bodyPost_ret (v := vi 3) (results_tmp Tryd.results43 rfl) rfl ?_
    exact Ret.int (by unfold nxF; simp_all <;> omega) hst5.ext
  have hs4p : x ≠ 127 := by simpa using hs4
  refine wp_cond_false (show Act.eval _ _ = .bool false from (congrArg Value.bool hs4)) (wp_skip (then_normal (wp_seq (wp_region_P [0, 1, 3] [.k 10 (vi x), tI 11 (x + 1) (by omega), .k 2 (vi (x + 1))] [(2, 2, 1, 3), (7, 0, 2, 9)] hst2 fun W6 hst6 => ?_))))
  refine then_normal (wp_ret ?_)
  refine bodyPost_ret (v := vi (x + 1)) (results_tmp Tryd.results43 rfl) rfl ?_
  exact Ret.int (by unfold nxF; simp_all <;> omega) hst6.ext
set_option maxRecDepth 100000 in
set_option maxHeartbeats 2000000 in
theorem cstate_any (cb : Nat) (lo nx : Int) (K : List Int) (x : Int) (w : World) (hb : Blk w cb 114 (clockL lo nx K).toArray) (hlo : onF lo = true) (hnx : onF nx = true) (hK : K.length = 128) :
    Calls Tryd.prog 23 #[.pointer (some ⟨cb, 0, none⟩), .int .i64 x] w (Ret (.int .i64 (stateF lo nx K x)) w) := by
  have st0 := St.lent1 hb
  have hal := clk_arr lo nx K
  go_enter Tryd.func23, Tryd.ntmps23
  have hst0 := st0
  refine wp_seq (wp_region_P [0] [.k 4 (vi 0)] [(4, 0, 1, 5)] hst0 fun W1 hst1 => ?_)
  refine then_normal (wp_seq (wp_block (wp_seq (wp_region_Z [0, 1, 3] [] [.k 6 (vp cb), .c 7 (.bool false), .k 5 (.bool false)] [0] [1] [(5, 2, 1, 6), (0, 0, 2, 2)] hst1 ?_ fun W2 hst2 => ?_))))
  · refine ⟨?_, trivial⟩
    · exact sv0 rfl rfl rfl rfl rfl (fun _ _ _ h => h) fun ρ β W X cx => by
        have fF6 : ρ (.tmp 6) = vp cb := (cx.an 0)
        simp [go_sem, cx.sees.const, fF6]
  refine then_normal (wp_cond_false (show Act.eval _ _ = .bool false from rfl) (wp_seq (wp_region_P [0, 1, 3] [.k 9 (vi x), .k 10 (.bool (x == 2)), .k 8 (.bool (x == 2))] [(8, 2, 1, 9), (0, 0, 2, 2)] hst2 fun W3 hst3 => ?_)))
  refine then_normal ?_
  rcases Bool.eq_false_or_eq_true (x == 2) with hs4 | hs4
  · skip
    have hs4p : x = 2 := by simpa using hs4
    refine wp_cond_true (show Act.eval _ _ = .bool true from (congrArg Value.bool hs4)) (wp_seq (wp_region_P [0] [.k 4 (vi 2)] [(4, 0, 1, 5)] hst3 fun W5 hst5 => ?_))
    refine then_normal (wp_ret (blk_ret (then_ret ?_)))
    refine bodyPost_ret (v := vi 2) (results_tmp Tryd.results23 rfl) rfl ?_
    exact Ret.int (by simp_all [stateF]) (St.still hst5 hb)
  have hs4p : x ≠ 2 := by simpa using hs4
  refine wp_cond_false (show Act.eval _ _ = .bool false from (congrArg Value.bool hs4)) (wp_seq (wp_region_Z [0, 0, 3, 7, 15] [[], [], [0]] [.k 12 (vp cb), .k 13 (vi x), .c 14 (.bool (knowsF lo nx x)), .k 15 (.bool (!(knowsF lo nx x))), .k 11 (.bool (!(knowsF lo nx x)))] [0] [2] [(11, 4, 1, 12), (0, 0, 4, 4)] hst3 ?_ fun W6 hst6 => ?_))
  · refine ⟨?_, trivial⟩
    · exact xsc rfl id rfl rfl fun cx => ⟨_, cknows_any _ lo nx K x _ (cx.bi 0 rfl) hlo hnx, (map2 (cx.an 0) (cx.an 1))⟩
  refine then_normal ?_
  rcases Bool.eq_false_or_eq_true (knowsF lo nx x) with hs7 | hs7
  · skip
    refine wp_cond_false (show Act.eval _ _ = .bool false from (congrArg Value.bool (by rw [hs7]; rfl))) (wp_skip (blk_normal (then_normal (wp_seq ?_))))
    have hkx := knows_on (by assumption : knowsF lo nx x = true)
    have hx2 := onF_iff.1 hkx
    refine wp_region_Z [0, 0, 1, 5, 15, 31, 63, 127] [[], [], [], [], [], [], [0]] [.k 16 (vp cb), .k 17 (vi x), .k 18 (vp cb), .k 19 (.pointer (some ⟨cb, 2, none⟩)), .c 20 (.pointer (some ⟨cb, 2 + ((x).toNat) * 2, none⟩)), .k 21 (.pointer (some ⟨cb, 2 + ((x).toNat) * 2, none⟩)), .c 22 (vi (K.getD ((x).toNat) 0)), .k 4 (vi (K.getD ((x).toNat) 0))] [0] [4, 6] [(4, 7, 1, 5), (11, 0, 7, 18)] hst6 ?_ fun W8 hst8 => ?_
    · refine ⟨?_, ?_, trivial⟩
      · exact xs4 rfl id fun cx => run_indexArrB (n := 128) (sz := 2) (m := (x).toNat) (q := 2 + ((x).toNat) * 2) rfl (by kernel_rfl) (cx.an 3) (cx.an 1) (by omega) (by omega) (by omega)
      · exact xs4 rfl id fun cx => run_load1 rfl (by kernel_rfl) (cx.an 5) (((cx.bi 0 rfl).cell (2 + ((x).toNat) * 2)).trans ((List.getElem?_toArray ..).trans (clk_st (by omega))))
    refine then_normal (wp_ret ?_)
    refine bodyPost_ret (v := vi (K.getD ((x).toNat) 0)) (results_tmp Tryd.results23 rfl) rfl ?_
    exact Ret.int (by simp_all [stateF]) (St.still hst8 hb)
  refine wp_cond_true (show Act.eval _ _ = .bool true from (congrArg Value.bool (by rw [hs7]; rfl))) (wp_seq (wp_region_P [0] [.k 4 (vi 0)] [(4, 0, 1, 5)] hst6 fun W9 hst9 => ?_))
  refine then_normal (wp_ret (blk_ret (then_ret ?_)))
  refine bodyPost_ret (v := vi 0) (results_tmp Tryd.results23 rfl) rfl ?_
  exact Ret.int (by simp_all [stateF]) (St.still hst9 hb)
set_option maxRecDepth 100000 in
set_option maxHeartbeats 2000000 in
theorem cbegin_any (cb : Nat) (lo nx : Int) (K : List Int) (w : World) (hb : Blk w cb 114 (clockL lo nx K).toArray) (hlo : onF lo = true) (hnx : onF nx = true) (hK : K.length = 128) (hfar : stepsF lo nx < 60) :
    Calls Tryd.prog 17 #[.pointer (some ⟨cb, 0, none⟩), .int .i64 0] w (ClkPost cb (.tuple #[.int .i64 nx, .int .i64 0]) (clockL lo (nxF nx) (K.set nx.toNat 1)) w) := by
  have st0 := St.lent1 hb
  have hal := clk_arr lo nx K
  have hlo2 := onF_iff.1 hlo
  have hnx2 := onF_iff.1 hnx
  go_enter Tryd.func17, Tryd.ntmps17
  have hst0 := st0
  refine wp_seq (wp_region_P [0, 1] [.k 4 (vi 0), .k 5 (vi 0)] [(4, 0, 2, 6)] hst0 fun W1 hst1 => ?_)
  refine then_normal (wp_seq (wp_block (wp_seq (wp_seq (wp_region_Z [0, 1, 3] [] [.k 8 (vp cb), .c 9 (.bool false), .k 7 (.bool false)] [0] [1] [(7, 2, 1, 8), (0, 0, 2, 2)] hst1 ?_ fun W2 hst2 => ?_)))))
  · refine ⟨?_, trivial⟩
    · exact sv0 rfl rfl rfl rfl rfl (fun _ _ _ h => h) fun ρ β W X cx => by
        have fF8 : ρ (.tmp 8) = vp cb := (cx.an 0)
        simp [go_sem, cx.sees.const, fF8]
  refine then_normal (wp_cond_false (show Act.eval _ _ = .bool false from rfl) (wp_region_P [0, 1, 3, 7, 7, 31, 63, 127, 255, 255, 511, 1535, 4095, 8191, 16383, 32767, 65535, 131071, 262143] [.k 10 (vi 0), .k 11 (.bool false), .k 12 (.bool false), .u 13, .u 14, .u 15, .u 16, .u 17, .u 18, .u 19, .u 20, .u 21, .u 22, .u 23, .u 24, .u 25, .u 26, .k 27 (.bool false), .k 7 (.bool false)] [(7, 18, 1, 8), (2, 0, 18, 20)] hst2 fun W3 hst3 => ?_))
  refine then_normal (wp_cond_false (show Act.eval _ _ = .bool false from rfl) (wp_seq ?_))
  have hd5 : (decide (60 ≤ stepsF lo nx)) = false := (by rw [decide_eq_false_iff_not]; omega)
  refine wp_region_Z [0, 1, 3, 7, 0, 16, 48, 112, 255, 511, 1023] [[], [], [], [0], [], [], [], [0]] [.k 29 (vp cb), .k 30 (vp cb), .k 31 (vp cb), .c 32 (vi lo), .k 33 (vp cb), .k 34 (vp cb), .k 35 (.pointer (some ⟨cb, 1, none⟩)), .c 36 (vi nx), .c 37 (vi (stepsF lo nx)), .e 38 (.bool (decide (60 ≤ stepsF lo nx))) (.bool false) (congrArg Value.bool hd5), .k 28 (.bool false)] [0] [3, 7, 8] [(28, 10, 1, 29), (0, 0, 10, 10)] hst3 ?_ fun W4 hst4 => ?_
  · refine ⟨?_, ?_, ?_, trivial⟩
    · exact xs4 rfl id fun cx => run_load1 rfl (by kernel_rfl) (cx.an 2) (((cx.bi 0 rfl).cell 0).trans ((List.getElem?_toArray ..).trans rfl))
    · exact xs4 rfl id fun cx => run_load1 rfl (by kernel_rfl) (cx.an 6) (((cx.bi 0 rfl).cell 1).trans ((List.getElem?_toArray ..).trans rfl))
    · exact xsc rfl id rfl rfl fun cx => ⟨_, csteps_any lo nx _ (by assumption) (by assumption), (map2 (cx.an 3) (cx.an 7))⟩
  refine then_normal (wp_cond_false (show Act.eval _ _ = .bool false from rfl) (wp_skip (blk_normal (then_normal (wp_seq (wp_region_Z [0, 1, 3, 7, 15] [[], [], [], [0]] [.k 39 (vp cb), .k 40 (vp cb), .k 41 (.pointer (some ⟨cb, 1, none⟩)), .c 42 (vi nx), .k 6 (vi nx)] [0] [3] [(6, 4, 1, 7), (32, 0, 4, 36)] hst4 ?_ fun W6 hst6 => ?_))))))
  · refine ⟨?_, trivial⟩
    · exact xs4 rfl id fun cx => run_load1 rfl (by kernel_rfl) (cx.an 2) (((cx.bi 0 rfl).cell 1).trans ((List.getElem?_toArray ..).trans rfl))
  refine then_normal (wp_seq (wp_region_Y [0, 0, 0, 4, 1, 17, 63, 127] [[], [], [], [], [], [], [], [0]] [[], [], [], [], [], [], [], [1]] [[], [], [], [], [], [], [], [0]] [.k 43 (vp cb), .k 44 (vi nx), .k 45 (vi 0), .k 46 (.agg #[vi 1, vi 0]), .k 47 (vp cb), .k 48 (.pointer (some ⟨cb, 2, none⟩)), .c 49 (.pointer (some ⟨cb, 2 + ((nx).toNat) * 2, none⟩)), .n] (fun ix σ β X => match ix with | 0 => True | 1 => True | 2 => True | 3 => True | 4 => True | 5 => True | 6 => True | 7 => X 1 = eB cb 114 (clockL lo nx (K.set ((nx).toNat) 1)).toArray | _ => True) [1] [6, 7] [(43, 0, 7, 50)] hst6 ?_ ?_ ?_))
  · exact fun ix _ _ _ _ _ _ hs hb hx h => match ix, h with
    | 7, h => by dsimp only at h ⊢; rw [← hx 1 rfl]; exact h
    | 0, _ | 1, _ | 2, _ | 3, _ | 4, _ | 5, _ | 6, _ | _ + 8, _ => trivial
  · refine ⟨?_, ?_, trivial⟩
    · exact xs4 rfl id fun cx => run_indexArrB (n := 128) (sz := 2) (m := (nx).toNat) (q := 2 + ((nx).toNat) * 2) rfl (by kernel_rfl) (cx.an 5) (cx.an 1) (by omega) (by omega) (by omega)
    · refine sv_any rfl rfl fun ρ β W X cx => ?_
      exact dv_store (n := 2) (cs := (clockL lo nx K).toArray) (cs' := (clockL lo nx (K.set ((nx).toNat) 1)).toArray) rfl (cx.an 6) (cx.an 3) (by kernel_rfl) (by kernel_rfl) (by kernel_rfl) cx (cx.init 0 _ rfl) rfl (by rw [clk_arr]; omega) (clk_put _ _ _ _ _) rfl rfl rfl (fun σ β' X' hs hb hx => hx)
  intro σ β X W7 hD hst7 fr hfr
  simp only [exq 1 ((dTn (hD 7 lq)))] at hst7
  clear hD; subst hfr; clear σ β X
  refine then_normal (wp_seq (wp_region_Y [0, 0, 2, 7, 15, 31] [[], [], [], [], [], [0]] [[], [], [], [], [], [1]] [[], [], [], [], [], [0]] [.k 50 (vp cb), .k 51 (vi nx), .c 52 (vi (nxF nx)), .k 53 (vp cb), .k 54 (.pointer (some ⟨cb, 1, none⟩)), .n] (fun ix σ β X => match ix with | 0 => True | 1 => True | 2 => True | 3 => True | 4 => True | 5 => X 1 = eB cb 114 (clockL lo (nxF nx) (K.set ((nx).toNat) 1)).toArray | _ => True) [1] [2, 5] [(50, 0, 5, 55)] hst7 ?_ ?_ ?_))
  · exact fun ix _ _ _ _ _ _ hs hb hx h => match ix, h with
    | 5, h => by dsimp only at h ⊢; rw [← hx 1 rfl]; exact h
    | 0, _ | 1, _ | 2, _ | 3, _ | 4, _ | _ + 6, _ => trivial
  · refine ⟨?_, ?_, trivial⟩
    · exact xsc rfl id rfl rfl fun cx => ⟨_, cnext_any nx _ (by assumption), (map1 (cx.an 1))⟩
    · refine sv_any rfl rfl fun ρ β W X cx => ?_
      exact dv_storeAr (m := 1) rfl (cx.an 4) (cx.an 2) (by kernel_rfl) rfl rfl cx (cx.init 0 _ rfl) rfl (by rw [clk_len]; first | omega | (simp only [List.length_set]; omega)) rfl (rfl) rfl rfl (fun σ β' X' hs hb hx => hx)
  intro σ β X W8 hD hst8 fr hfr
  simp only [exq 1 ((dTn (hD 5 lq)))] at hst8
  clear hD; subst hfr; clear σ β X
  refine then_normal (wp_seq (wp_region_P [0, 1, 3] [.k 55 (vi nx), .k 4 (vi nx), .k 5 (vi 0)] [(4, 1, 2, 6), (49, 0, 1, 50)] hst8 fun W9 hst9 => ?_))
  refine then_normal (wp_ret ?_)
  refine bodyPost_ret (v := .tuple #[vi nx, vi 0]) (by simp [results, Tryd.results17, go_sem]) rfl ?_
  exact ⟨rfl, hst9.blk 0 rfl, hst9.upd⟩
set_option maxRecDepth 100000 in
set_option maxHeartbeats 2000000 in
theorem cnew_any (n : Int) (w : World) (hn : onF n = true) :
    Calls Tryd.prog 15 #[.int .i64 n] w (NewClk n w) := by
  go_enter Tryd.func15, Tryd.ntmps15
  have hst0 := St.start w
  refine wp_seq (wp_region_P [0] [.k 2 (.pointer none)] [(2, 0, 1, 3)] hst0 fun W1 hst1 => ?_)
  refine then_normal (wp_seq (wp_seq ?_))
  have hd3 : (onF n) = true := hn
  refine wp_region_Z [0, 1, 3] [] [.k 3 (vi n), .c 4 (.bool true), .k 5 (.bool false)] [] [1] [(3, 0, 3, 6)] hst1 ?_ fun W2 hst2 => ?_
  · refine ⟨?_, trivial⟩
    · exact sv_call rfl rfl rfl rfl rfl (fun _ _ _ h => h.trans (congrArg Value.bool hd3)) fun ρ β W X cx => ⟨_, _, run_callF (args := #[vi n]) rfl cx.sees rfl (by kernel_rfl) (map1 (cx.an 0)), con_any n _⟩
  refine then_normal (wp_cond_false (show Act.eval _ _ = .bool false from rfl) (wp_skip (then_normal (wp_seq (wp_region_Y [0, 0, 3, 7, 15] [] [[], [], [], [0]] [] [.k 6 (vi n), .k 7 (vi n), .k 8 (.agg #[vi n, vi n, vi 0, vi 0, vi 0, vi 0, vi 0, vi 0, vi 0, vi 0, vi 0, vi 0, vi 0, vi 0, vi 0, vi 0, vi 0, vi 0, vi 0, vi 0, vi 0, vi 0, vi 0, vi 0, vi 0, vi 0, vi 0, vi 0, vi 0, vi 0, vi 0, vi 0, vi 0, vi 0, vi 0, vi 0, vi 0, vi 0, vi 0, vi 0, vi 0, vi 0, vi 0, vi 0, vi 0, vi 0, vi 0, vi 0, vi 0, vi 0, vi 0, vi 0, vi 0, vi 0, vi 0, vi 0, vi 0, vi 0, vi 0, vi 0, vi 0, vi 0, vi 0, vi 0, vi 0, vi 0, vi 0, vi 0, vi 0, vi 0, vi 0, vi 0, vi 0, vi 0, vi 0, vi 0, vi 0, vi 0, vi 0, vi 0, vi 0, vi 0, vi 0, vi 0, vi 0, vi 0, vi 0, vi 0, vi 0, vi 0, vi 0, vi 0, vi 0, vi 0, vi 0, vi 0, vi 0, vi 0, vi 0, vi 0, vi 0, vi 0, vi 0, vi 0, vi 0, vi 0, vi 0, vi 0, vi 0, vi 0, vi 0, vi 0, vi 0, vi 0, vi 0, vi 0, vi 0, vi 0, vi 0, vi 0, vi 0, vi 0, vi 0, vi 0, vi 0, vi 0, vi 0, vi 0, vi 0, vi 0, vi 0, vi 0, vi 0, vi 0, vi 0, vi 0, vi 0, vi 0, vi 0, vi 0, vi 0, vi 0, vi 0, vi 0, vi 0, vi 0, vi 0, vi 0, vi 0, vi 0, vi 0, vi 0, vi 0, vi 0, vi 0, vi 0, vi 0, vi 0, vi 0, vi 0, vi 0, vi 0, vi 0, vi 0, vi 0, vi 0, vi 0, vi 0, vi 0, vi 0, vi 0, vi 0, vi 0, vi 0, vi 0, vi 0, vi 0, vi 0, vi 0, vi 0, vi 0, vi 0, vi 0, vi 0, vi 0, vi 0, vi 0, vi 0, vi 0, vi 0, vi 0, vi 0, vi 0, vi 0, vi 0, vi 0, vi 0, vi 0, vi 0, vi 0, vi 0, vi 0, vi 0, vi 0, vi 0, vi 0, vi 0, vi 0, vi 0, vi 0, vi 0, vi 0, vi 0, vi 0, vi 0, vi 0, vi 0, vi 0, vi 0, vi 0, vi 0, vi 0, vi 0, vi 0, vi 0, vi 0, vi 0, vi 0, vi 0, vi 0, vi 0, vi 0, vi 0, vi 0, vi 0, vi 0, vi 0, vi 0, vi 0, vi 0, vi 0, vi 0, vi 0, vi 0, vi 0, vi 0, vi 0, vi 0, vi 0, vi 0, vi 0, vi 0, vi 0, vi 0, vi 0, vi 0, vi 0, vi 0]), .a 9, .a 2] (fun ix σ β X => match ix with | 0 => True | 1 => True | 2 => True | 3 => σ 9 = vp (pb (β 9)) ∧ X 0 = eB (pb (β 9)) 114 #[vi n, vi n, vi 0, vi 0, vi 0, vi 0, vi 0, vi 0, vi 0, vi 0, vi 0, vi 0, vi 0, vi 0, vi 0, vi 0, vi 0, vi 0, vi 0, vi 0, vi 0, vi 0, vi 0, vi 0, vi 0, vi 0, vi 0, vi 0, vi 0, vi 0, vi 0, vi 0, vi 0, vi 0, vi 0, vi 0, vi 0, vi 0, vi 0, vi 0, vi 0, vi 0, vi 0, vi 0, vi 0, vi 0, vi 0, vi 0, vi 0, vi 0, vi 0, vi 0, vi 0, vi 0, vi 0, vi 0, vi 0, vi 0, vi 0, vi 0, vi 0, vi 0, vi 0, vi 0, vi 0, vi 0, vi 0, vi 0, vi 0, vi 0, vi 0, vi 0, vi 0, vi 0, vi 0, vi 0, vi 0, vi 0, vi 0, vi 0, vi 0, vi 0, vi 0, vi 0, vi 0, vi 0, vi 0, vi 0, vi 0, vi 0, vi 0, vi 0, vi 0, vi 0, vi 0, vi 0, vi 0, vi 0, vi 0, vi 0, vi 0, vi 0, vi 0, vi 0, vi 0, vi 0, vi 0, vi 0, vi 0, vi 0, vi 0, vi 0, vi 0, vi 0, vi 0, vi 0, vi 0, vi 0, vi 0, vi 0, vi 0, vi 0, vi 0, vi 0, vi 0, vi 0, vi 0, vi 0, vi 0, vi 0, vi 0, vi 0, vi 0, vi 0, vi 0, vi 0, vi 0, vi 0, vi 0, vi 0, vi 0, vi 0, vi 0, vi 0, vi 0, vi 0, vi 0, vi 0, vi 0, vi 0, vi 0, vi 0, vi 0, vi 0, vi 0, vi 0, vi 0, vi 0, vi 0, vi 0, vi 0, vi 0, vi 0, vi 0, vi 0, vi 0, vi 0, vi 0, vi 0, vi 0, vi 0, vi 0, vi 0, vi 0, vi 0, vi 0, vi 0, vi 0, vi 0, vi 0, vi 0, vi 0, vi 0, vi 0, vi 0, vi 0, vi 0, vi 0, vi 0, vi 0, vi 0, vi 0, vi 0, vi 0, vi 0, vi 0, vi 0, vi 0, vi 0, vi 0, vi 0, vi 0, vi 0, vi 0, vi 0, vi 0, vi 0, vi 0, vi 0, vi 0, vi 0, vi 0, vi 0, vi 0, vi 0, vi 0, vi 0, vi 0, vi 0, vi 0, vi 0, vi 0, vi 0, vi 0, vi 0, vi 0, vi 0, vi 0, vi 0, vi 0, vi 0, vi 0, vi 0, vi 0, vi 0, vi 0, vi 0, vi 0, vi 0, vi 0, vi 0, vi 0, vi 0, vi 0, vi 0, vi 0, vi 0, vi 0, vi 0, vi 0, vi 0, vi 0, vi 0, vi 0, vi 0, vi 0, vi 0, vi 0] | 4 => σ 2 = vp (pb (β 9)) | _ => True) [0] [3, 4] [(2, 4, 1, 3), (3, 0, 4, 7)] hst2 ?_ ?_ ?_)))))
  · exact fun ix _ _ _ _ _ _ hs hb hx h => match ix, h with
    | 3, h => by dsimp only at h ⊢; rw [← hs 9 rfl, ← hb 9 rfl, ← hx 0 rfl]; exact h
    | 4, h => by dsimp only at h ⊢; rw [← hs 2 rfl, ← hb 9 rfl]; exact h
    | 0, _ | 1, _ | 2, _ | _ + 5, _ => trivial
  · refine ⟨?_, ?_, trivial⟩
    · refine sv_any rfl rfl fun ρ β W X cx => ?_
      exact dv_box (cs := #[vi n, vi n, vi 0, vi 0, vi 0, vi 0, vi 0, vi 0, vi 0, vi 0, vi 0, vi 0, vi 0, vi 0, vi 0, vi 0, vi 0, vi 0, vi 0, vi 0, vi 0, vi 0, vi 0, vi 0, vi 0, vi 0, vi 0, vi 0, vi 0, vi 0, vi 0, vi 0, vi 0, vi 0, vi 0, vi 0, vi 0, vi 0, vi 0, vi 0, vi 0, vi 0, vi 0, vi 0, vi 0, vi 0, vi 0, vi 0, vi 0, vi 0, vi 0, vi 0, vi 0, vi 0, vi 0, vi 0, vi 0, vi 0, vi 0, vi 0, vi 0, vi 0, vi 0, vi 0, vi 0, vi 0, vi 0, vi 0, vi 0, vi 0, vi 0, vi 0, vi 0, vi 0, vi 0, vi 0, vi 0, vi 0, vi 0, vi 0, vi 0, vi 0, vi 0, vi 0, vi 0, vi 0, vi 0, vi 0, vi 0, vi 0, vi 0, vi 0, vi 0, vi 0, vi 0, vi 0, vi 0, vi 0, vi 0, vi 0, vi 0, vi 0, vi 0, vi 0, vi 0, vi 0, vi 0, vi 0, vi 0, vi 0, vi 0, vi 0, vi 0, vi 0, vi 0, vi 0, vi 0, vi 0, vi 0, vi 0, vi 0, vi 0, vi 0, vi 0, vi 0, vi 0, vi 0, vi 0, vi 0, vi 0, vi 0, vi 0, vi 0, vi 0, vi 0, vi 0, vi 0, vi 0, vi 0, vi 0, vi 0, vi 0, vi 0, vi 0, vi 0, vi 0, vi 0, vi 0, vi 0, vi 0, vi 0, vi 0, vi 0, vi 0, vi 0, vi 0, vi 0, vi 0, vi 0, vi 0, vi 0, vi 0, vi 0, vi 0, vi 0, vi 0, vi 0, vi 0, vi 0, vi 0, vi 0, vi 0, vi 0, vi 0, vi 0, vi 0, vi 0, vi 0, vi 0, vi 0, vi 0, vi 0, vi 0, vi 0, vi 0, vi 0, vi 0, vi 0, vi 0, vi 0, vi 0, vi 0, vi 0, vi 0, vi 0, vi 0, vi 0, vi 0, vi 0, vi 0, vi 0, vi 0, vi 0, vi 0, vi 0, vi 0, vi 0, vi 0, vi 0, vi 0, vi 0, vi 0, vi 0, vi 0, vi 0, vi 0, vi 0, vi 0, vi 0, vi 0, vi 0, vi 0, vi 0, vi 0, vi 0, vi 0, vi 0, vi 0, vi 0, vi 0, vi 0, vi 0, vi 0, vi 0, vi 0, vi 0, vi 0, vi 0, vi 0, vi 0, vi 0, vi 0, vi 0, vi 0, vi 0, vi 0, vi 0, vi 0, vi 0, vi 0, vi 0, vi 0, vi 0, vi 0, vi 0, vi 0, vi 0, vi 0]) rfl (cx.an 2) rfl rfl rfl (fun σ β' X' hs hb hv hx => ⟨hv, hx⟩)
    · exact sv rfl rfl rfl rfl rfl _ (fun _ _ _ h => h) (fun β β' h => by rw [h 9 (by decide)]) fun ρ β W X cx => run_assign' rfl (dTn (cx.an 3)).1
  intro σ β X W4 hD hst4 fr hfr
  obtain ⟨B9_4, hu_B9_4⟩ : ∃ z, pb (β 9) = z := ⟨_, rfl⟩
  simp only [exq 0 ((dTn (hD 3 lq)).2), hu_B9_4] at hst4
  simp only [ed 9 ((dTn (hD 3 lq)).1), ed 2 ((dTn (hD 4 lq))), hu_B9_4] at hfr
  clear hD hu_B9_4; subst hfr; clear σ β X
  refine then_normal (wp_ret ?_)
  refine bodyPost_ret (v := vp B9_4) (results_tmp Tryd.results15 rfl) rfl ?_
  exact ⟨_, rfl, (hst4.blk 0 rfl).trans (by kernel_rfl), ((hst4.get 0 rfl).own _ (by simp [eB])).1.resolve_left (by simp), hst4.ext⟩
end
end Go.Proofs.YtjnplglnnamfdaaDoor
namespace Go.Proofs.YtjnplglnnamfdaaDoor
section
open Go.RowKit
set_option linter.unusedVariables false
set_option linter.unusedSimpArgs false
theorem Ext.grownN {w w' : World} (h : Ext w w') : w.grownBy w' none := ⟨h.out.os, h.out.tape, h.out.output, h.size, fun k hk _ => h.out.block k hk⟩
/-- an id on the ring -/
abbrev RX := { x : Int // onF x = true }
def rAt (lo : Int) (k : Nat) : Int := 3 + (lo - 3 + k) % 125
theorem rAt_on (lo : Int) (k : Nat) : onF (rAt lo k) = true := onF_iff.2 (by unfold rAt; omega)
def rX (lo : Int) (k : Nat) : RX := ⟨rAt lo k, rAt_on lo k⟩
theorem rAt_zero {lo : Int} (h : onF lo = true) : rAt lo 0 = lo := by have := onF_iff.1 h; unfold rAt; omega
theorem rAt_next (lo : Int) (k : Nat) : nxF (rAt lo k) = rAt lo (k + 1) := by unfold nxF rAt; omega
def stepN (lo nx : Int) : Nat := (stepsF lo nx).toNat
theorem stepN_at {lo nx : Int} {k : Nat} (hlo : onF lo = true) (hnx : onF nx = true) (hk : k ≤ stepN lo nx) : rAt lo k = nx ↔ k = stepN lo nx := by
  have h1 := onF_iff.1 hlo; have h2 := onF_iff.1 hnx
  unfold stepN stepsF at hk ⊢
  unfold rAt
  omega
def ringL (lo nx : Int) : List RX := (List.range (stepN lo nx)).map (rX lo)
theorem ring_take (lo nx : Int) (k : Nat) (hk : k < stepN lo nx) : (ringL lo nx).take k ++ [rX lo k] = (ringL lo nx).take (k + 1) := by
  rw [List.take_add_one]
  congr 1
  simp [ringL, hk]
theorem ring_len (lo nx : Int) : (ringL lo nx).length = stepN lo nx := by simp [ringL]
def togo (nx : Int) (v : Value) : Nat := match v with
  | .int _ x => (stepsF x nx).toNat
  | _ => 0
theorem togo_at {lo nx : Int} {k : Nat} (hlo : onF lo = true) (hnx : onF nx = true) (hk : k < stepN lo nx) : togo nx (.int .i64 (rAt lo (k + 1))) < togo nx (.int .i64 (rAt lo k)) := by
  have h1 := onF_iff.1 hlo; have h2 := onF_iff.1 hnx
  unfold stepN stepsF at hk
  simp only [togo]
  unfold stepsF rAt
  omega
set_option maxRecDepth 100000 in
set_option maxHeartbeats 2000000 in
theorem all1_in (l Bn cb : Nat) (R : List Nat) (lo nx : Int) (K : List Int) (hlo : onF lo = true) (hnx : onF nx = true) (J Jx : List RX → World → Prop) (hJ : ∀ s A B, J s A → Ext A B → J s B)
    (hY : ∀ pre x W, J pre W → pre.length < stepN lo nx → YieldAt Fence.wide 1 Tryd.prog l #[.int .i64 x.1] W fun e W' =>
      (e = .returned (.bool true) ∧ J (pre ++ [x]) W' ∧ KpR R W W') ∨ (e = .returned (.bool false) ∧ Jx (pre ++ [x]) W'))
    (hBn : Bn ∈ R) (hcb : cb ∈ R)
    (W : World) (hb : Blk W Bn 53 #[.pointer (some ⟨cb, 0, none⟩)]) (hc : Blk W cb 114 (clockL lo nx K).toArray) (h0 : J [] W) :
    CallsIn Fence.wide 2 Tryd.prog 77 #[.func (.yield l) #[] #[], .pointer (some ⟨Bn, 0, none⟩)] W fun e W' => (∃ v, e = .returned v) ∧
      ((∃ ys, ys = ringL lo nx ∧ J ys W') ∨ (∃ pre, pre <+: ringL lo nx ∧ Jx pre W')) := by
  refine callsIn_of_wp Tryd.func77 rfl trivial ?_ rfl
  simp only [Tryd.ntmps77, List.size_toArray, List.length_cons, List.length_nil, Nat.reduceAdd, Nat.reduceSub, Array.replicate_succ, Array.replicate_zero, List.push_toArray, List.append_toArray, List.nil_append, List.cons_append]
  have hp : W.cell? ⟨Bn, 0, none⟩ = some (.pointer (some ⟨cb, 0, none⟩)) := hb.cell 0
  have hc0 : W.cell? ⟨cb, 0, none⟩ = some (.int .i64 lo) := (hc.cell 0).trans rfl
  gi_wp2
  gi_loopw [3] (fun p wr => ∃ k : Nat, p = .int .i64 (rAt lo k) ∧ k ≤ stepN lo nx ∧ Blk wr Bn 53 #[.pointer (some ⟨cb, 0, none⟩)] ∧ Blk wr cb 114 (clockL lo nx K).toArray ∧ J ((ringL lo nx).take k) wr)
    (fun p wr => togo nx p)
  case atStart =>
    exact ⟨0, by rw [rAt_zero hlo], Nat.zero_le _, hb, hc, by simpa using h0⟩
  case round =>
    clear hp hc0
    obtain ⟨k, rfl, hk, hb, hc, hJs⟩ := hrel
    have hp : wr.cell? ⟨Bn, 0, none⟩ = some (.pointer (some ⟨cb, 0, none⟩)) := hb.cell 0
    have hc1 : wr.cell? ⟨cb, 1, none⟩ = some (.int .i64 nx) := (hc.cell 1).trans rfl
    rcases Nat.lt_or_ge k (stepN lo nx) with hlt | hge
    · have hne : ((rAt lo k != nx) = true) := by
        have := mt (stepN_at hlo hnx hk).1 (by omega)
        simpa using this
      obtain ⟨fn, tmps, assign, body, hy, hR⟩ := hY ((ringL lo nx).take k) (rX lo k) wr hJs (by rw [List.length_take, ring_len]; omega)
      have hy' : (Instr.yield l #[.int .i64 (rAt lo k)]).run Tryd.prog wr = .ok (.round l fn tmps assign body) wr := hy
      clear hy
      have hx2 := rAt_on lo k
      have htg := togo_at hlo hnx hlt
      rw [ring_take lo nx k hlt] at hR
      rw [← rAt_next] at htg
      obtain ⟨x, hx⟩ : ∃ z, rAt lo k = z := ⟨_, rfl⟩
      rw [hx] at hne hx2 htg hy' ⊢
      gi_wp2
      refine hR.mono ?_
      rintro e W3 (⟨rfl, hJ3, hk3⟩ | ⟨rfl, hJx3⟩)
      · gi_wp2_with (refine ⟨trivial, ?_⟩; gi_at_call 43; refine (callsIn_wide.2 (cnext_any x _ hx2)).mono ?_; rintro e w' ⟨rfl, hxt⟩)
        go_roundw
        case rel => exact ⟨k + 1, by rw [← rAt_next, hx], hlt, (hk3.blk hBn hb).ext hxt, (hk3.blk hcb hc).ext hxt, hJ _ _ _ hJ3 hxt⟩
        case measure => exact htg
      · gi_wp2
        refine bodyPost_ret (results_none rfl _ _ _) rfl ?_
        exact ⟨⟨_, rfl⟩, .inr ⟨_, List.take_prefix _ _, hJx3⟩⟩
    · have he : k = stepN lo nx := by omega
      have hxn : rAt lo k = nx := (stepN_at hlo hnx hk).2 he
      rw [hxn]
      rw [List.take_of_length_le (by rw [ring_len]; omega)] at hJs
      gi_wp2
      go_end0
      exact ⟨⟨_, rfl⟩, .inl ⟨_, rfl, hJs⟩⟩
theorem all_stops (Bn cb : Nat) (R : List Nat) (lo nx : Int) (K : List Int) (w : World) (hlo : onF lo = true) (hnx : onF nx = true) (hBn : Bn ∈ R) (hcb : cb ∈ R) (hb : Blk w Bn 53 #[.pointer (some ⟨cb, 0, none⟩)]) (hc : Blk w cb 114 (clockL lo nx K).toArray) :
    SeqStopsK Fence.wide 2 Tryd.prog 77 #[.pointer (some ⟨Bn, 0, none⟩)] (fun x : RX => #[.int .i64 x.1]) (KpR R) (fun xs => xs = ringL lo nx) (fun pre => pre <+: ringL lo nx) (stepN lo nx) w := fun l J Jx W hW hJ hJx hY h0 =>
  all1_in l Bn cb R lo nx K hlo hnx J Jx (fun s A B h hx => hJ s A B none h hx.grownN (fun r e => by cases e)) hY hBn hcb W (hb.ext hW) (hc.ext hW) h0
/-- the ids that have not ended -/
def liveL (K : List Int) (l : List RX) : List Int := (l.filter fun x => liveF K x.1).map (·.1)
theorem live_hit {K : List Int} {l : List RX} {x : RX} (h : liveF K x.1 = true) : liveL K (l ++ [x]) = liveL K l ++ [x.1] := by simp [liveL, h]
theorem live_miss {K : List Int} {l : List RX} {x : RX} (h : liveF K x.1 = false) : liveL K (l ++ [x]) = liveL K l := by simp [liveL, h]
theorem live_le (K : List Int) (l : List RX) : (liveL K l).length ≤ l.length := by simp only [liveL, List.length_map]; exact List.length_filter_le _ _
def oneB (x : Int) : Int → Bool := fun y => if y = x then true else (fun _ => false) y
theorem oneB_0 {x : Int} (h : 3 ≤ x) : oneB x 0 = false := by unfold oneB; rw [if_neg (by omega)]
def pcap : Value → Nat
  | .func _ _ cs => pb (cs.getD 0 undef)
  | _ => 0
def ClkAllPost (cb : Nat) (w : World) (e : Ending) (w' : World) : Prop := ∃ B, e = .returned (.func (.func 77) #[] #[.pointer (some ⟨B, 0, none⟩)]) ∧ Blk w' B 53 #[.pointer (some ⟨cb, 0, none⟩)] ∧ w.heap.size ≤ B ∧ Ext w w'
def SnapPost (nx : Int) (l : List Int) (w : World) (e : Ending) (w' : World) : Prop := ∃ A c, e = .returned (.agg #[.int .i64 nx, .slice A l.length c]) ∧ w'.ownsRow w.heap.size 3 1 (.slice A l.length c) l.length (l.map (Value.int .i64)) ∧ Ext w w'
theorem snap_len (lo nx : Int) (K : List Int) : (liveL K (ringL lo nx)).length ≤ 124 := by
  refine Nat.le_trans (live_le K _) ?_
  rw [ring_len]; unfold stepN stepsF; omega
set_option maxRecDepth 100000 in
set_option maxHeartbeats 2000000 in
theorem call_any (cb : Nat) (w : World) :
    Calls Tryd.prog 46 #[.pointer (some ⟨cb, 0, none⟩)] w (ClkAllPost cb w) := by
  go_enter Tryd.func46, Tryd.ntmps46
  have hst0 := St.start w
  refine wp_seq (wp_region_Y [0, 0] [] [[0]] [] [.a 1, .k 2 (Go.Value.nilFunc)] (fun ix σ β X => match ix with | 0 => σ 1 = vp (pb (β 1)) ∧ X 0 = eB (pb (β 1)) 53 #[vp cb] | _ => True) [0] [0] [(1, 0, 2, 3)] hst0 ?_ ?_ ?_)
  · exact fun ix _ _ _ _ _ _ hs hb hx h => match ix, h with
    | 0, h => by dsimp only at h ⊢; rw [← hs 1 rfl, ← hb 1 rfl, ← hx 0 rfl]; exact h
    | _ + 1, _ => trivial
  · refine ⟨?_, trivial⟩
    · refine sv_any rfl rfl fun ρ β W X cx => ?_
      exact dv_box (cs := #[vp cb]) rfl (cx.ou 0) rfl rfl rfl (fun σ β' X' hs hb hv hx => ⟨hv, hx⟩)
  intro σ β X W1 hD hst1 fr hfr
  obtain ⟨B1_1, hu_B1_1⟩ : ∃ z, pb (β 1) = z := ⟨_, rfl⟩
  simp only [exq 0 ((dTn (hD 0 lq)).2), hu_B1_1] at hst1
  simp only [ed 1 ((dTn (hD 0 lq)).1), hu_B1_1] at hfr
  clear hD hu_B1_1; subst hfr; clear σ β X
  refine then_normal (wp_seq (wp_region_Z [0, 1] [] [.c 3 (.func (.func 77) #[] #[vp B1_1]), .k 2 (.func (.func 77) #[] #[vp B1_1])] [0] [0] [(2, 1, 1, 3), (0, 0, 1, 1)] hst1 ?_ fun W2 hst2 => ?_))
  · refine ⟨?_, trivial⟩
    · exact sv0 rfl rfl rfl rfl rfl (fun _ _ _ h => h) fun ρ β W X cx => by
        have fF1 : ρ (.tmp 1) = vp B1_1 := (cx.ou 1)
        simp [go_sem, Instr.makeFunc, fF1]
  refine then_normal (wp_ret ?_)
  refine bodyPost_ret (v := .func (.func 77) #[] #[vp B1_1]) (results_tmp Tryd.results46 rfl) rfl ?_
  exact ⟨_, rfl, hst2.blk 0 rfl, ((hst2.get 0 rfl).own _ (by simp [eB])).1.resolve_left (by simp), hst2.ext⟩
set_option maxRecDepth 100000 in
set_option maxHeartbeats 2000000 in
theorem csnap_any (cb : Nat) (lo nx : Int) (K : List Int) (w : World) (hb : Blk w cb 114 (clockL lo nx K).toArray) (hlo : onF lo = true) (hnx : onF nx = true) (hK : K.length = 128) :
    Calls Tryd.prog 20 #[.pointer (some ⟨cb, 0, none⟩)] w (SnapPost nx (liveL K (ringL lo nx)) w) := by
  have st0 := St.lent1 hb
  have hal := clk_arr lo nx K
  refine (callsIn_wide (n := 3)).1 (callsIn_of_wp_marks Tryd.func20 rfl trivial (wpIn_wide.2 ?_) rfl)
  simp only [Tryd.ntmps20, List.size_toArray, List.length_cons, List.length_nil, Nat.reduceAdd, Nat.reduceSub, Array.replicate_succ, Array.replicate_zero, List.push_toArray, List.append_toArray, List.nil_append, List.cons_append]
  have hst0 := st0
  refine wp_seq (wp_region_Y [0, 0] [] [[1], [2]] [] [.a 1, .a 2] (fun ix σ β X => match ix with | 0 => σ 1 = vp (pb (β 1)) ∧ X 1 = eB (pb (β 1)) 53 #[vp cb] | 1 => σ 2 = vp (pb (β 2)) ∧ X 2 = eB (pb (β 2)) 69 #[vi 0, .slice none 0 0] | _ => True) [0, 1, 2] [0, 1] [(1, 0, 2, 3)] hst0 ?_ ?_ ?_)
  · exact fun ix _ _ _ _ _ _ hs hb hx h => match ix, h with
    | 0, h => by dsimp only at h ⊢; rw [← hs 1 rfl, ← hb 1 rfl, ← hx 1 rfl]; exact h
    | 1, h => by dsimp only at h ⊢; rw [← hs 2 rfl, ← hb 2 rfl, ← hx 2 rfl]; exact h
    | _ + 2, _ => trivial
  · refine ⟨?_, ?_, trivial⟩
    · refine sv_any rfl rfl fun ρ β W X cx => ?_
      exact dv_box (cs := #[vp cb]) rfl (cx.ou 0) rfl rfl rfl (fun σ β' X' hs hb hv hx => ⟨hv, hx⟩)
    · refine sv_any rfl rfl fun ρ β W X cx => ?_
      exact dv_alloc (cs := #[vi 0, .slice none 0 0]) rfl (by kernel_rfl) rfl rfl (fun σ β' X' hs hb hv hx => ⟨hv, hx⟩)
  intro σ β X W1 hD hst1 fr hfr
  obtain ⟨B1_1, hu_B1_1⟩ : ∃ z, pb (β 1) = z := ⟨_, rfl⟩
  obtain ⟨B2_1, hu_B2_1⟩ : ∃ z, pb (β 2) = z := ⟨_, rfl⟩
  simp only [exq 1 ((dTn (hD 0 lq)).2), exq 2 ((dTn (hD 1 lq)).2), hu_B1_1, hu_B2_1] at hst1
  simp only [ed 1 ((dTn (hD 0 lq)).1), ed 2 ((dTn (hD 1 lq)).1), hu_B1_1, hu_B2_1] at hfr
  clear hD hu_B1_1 hu_B2_1; subst hfr; clear σ β X
  refine then_normal (wp_seq (wp_seq (wp_region_Z [0, 1] [[1]] [.c 5 (vp cb), .c 6 (.bool false)] [0, 1, 2] [0, 1] [(5, 0, 2, 7)] hst1 ?_ fun W2 hst2 => ?_)))
  · refine ⟨?_, ?_, trivial⟩
    · exact xs4 rfl id fun cx => run_load1 rfl (by kernel_rfl) (cx.ou 1) ((cx.bi 1 rfl).cell 0)
    · exact sv0 rfl rfl rfl rfl rfl (fun _ _ _ h => h) fun ρ β W X cx => by
        have fF5 : ρ (.tmp 5) = vp cb := (cx.an 0)
        simp [go_sem, cx.sees.const, fF5]
  refine then_normal (wp_cond_false (show Act.eval _ _ = .bool false from rfl) (wp_skip (then_normal (wp_seq (wp_region_Y [0, 1, 3, 7, 15, 0, 63] [[1], [], [], [0], [], [], [3]] [[], [], [], [], [], [3], [4]] [[], [], [], [], [], [], [3]] [.c 8 (vp cb), .k 9 (vp cb), .k 10 (.pointer (some ⟨cb, 1, none⟩)), .c 11 (vi nx), .k 12 (.agg #[vi nx, .slice none 0 0]), .a 3, .n] (fun ix σ β X => match ix with | 0 => True | 1 => True | 2 => True | 3 => True | 4 => True | 5 => σ 3 = vp (pb (β 3)) ∧ X 3 = eB (pb (β 3)) 69 #[vi 0, .slice none 0 0] | 6 => X 4 = eB (pb (β 3)) 69 #[vi nx, .slice none 0 0] | _ => True) [0, 1, 2, 4] [0, 3, 5, 6] [(3, 5, 1, 4), (4, 0, 5, 9)] hst2 ?_ ?_ ?_)))))
  · exact fun ix _ _ _ _ _ _ hs hb hx h => match ix, h with
    | 5, h => by dsimp only at h ⊢; rw [← hs 3 rfl, ← hb 3 rfl, ← hx 3 rfl]; exact h
    | 6, h => by dsimp only at h ⊢; rw [← hb 3 rfl, ← hx 4 rfl]; exact h
    | 0, _ | 1, _ | 2, _ | 3, _ | 4, _ | _ + 7, _ => trivial
  · refine ⟨?_, ?_, ?_, ?_, trivial⟩
    · exact xs4 rfl id fun cx => run_load1 rfl (by kernel_rfl) (cx.ou 1) ((cx.bi 1 rfl).cell 0)
    · exact xs4 rfl id fun cx => run_load1 rfl (by kernel_rfl) (cx.an 2) (((cx.bi 0 rfl).cell 1).trans ((List.getElem?_toArray ..).trans rfl))
    · refine sv_any rfl rfl fun ρ β W X cx => ?_
      exact dv_alloc (cs := #[vi 0, .slice none 0 0]) rfl (by kernel_rfl) rfl rfl (fun σ β' X' hs hb hv hx => ⟨hv, hx⟩)
    · refine sv_any rfl rfl fun ρ β W X cx => ?_
      exact dv_store (n := 2) rfl (dTn (cx.an 5)).1 (cx.an 4) (by kernel_rfl) (by kernel_rfl) (by kernel_rfl) cx (dTn (cx.an 5)).2 rfl (nle rfl) (by kernel_rfl) rfl rfl rfl (fun σ β' X' hs hb hx => by rw [hb 3]; exact hx)
  intro σ β X W3 hD hst3 fr hfr
  obtain ⟨B3_3, hu_B3_3⟩ : ∃ z, pb (β 3) = z := ⟨_, rfl⟩
  simp only [exq 4 ((dTn (hD 6 lq))), hu_B3_3] at hst3
  simp only [ed 3 ((dTn (hD 5 lq)).1), hu_B3_3] at hfr
  clear hD hu_B3_3; subst hfr; clear σ β X
  refine then_normal (wp_seq (wp_seq (wp_region_Y [0, 1] [[1]] [[], [4]] [] [.c 13 (vp cb), .a 14] (fun ix σ β X => match ix with | 0 => True | 1 => σ 14 = .func (.func 77) #[] #[vp (pcap (β 14))] ∧ X 4 = eB (pcap (β 14)) 53 #[vp cb] | _ => True) [0, 1, 2, 3, 4] [0, 1] [(13, 0, 2, 15)] hst3 ?_ ?_ ?_)))
  · exact fun ix _ _ _ _ _ _ hs hb hx h => match ix, h with
    | 1, h => by dsimp only at h ⊢; rw [← hs 14 rfl, ← hb 14 rfl, ← hx 4 rfl]; exact h
    | 0, _ | _ + 2, _ => trivial
  · refine ⟨?_, ?_, trivial⟩
    · exact xs4 rfl id fun cx => run_load1 rfl (by kernel_rfl) (cx.ou 1) ((cx.bi 1 rfl).cell 0)
    · refine sv_any rfl rfl fun ρ β W X cx => ?_
      refine DoesU.call (run_callF (args := #[vp cb]) rfl cx.sees rfl (by kernel_rfl) (map1 (cx.an 0))) ?_
      refine (call_any cb _).mono ?_
      rintro e W1 ⟨B4, rfl, hb4, hw4, hx⟩
      refine ⟨_, rfl, post_call [eB B4 53 #[vp cb]] rfl rfl hx (one_new ⟨hb4, eB_loc _ _ _, fun k hk => by simp [eB] at hk; subst hk; exact ⟨hw4, hb4.lt⟩⟩) (List.pairwise_singleton _ _) (fun σ β' X' hs hb hv hN => ?_)⟩
      have hv1 := (hv 14 rfl).1; have hv2 := (hv 14 rfl).2
      exact ⟨hv1.trans (by rw [hv2]; rfl), (by rw [hv2]; exact (List.cons.inj hN).1)⟩
  intro σ β X W4 hD hst4 fr hfr
  obtain ⟨B14_4, hu_B14_4⟩ : ∃ z, pcap (β 14) = z := ⟨_, rfl⟩
  simp only [exq 4 ((dTn (hD 1 lq)).2), hu_B14_4] at hst4
  simp only [ed 14 ((dTn (hD 1 lq)).1), hu_B14_4] at hfr
  clear hD hu_B14_4; subst hfr; clear σ β X
  refine then_normal (wp_block ?_)
  have hn5 := St.nilrow hst4 3
  simp only [List.cons_append, List.nil_append] at hn5
  have hp7 := hn5.pick [0, 4, 1, 2, 3, 5] (by decide) rfl
  refine wp_rangeSt [cb, B14_4] (α := RX) (XS := ringL lo nx) (N := stepN lo nx) (encs := fun xx => #[vi xx.1]) (L0 := [eB cb 114 (clockL lo nx K).toArray, eB B14_4 53 #[vp cb], eB B1_1 53 #[vp cb], eB B2_1 69 #[vi 0, .slice none 0 0], eB B3_3 69 #[vi nx, .slice none 0 0], eO 3 1 (.slice none 0 0) 0 (([]).map (Value.int .i64))]) hp7 rfl (enters_of Tryd.func77 (by kernel_rfl) rfl) (lt_cons (hp7.blk 0 rfl).lt (lt_cons (hp7.blk 1 rfl).lt (fun k hk => by cases hk))) (all_stops _ _ _ lo nx K _ hlo hnx (by simp) (by simp) (hp7.blk 1 rfl) (hp7.blk 0 rfl)) (fun _ => rfl) (fun pre L => ∃ LA : Option Addr, ∃ LC : Nat, ∃ zs : List Int, ∃ n : Nat, zs = liveL K pre ∧ n = zs.length ∧ L = [eB cb 114 (clockL lo nx K).toArray, eB B14_4 53 #[vp cb], eB B1_1 53 #[vp cb], eB B2_1 69 #[vi 0, .slice none 0 0], eB B3_3 69 #[vi nx, .slice LA n LC], eO 3 1 (.slice LA n LC) n (zs.map (Value.int .i64))]) ?_ ?_ (fun xx => ⟨#[vp cb, vp B1_1, vp B2_1, vp B3_3, vi xx.1, vp cb, .bool false, undef, vp cb, vp cb, .pointer (some ⟨cb, 1, none⟩), vi nx, .agg #[vi nx, .slice none 0 0], vp cb, .func (.func 77) #[] #[vp B14_4], vi xx.1, undef, undef, undef, undef, undef, undef, undef, undef, undef, undef], []⟩) ?_ ?_ ?_
  · rintro pre L ⟨LA, LC, zs, n, hz, hn, rfl⟩; exact (CellsB.cons (eB_cells _ _ _) (CellsB.cons (eB_cells _ _ _) (CellsB.cons (eB_cells _ _ _) (CellsB.cons (eB_cells _ _ _) (CellsB.cons (eB_cells _ _ _) (CellsB.cons (eO_cells _ _ _ _ _) CellsB.nil))))))
  · exact ⟨none, 0, [], 0, rfl, rfl, rfl⟩
  · intro l x W K hK
    exact rnd_assign rfl rfl rfl hK (by kernel_rfl)
  · rintro rl pre xx W6 L6 ⟨LA, LC, zs, n, hz, hn, rfl⟩ hlen6 hup6 hst6
    have hxx := onF_iff.1 xx.2
    have hn124 : n ≤ 124 := by rw [hn, hz]; refine Nat.le_trans (live_le K pre) ?_; have h_ : stepN lo nx ≤ 124 := (by unfold stepN stepsF; omega); omega
    refine wpIn_block (wpIn_seq (wpIn_region_Z [0, 0, 3] [[2], [], [0]] [.c 16 (vp cb), .k 17 (vi xx.1), .c 18 (.bool (liveF K xx.1))] [0, 1, 2, 3, 4, 5] [0, 2] [(16, 0, 3, 19)] hst6 ?_ fun W8 hst8 => ?_))
    · refine ⟨?_, ?_, trivial⟩
      · exact xs4 rfl id fun cx => run_load1 rfl (by kernel_rfl) (cx.ou 1) ((cx.bi 2 rfl).cell 0)
      · exact xsc rfl id rfl rfl fun cx => ⟨_, clive_any _ lo nx K xx.1 _ (cx.bi 0 rfl) hK (by omega), (map2 (cx.an 0) (cx.an 1))⟩
    refine then_normal ?_
    rcases Bool.eq_false_or_eq_true (liveF K xx.1) with hs9 | hs9
    · skip
      refine wpIn_cond_true (show Act.eval _ _ = .bool true from (congrArg Value.bool hs9)) (wpIn_region_Y [0, 1, 0, 4, 15, 31, 63] [[], [4], [], [], [6, 5], [], [4]] [[], [], [], [6], [7], [], [8]] [[], [], [], [], [5], [], [4]] [.k 19 (.pointer (some ⟨B3_3, 1, none⟩)), .c 20 (.slice LA n LC), .k 21 (vi xx.1), .a 22, .a 23, .k 24 (.pointer (some ⟨B3_3, 1, none⟩)), .n] (fun ix σ β X => match ix with | 0 => True | 1 => True | 2 => True | 3 => σ 22 = .slice (sA (β 22)) 1 1 ∧ X 6 = eO 3 1 (.slice (sA (β 22)) 1 1) 1 ([vi xx.1]) | 4 => σ 23 = .slice (sA (β 23)) (n + 1) (sC (β 23)) ∧ X 7 = eO 3 1 (.slice (sA (β 23)) (n + 1) (sC (β 23))) (n + 1) ((zs ++ [xx.1]).map (Value.int .i64)) | 5 => True | 6 => X 8 = eB B3_3 69 #[vi nx, .slice (sA (β 23)) (n + 1) (sC (β 23))] | _ => True) [0, 1, 2, 3, 6, 7, 8] [1, 3, 4, 6] [(19, 0, 6, 25)] hst8 ?_ ?_ ?_)
      · exact fun ix _ _ _ _ _ _ hs hb hx h => match ix, h with
        | 3, h => by dsimp only at h ⊢; rw [← hs 22 rfl, ← hb 22 rfl, ← hx 6 rfl]; exact h
        | 4, h => by dsimp only at h ⊢; rw [← hs 23 rfl, ← hb 23 rfl, ← hx 7 rfl]; exact h
        | 6, h => by dsimp only at h ⊢; rw [← hb 23 rfl, ← hx 8 rfl]; exact h
        | 0, _ | 1, _ | 2, _ | 5, _ | _ + 7, _ => trivial
      · refine ⟨?_, ?_, ?_, ?_, trivial⟩
        · exact xs4 rfl id fun cx => run_load1 rfl (by kernel_rfl) (cx.an 0) ((cx.bi 4 rfl).cell 1)
        · refine sv_any rfl rfl fun ρ β W X cx => ?_
          have fF21 : ρ (.tmp 21) = vi xx.1 := (cx.an 2)
          exact dv_lit (e := 3) (xs := [vi xx.1]) rfl (by simp [go_sem, fF21]) rfl (by decide) rfl rfl (fun σ β' X' hs hb hv hx => ⟨hv, hx⟩)
        · refine sv_any rfl rfl fun ρ β W X cx => ?_
          obtain ⟨i0, hi0, hz0, hz1, hz2⟩ := info_parts Tryd.infoInt
          refine dv_append (n := n) (m := 1) (nm := n + 1) (xs := zs.map (Value.int .i64)) (news := [vi xx.1]) (xs' := (zs ++ [xx.1]).map (Value.int .i64)) rfl (ty := 22) rfl (by kernel_rfl) hi0 hz0 hz1 hz2 rfl (cx.an 1) cx (cx.init 5 _ rfl) rfl (dTn (cx.an 3)).1 (by first | (simp; done) | (simp; omega)) (At.of_own (cx.row (dTn (cx.an 3)).2 rfl)) (by simp [Value.oneCell']) (by simp only [maxLen]; omega) (by omega) rfl rfl rfl (by omega) (by simp) (fun σ β' X' hs hb hv hx => ?_)
          exact ⟨hv, hx⟩
        · refine sv_any rfl rfl fun ρ β W X cx => ?_
          exact dv_store (n := 1) rfl (cx.an 5) (dTn (cx.an 4)).1 (by kernel_rfl) (by kernel_rfl) (by kernel_rfl) cx (cx.init 4 _ rfl) rfl (nle rfl) (by kernel_rfl) rfl rfl rfl (fun σ β' X' hs hb hx => by rw [hb 23]; exact hx)
      intro σ β X W10 hD hst10 fr hfr
      obtain ⟨A22_10, hu_A22_10⟩ : ∃ z, sA (β 22) = z := ⟨_, rfl⟩
      obtain ⟨A23_10, hu_A23_10⟩ : ∃ z, sA (β 23) = z := ⟨_, rfl⟩
      obtain ⟨c23_10, hu_c23_10⟩ : ∃ z, sC (β 23) = z := ⟨_, rfl⟩
      simp only [exq 6 ((dTn (hD 3 lq)).2), exq 7 ((dTn (hD 4 lq)).2), exq 8 ((dTn (hD 6 lq))), hu_A22_10, hu_A23_10, hu_c23_10] at hst10
      simp only [ed 22 ((dTn (hD 3 lq)).1), ed 23 ((dTn (hD 4 lq)).1), hu_A22_10, hu_A23_10, hu_c23_10] at hfr
      clear hD hu_A22_10 hu_A23_10 hu_c23_10; subst hfr; clear σ β X
      refine blk_normal ?_
      have hp11 := hst10.pick [0, 1, 2, 3, 6, 5] (by decide) rfl
      exact ⟨rfl, (KpR.cons (hst6.blk 0 rfl) (hp11.blk 0 rfl) (KpR.cons (hst6.blk 1 rfl) (hp11.blk 1 rfl) KpR.nil)), _, ⟨A23_10, c23_10, (zs ++ [xx.1]), (n + 1), by rw [hz, live_hit hs9], by rw [List.length_append, hn]; rfl, rfl⟩, hp11⟩
    refine wpIn_cond_false (show Act.eval _ _ = .bool false from (congrArg Value.bool hs9)) (wpIn_skip (blk_normal ?_))
    have hp12 := hst8.pick [0, 1, 2, 3, 4, 5] (by decide) rfl
    exact ⟨rfl, (KpR.cons (hst6.blk 0 rfl) (hp12.blk 0 rfl) (KpR.cons (hst6.blk 1 rfl) (hp12.blk 1 rfl) KpR.nil)), _, ⟨LA, LC, zs, n, by rw [live_miss hs9]; exact hz, hn, rfl⟩, hp12⟩
  rintro D6 W6d L6 ⟨LA, LC, zs, n, hz, hn, rfl⟩ hst6d
  simp only [List.cons_append, List.nil_append] at hst6d
  refine blk_normal (then_normal (wp_seq (wp_region_Y [0, 1] [[4], [3]] [[], [7]] [[], [3]] [.c 25 (.agg #[vi nx, .slice LA n LC]), .n] (fun ix σ β X => match ix with | 0 => True | 1 => X 7 = eB B2_1 69 #[vi nx, .slice LA n LC] | _ => True) [0, 1, 2, 4, 5, 6, 7] [0, 1] [(25, 0, 1, 26)] hst6d ?_ ?_ ?_)))
  · exact fun ix _ _ _ _ _ _ hs hb hx h => match ix, h with
    | 1, h => by dsimp only at h ⊢; rw [← hx 7 rfl]; exact h
    | 0, _ | _ + 2, _ => trivial
  · refine ⟨?_, ?_, trivial⟩
    · exact xs4 rfl id fun cx => run_loadB (n := 2) rfl (by kernel_rfl) (by kernel_rfl) (cx.ou 3) (cx.bi 4 rfl) (nle rfl) rfl
    · refine sv_any rfl rfl fun ρ β W X cx => ?_
      exact dv_store (n := 2) rfl (cx.ou 2) (cx.an 0) (by kernel_rfl) (by kernel_rfl) (by kernel_rfl) cx (cx.init 3 _ rfl) rfl (nle rfl) (by kernel_rfl) rfl rfl rfl (fun σ β' X' hs hb hx => hx)
  intro σ β X W13 hD hst13 fr hfr
  simp only [exq 7 ((dTn (hD 1 lq)))] at hst13
  clear hD; subst hfr; clear σ β X
  refine then_normal (wp_ret ?_)
  refine bpm_take (L := [eB cb 114 (clockL lo nx K).toArray, eB B14_4 53 #[vp cb], eB B1_1 53 #[vp cb], eB B3_3 69 #[vi nx, .slice LA n LC], eO 3 1 (.slice LA n LC) n (zs.map (Value.int .i64)), eB B2_1 69 #[vi nx, .slice LA n LC]]) (hst13.pick [0, 1, 2, 3, 4, 6, 5] (by decide) rfl) fun Wt14 ht14 => ?_
  refine ⟨.agg #[vi nx, .slice LA n LC], (results_cell (n := 2) Tryd.results20 rfl (by kernel_rfl) (by kernel_rfl) (ht14.blk 5 rfl) rfl), ?_⟩
  subst hz; subst hn; exact ⟨_, _, rfl, ht14.own1 (i := 0) (j := 4) rfl rfl (by decide), St.still ht14 hb⟩
set_option maxRecDepth 100000 in
set_option maxHeartbeats 2000000 in
theorem cbelow_any (cb : Nat) (lo nx : Int) (K : List Int) (x : Int) (w : World) (hb : Blk w cb 114 (clockL lo nx K).toArray) (hlo : onF lo = true) (hnx : onF nx = true) (hK : K.length = 128) (hkn : knowsF lo nx x = true) :
    Calls Tryd.prog 49 #[.pointer (some ⟨cb, 0, none⟩), .int .i64 x] w (Ret (.slice none 0 0) w) := by
  have st0 := St.lent1 hb
  have hal := clk_arr lo nx K
  have hx2 := onF_iff.1 (knows_on hkn)
  refine (callsIn_wide (n := 3)).1 (callsIn_of_wp_marks Tryd.func49 rfl trivial (wpIn_wide.2 ?_) rfl)
  simp only [Tryd.ntmps49, List.size_toArray, List.length_cons, List.length_nil, Nat.reduceAdd, Nat.reduceSub, Array.replicate_succ, Array.replicate_zero, List.push_toArray, List.append_toArray, List.nil_append, List.cons_append]
  have hst0 := st0
  refine wp_seq (wp_region_Y [0, 0, 0] [] [[1], [2]] [] [.a 2, .a 3, .k 4 (.slice none 0 0)] (fun ix σ β X => match ix with | 0 => σ 2 = vp (pb (β 2)) ∧ X 1 = eB (pb (β 2)) 53 #[vp cb] | 1 => σ 3 = vp (pb (β 3)) ∧ X 2 = eB (pb (β 3)) 3 #[vi x] | _ => True) [0, 1, 2] [0, 1] [(2, 0, 3, 5)] hst0 ?_ ?_ ?_)
  · exact fun ix _ _ _ _ _ _ hs hb hx h => match ix, h with
    | 0, h => by dsimp only at h ⊢; rw [← hs 2 rfl, ← hb 2 rfl, ← hx 1 rfl]; exact h
    | 1, h => by dsimp only at h ⊢; rw [← hs 3 rfl, ← hb 3 rfl, ← hx 2 rfl]; exact h
    | _ + 2, _ => trivial
  · refine ⟨?_, ?_, trivial⟩
    · refine sv_any rfl rfl fun ρ β W X cx => ?_
      exact dv_box (cs := #[vp cb]) rfl (cx.ou 0) rfl rfl rfl (fun σ β' X' hs hb hv hx => ⟨hv, hx⟩)
    · refine sv_any rfl rfl fun ρ β W X cx => ?_
      exact dv_box (cs := #[vi x]) rfl (cx.ou 1) rfl rfl rfl (fun σ β' X' hs hb hv hx => ⟨hv, hx⟩)
  intro σ β X W1 hD hst1 fr hfr
  obtain ⟨B2_1, hu_B2_1⟩ : ∃ z, pb (β 2) = z := ⟨_, rfl⟩
  obtain ⟨B3_1, hu_B3_1⟩ : ∃ z, pb (β 3) = z := ⟨_, rfl⟩
  simp only [exq 1 ((dTn (hD 0 lq)).2), exq 2 ((dTn (hD 1 lq)).2), hu_B2_1, hu_B3_1] at hst1
  simp only [ed 2 ((dTn (hD 0 lq)).1), ed 3 ((dTn (hD 1 lq)).1), hu_B2_1, hu_B3_1] at hfr
  clear hD hu_B2_1 hu_B3_1; subst hfr; clear σ β X
  refine then_normal (wp_seq (wp_seq ?_))
  have hd3 : (knowsF lo nx x) = true := hkn
  refine wp_region_Z [0, 0, 3, 7] [[1], [2], [0]] [.c 8 (vp cb), .c 9 (vi x), .c 10 (.bool true), .k 11 (.bool false)] [0, 1, 2] [0, 1, 2] [(8, 0, 4, 12)] hst1 ?_ fun W2 hst2 => ?_
  · refine ⟨?_, ?_, ?_, trivial⟩
    · exact xs4 rfl id fun cx => run_load1 rfl (by kernel_rfl) (cx.ou 2) ((cx.bi 1 rfl).cell 0)
    · exact xs4 rfl id fun cx => run_load1 rfl (by kernel_rfl) (cx.ou 3) ((cx.bi 2 rfl).cell 0)
    · exact sv_call rfl rfl rfl rfl rfl (fun _ _ _ h => h.trans (congrArg Value.bool hd3)) fun ρ β W X cx => ⟨_, _, run_callF (args := #[vp cb, vi x]) rfl cx.sees rfl (by kernel_rfl) (map2 (cx.an 0) (cx.an 1)), cknows_any _ lo nx K x _ (cx.bi 0 rfl) hlo hnx⟩
  refine then_normal (wp_cond_false (show Act.eval _ _ = .bool false from rfl) (wp_skip (then_normal (wp_seq (wp_region_Y [0, 0, 3, 7, 0, 31] [[], [2], [3], [], [], [5]] [[3], [], [4], [], [5], [6]] [[], [], [3], [], [], [5]] [.a 12, .c 13 (vi x), .n, .a 14, .a 5, .n] (fun ix σ β X => match ix with | 0 => σ 12 = .map (some (pbm (β 12))) ∧ X 3 = eMb Tryd.prog 3 4 (pbm (β 12)) 0 (fun _ => false) | 1 => True | 2 => X 4 = eMb Tryd.prog 3 4 (pbm (β 12)) 1 (oneB x) | 3 => σ 14 = .map (some (pbm (β 12))) | 4 => σ 5 = vp (pb (β 5)) ∧ X 5 = eB (pb (β 5)) 126 #[.map none] | 5 => X 6 = eB (pb (β 5)) 126 #[.map (some (pbm (β 12)))] | _ => True) [0, 1, 2, 4, 6] [0, 1, 2, 3, 4, 5] [(5, 4, 1, 6), (6, 0, 4, 9)] hst2 ?_ ?_ ?_)))))
  · exact fun ix _ _ _ _ _ _ hs hb hx h => match ix, h with
    | 0, h => by dsimp only at h ⊢; rw [← hs 12 rfl, ← hb 12 rfl, ← hx 3 rfl]; exact h
    | 2, h => by dsimp only at h ⊢; rw [← hb 12 rfl, ← hx 4 rfl]; exact h
    | 3, h => by dsimp only at h ⊢; rw [← hs 14 rfl, ← hb 12 rfl]; exact h
    | 4, h => by dsimp only at h ⊢; rw [← hs 5 rfl, ← hb 5 rfl, ← hx 5 rfl]; exact h
    | 5, h => by dsimp only at h ⊢; rw [← hb 5 rfl, ← hb 12 rfl, ← hx 6 rfl]; exact h
    | 1, _ | _ + 6, _ => trivial
  · refine ⟨?_, ?_, ?_, ?_, ?_, ?_, trivial⟩
    · refine sv_any rfl rfl fun ρ β W X cx => ?_
      exact dv_makeMb rfl rfl rfl rfl (fun σ β' X' hs hb hv hx => ⟨hv, hx⟩)
    · exact xs4 rfl id fun cx => run_load1 rfl (by kernel_rfl) (cx.ou 3) ((cx.bi 2 rfl).cell 0)
    · refine sv_any rfl rfl fun ρ β W X cx => ?_
      exact dv_setMb (.inr rfl) (dTn (cx.an 0)).1 (cx.an 1) (cx.co _) cx (dTn (cx.an 0)).2 rfl (by omega) (by omega) rfl rfl rfl (fun σ β' X' hs hb hx => by rw [hb 12]; exact hx)
    · exact sv rfl rfl rfl rfl rfl _ (fun _ _ _ h => h) (fun β β' h => by rw [h 12 (by decide)]) fun ρ β W X cx => run_move' rfl (dTn (cx.an 0)).1
    · refine sv_any rfl rfl fun ρ β W X cx => ?_
      exact dv_alloc (cs := #[.map none]) rfl (by kernel_rfl) rfl rfl (fun σ β' X' hs hb hv hx => ⟨hv, hx⟩)
    · refine sv_any rfl rfl fun ρ β W X cx => ?_
      exact dv_store (n := 1) rfl (dTn (cx.an 4)).1 (dTn (cx.an 3)) (by kernel_rfl) (by kernel_rfl) (by kernel_rfl) cx (dTn (cx.an 4)).2 rfl (nle rfl) (by kernel_rfl) rfl rfl rfl (fun σ β' X' hs hb hx => by rw [hb 5, hb 12]; exact hx)
  intro σ β X W4 hD hst4 fr hfr
  obtain ⟨M12_4, hu_M12_4⟩ : ∃ z, pbm (β 12) = z := ⟨_, rfl⟩
  obtain ⟨B5_4, hu_B5_4⟩ : ∃ z, pb (β 5) = z := ⟨_, rfl⟩
  simp only [exq 4 ((dTn (hD 2 lq))), exq 6 ((dTn (hD 5 lq))), hu_M12_4, hu_B5_4] at hst4
  simp only [ed 12 ((dTn (hD 0 lq)).1), ed 14 ((dTn (hD 3 lq))), ed 5 ((dTn (hD 4 lq)).1), hu_M12_4, hu_B5_4] at hfr
  clear hD hu_M12_4 hu_B5_4; subst hfr; clear σ β X
  refine then_normal (wp_seq (wp_region_Y [0] [] [[5]] [] [.a 6] (fun ix σ β X => match ix with | 0 => σ 6 = vp (pb (β 6)) ∧ X 5 = eB (pb (β 6)) 22 #[.slice none 0 0] | _ => True) [0, 1, 2, 3, 4, 5] [0] [(6, 0, 1, 7)] hst4 ?_ ?_ ?_))
  · exact fun ix _ _ _ _ _ _ hs hb hx h => match ix, h with
    | 0, h => by dsimp only at h ⊢; rw [← hs 6 rfl, ← hb 6 rfl, ← hx 5 rfl]; exact h
    | _ + 1, _ => trivial
  · refine ⟨?_, trivial⟩
    · refine sv_any rfl rfl fun ρ β W X cx => ?_
      exact dv_alloc (cs := #[.slice none 0 0]) rfl (by kernel_rfl) rfl rfl (fun σ β' X' hs hb hv hx => ⟨hv, hx⟩)
  intro σ β X W5 hD hst5 fr hfr
  obtain ⟨B6_5, hu_B6_5⟩ : ∃ z, pb (β 6) = z := ⟨_, rfl⟩
  simp only [exq 5 ((dTn (hD 0 lq)).2), hu_B6_5] at hst5
  simp only [ed 6 ((dTn (hD 0 lq)).1), hu_B6_5] at hfr
  clear hD hu_B6_5; subst hfr; clear σ β X
  refine then_normal (wp_seq (wp_seq (wp_region_Y [0, 1] [[1]] [[], [6]] [] [.c 15 (vp cb), .a 16] (fun ix σ β X => match ix with | 0 => True | 1 => σ 16 = .func (.func 77) #[] #[vp (pcap (β 16))] ∧ X 6 = eB (pcap (β 16)) 53 #[vp cb] | _ => True) [0, 1, 2, 3, 4, 5, 6] [0, 1] [(15, 0, 2, 17)] hst5 ?_ ?_ ?_)))
  · exact fun ix _ _ _ _ _ _ hs hb hx h => match ix, h with
    | 1, h => by dsimp only at h ⊢; rw [← hs 16 rfl, ← hb 16 rfl, ← hx 6 rfl]; exact h
    | 0, _ | _ + 2, _ => trivial
  · refine ⟨?_, ?_, trivial⟩
    · exact xs4 rfl id fun cx => run_load1 rfl (by kernel_rfl) (cx.ou 2) ((cx.bi 1 rfl).cell 0)
    · refine sv_any rfl rfl fun ρ β W X cx => ?_
      refine DoesU.call (run_callF (args := #[vp cb]) rfl cx.sees rfl (by kernel_rfl) (map1 (cx.an 0))) ?_
      refine (call_any cb _).mono ?_
      rintro e W1 ⟨B4, rfl, hb4, hw4, hx⟩
      refine ⟨_, rfl, post_call [eB B4 53 #[vp cb]] rfl rfl hx (one_new ⟨hb4, eB_loc _ _ _, fun k hk => by simp [eB] at hk; subst hk; exact ⟨hw4, hb4.lt⟩⟩) (List.pairwise_singleton _ _) (fun σ β' X' hs hb hv hN => ?_)⟩
      have hv1 := (hv 16 rfl).1; have hv2 := (hv 16 rfl).2
      exact ⟨hv1.trans (by rw [hv2]; rfl), (by rw [hv2]; exact (List.cons.inj hN).1)⟩
  intro σ β X W6 hD hst6 fr hfr
  obtain ⟨B16_6, hu_B16_6⟩ : ∃ z, pcap (β 16) = z := ⟨_, rfl⟩
  simp only [exq 6 ((dTn (hD 1 lq)).2), hu_B16_6] at hst6
  simp only [ed 16 ((dTn (hD 1 lq)).1), hu_B16_6] at hfr
  clear hD hu_B16_6; subst hfr; clear σ β X
  refine then_normal (wp_block ?_)
  have hp8 := hst6.pick [0, 6, 1, 2, 4, 3, 5] (by decide) rfl
  refine wp_rangeSt [cb, B16_6] (α := RX) (XS := ringL lo nx) (N := stepN lo nx) (encs := fun xx => #[vi xx.1]) (L0 := [eB cb 114 (clockL lo nx K).toArray, eB B16_6 53 #[vp cb], eB B2_1 53 #[vp cb], eB B3_1 3 #[vi x], eB B5_4 126 #[.map (some M12_4)], eMb Tryd.prog 3 4 M12_4 1 (oneB x), eB B6_5 22 #[.slice none 0 0]]) hp8 rfl (enters_of Tryd.func77 (by kernel_rfl) rfl) (lt_cons (hp8.blk 0 rfl).lt (lt_cons (hp8.blk 1 rfl).lt (fun k hk => by cases hk))) (all_stops _ _ _ lo nx K _ hlo hnx (by simp) (by simp) (hp8.blk 1 rfl) (hp8.blk 0 rfl)) (fun _ => rfl) (fun pre L => True ∧ L = [eB cb 114 (clockL lo nx K).toArray, eB B16_6 53 #[vp cb], eB B2_1 53 #[vp cb], eB B3_1 3 #[vi x], eB B5_4 126 #[.map (some M12_4)], eMb Tryd.prog 3 4 M12_4 1 (oneB x), eB B6_5 22 #[.slice none 0 0]]) ?_ ?_ (fun xx => ⟨#[vp cb, vi x, vp B2_1, vp B3_1, .slice none 0 0, vp B5_4, vp B6_5, vi xx.1, vp cb, vi x, .bool true, .bool false, .map (some M12_4), vi x, .map (some M12_4), vp cb, .func (.func 77) #[] #[vp B16_6], vi xx.1, undef, undef, undef, undef, undef, undef, undef, undef, undef, undef, undef, undef, undef, undef, undef, undef, undef], []⟩) ?_ ?_ ?_
  · rintro pre L ⟨-, rfl⟩; exact (CellsB.cons (eB_cells _ _ _) (CellsB.cons (eB_cells _ _ _) (CellsB.cons (eB_cells _ _ _) (CellsB.cons (eB_cells _ _ _) (CellsB.cons (eB_cells _ _ _) (CellsB.consB (fun k hk => ((hp8.get 5 rfl).own k hk).2) (CellsB.cons (eB_cells _ _ _) CellsB.nil)))))))
  · exact ⟨trivial, rfl⟩
  · intro l x W K hK
    exact rnd_assign rfl rfl rfl hK (by kernel_rfl)
  · rintro rl pre xx W7 L7 ⟨-, rfl⟩ hlen7 hup7 hst7
    have hxx := onF_iff.1 xx.2
    refine wpIn_block (wpIn_seq ?_)
    have hd10 : ((xx.1 != x) && ((oneB x) 0)) = false := (by rw [oneB_0 hx2.1]; exact Bool.and_false _)
    refine wpIn_region_Z [0, 0, 3, 7, 15, 15, 15, 111, 255, 511] [[], [3], [], [], [4], [2], [], [0], [5]] [.k 18 (vi xx.1), .c 19 (vi x), .k 20 (.bool (xx.1 != x)), .k 21 (.bool (xx.1 != x)), .y 22 (xx.1 != x) (.map (some M12_4)), .y 23 (xx.1 != x) (vp cb), .z 24 (xx.1 != x) (vi xx.1), .y 25 (xx.1 != x) (vi 0), .y 26 (xx.1 != x) (.bool ((oneB x) 0)), tAk 27 (xx.1 != x) ((oneB x) 0) false hd10] [0, 1, 2, 3, 4, 5, 6] [1, 4, 5, 7, 8] [(18, 0, 10, 28)] hst7 ?_ fun W9 hst9 => ?_
    · refine ⟨?_, ?_, ?_, ?_, ?_, trivial⟩
      · exact xs4 rfl id fun cx => run_load1 rfl (by kernel_rfl) (cx.ou 3) ((cx.bi 3 rfl).cell 0)
      · exact m2 rfl (fun _ _ _ h => h) (fun cx => (cx.an 3)) fun cx hq => run_load1 rfl (by kernel_rfl) (cx.ou 5) ((cx.bi 4 rfl).cell 0)
      · exact m2 rfl (fun _ _ _ h => h) (fun cx => (cx.an 3)) fun cx hq => run_load1 rfl (by kernel_rfl) (cx.ou 2) ((cx.bi 2 rfl).cell 0)
      · exact m3 rfl (fun _ _ _ h => h) (fun cx => (cx.an 3)) fun cx hq => ⟨_, _, run_callF (args := #[vp cb, vi xx.1]) rfl cx.sees rfl (by kernel_rfl) (map2 (mbv (cx.an 5) hq) (mbv (cx.an 6) hq)), cabove_any _ lo nx K xx.1 _ (cx.bi 0 rfl) hlo hnx hK (by omega)⟩
      · exact m2 rfl (fun _ _ _ h => h) (fun cx => (cx.an 3)) fun cx hq => run_lookMb rfl (mbv (cx.an 4) hq) (mbv (cx.an 7) hq) (CtxV.mb cx (cx.init 5 _ rfl) rfl) (h0 := fun w => by rfl) (hx := by omega)
    refine then_normal (wpIn_cond_false (show Act.eval _ _ = .bool false from rfl) (wpIn_skip (blk_normal ?_)))
    have hp11 := hst9.pick [0, 1, 2, 3, 4, 5, 6] (by decide) rfl
    exact ⟨rfl, (KpR.cons (hst7.blk 0 rfl) (hp11.blk 0 rfl) (KpR.cons (hst7.blk 1 rfl) (hp11.blk 1 rfl) KpR.nil)), _, ⟨trivial, rfl⟩, hp11⟩
  rintro D7 W7d L7 ⟨-, rfl⟩ hst7d
  simp only [List.cons_append, List.nil_append] at hst7d
  refine blk_normal (then_normal (wp_seq (wp_region_Z [0, 1] [[6]] [.c 34 (.slice none 0 0), .k 4 (.slice none 0 0)] [0, 1, 2, 3, 4, 5, 6, 7] [0] [(4, 1, 1, 5), (29, 0, 1, 30)] hst7d ?_ fun W12 hst12 => ?_)))
  · refine ⟨?_, trivial⟩
    · exact xs4 rfl id fun cx => run_load1 rfl (by kernel_rfl) (cx.ou 6) ((cx.bi 6 rfl).cell 0)
  refine then_normal (wp_ret ?_)
  refine bpm_take (L := [eB cb 114 (clockL lo nx K).toArray, eB B16_6 53 #[vp cb], eB B2_1 53 #[vp cb], eB B3_1 3 #[vi x], eB B5_4 126 #[.map (some M12_4)], eMb Tryd.prog 3 4 M12_4 1 (oneB x), eB B6_5 22 #[.slice none 0 0]]) (hst12.pick [0, 1, 2, 3, 4, 5, 6, 7] (by decide) rfl) fun Wt13 ht13 => ?_
  refine ⟨.slice none 0 0, (results_tmp Tryd.results49 rfl), ?_⟩
  exact Ret.of rfl (St.still ht13 hb)
end
end Go.Proofs.YtjnplglnnamfdaaDoor
namespace Go.Proofs.YtjnplglnnamfdaaDoor
section
open Go.RowKit
set_option linter.unusedVariables false
set_option linter.unusedSimpArgs false
def stK (lo : Int) (K : List Int) (k : Nat) : Int := K.getD (rAt lo k).toNat 0
theorem rAt_bd (lo : Int) (k : Nat) : 3 ≤ rAt lo k ∧ rAt lo k < 128 := by unfold rAt; omega
theorem rAt_ne {lo : Int} {j k : Nat} (h : j < k) (hk : k < j + 125) : rAt lo j ≠ rAt lo k := by unfold rAt; omega
theorem rAt_toNat_ne {lo : Int} {j k : Nat} (h : rAt lo j ≠ rAt lo k) : (rAt lo j).toNat ≠ (rAt lo k).toNat := by
  have := rAt_bd lo j; have := rAt_bd lo k; omega
theorem getD_set_self {K : List Int} {i : Nat} {v : Int} (h : i < K.length) : (K.set i v).getD i 0 = v := by simp [h]
theorem getD_set_other {K : List Int} {i j : Nat} {v : Int} (h : i ≠ j) : (K.set i v).getD j 0 = K.getD j 0 := by
  rw [List.getD_eq_getElem?_getD, List.getD_eq_getElem?_getD, List.getElem?_set_ne h]
theorem stK_set {lo : Int} {K : List Int} {j k : Nat} {v : Int} (h : rAt lo j ≠ rAt lo k) : stK lo (K.set (rAt lo j).toNat v) k = stK lo K k := getD_set_other (rAt_toNat_ne h)
theorem stK_set_self {lo : Int} {K : List Int} {k : Nat} {v : Int} (hK : K.length = 128) : stK lo (K.set (rAt lo k).toNat v) k = v := getD_set_self (by have := rAt_bd lo k; omega)
theorem stepN_r {lo : Int} {m : Nat} (hlo : onF lo = true) (hm : m ≤ 60) : stepN lo (rAt lo m) = m := by
  have := onF_iff.1 hlo
  unfold stepN stepsF rAt; omega
theorem knows_r {lo : Int} {m k : Nat} (hlo : onF lo = true) (hm : m ≤ 60) (hk : k < m) : knowsF lo (rAt lo m) (rAt lo k) = true := by
  have := onF_iff.1 hlo
  unfold knowsF
  rw [rAt_on, Bool.true_and, decide_eq_true_eq]
  unfold stepsF rAt; omega
theorem state_r {lo : Int} {K : List Int} {m k : Nat} (hlo : onF lo = true) (hm : m ≤ 60) (hk : k < m) : stateF lo (rAt lo m) K (rAt lo k) = stK lo K k := by
  have := rAt_bd lo k
  unfold stateF
  rw [if_neg (by omega), if_pos (knows_r hlo hm hk)]; rfl
theorem before_r {lo : Int} {j k : Nat} (hlo : onF lo = true) (hj : j ≤ 60) (hk : k < 60) : beforeF (rAt lo k) (rAt lo j) = decide (k < j) := by
  have := onF_iff.1 hlo
  have hb := rAt_bd lo k
  unfold beforeF
  rw [if_neg (by omega), rAt_on, rAt_on, Bool.true_and, Bool.true_and]
  rw [Bool.eq_iff_iff, Bool.and_eq_true, decide_eq_true_eq, decide_eq_true_eq, decide_eq_true_eq]
  unfold stepsF rAt; omega
theorem live_r {lo : Int} {K : List Int} {m k : Nat} (hlo : onF lo = true) (hm : m ≤ 60) (hk : k < m) : rAt lo k ∈ liveL K (ringL lo (rAt lo m)) ↔ stK lo K k = 1 ∨ stK lo K k = 4 := by
  have e : liveF K (rAt lo k) = true ↔ stK lo K k = 1 ∨ stK lo K k = 4 := by
    unfold liveF stK; simp
  rw [← e]
  simp only [liveL, List.mem_map, List.mem_filter, ringL, stepN_r hlo hm, List.mem_range]
  constructor
  · rintro ⟨x, ⟨⟨j, hj, rfl⟩, h⟩, hx⟩
    rw [← hx]; exact h
  · intro h
    exact ⟨rX lo k, ⟨⟨k, hk, rfl⟩, h⟩, rfl⟩
end
end Go.Proofs.YtjnplglnnamfdaaDoor
namespace Go.Proofs.YtjnplglnnamfdaaDoor
section
open Go.RowKit
set_option linter.unusedVariables false
set_option linter.unusedSimpArgs false
/-- an inserted row: who inserted it, who deleted it, where it lies -/
abbrev Hld := Int × Int × Int × Int
abbrev SnD := Int × List Int
def snd0 : SnD := (0, [])
abbrev gW (m : Nat) (K : List Int) : Int → Int := stateF 3 (rAt 3 m) K
def visH (s : SnD) (g : Int → Int) (r : Hld) : Bool := visF s.1 s.2 [] g r.1 r.2.1
def wantL (s : SnD) (g : Int → Int) (R : List Hld) : List (Int × Int) := (R.filter (visH s g)).map fun r => r.2.2
structure SnOk (m : Nat) (K : List Int) (R : List Hld) (s : SnD) (w : List (Int × Int)) : Prop where
  hi : ∃ ms, ms ≤ m ∧ s.1 = rAt 3 ms
  run : ∀ j, j < m → stK 3 K j = 1 → (beforeF (rAt 3 j) s.1 && !s.2.contains (rAt 3 j)) = false
  want : w = wantL s (gW m K) R
def RowIn (m : Nat) (r : Hld) : Prop := (∃ j, j < m ∧ r.1 = rAt 3 j) ∧ (r.2.1 = 0 ∨ ∃ j, j < m ∧ r.2.1 = rAt 3 j)
theorem on3 : onF 3 = true := rfl
theorem rAt_ne0 (j : Nat) : (rAt 3 j != 0) = true := by have := rAt_bd 3 j; rw [bne_iff_ne]; omega
theorem end_r {m j : Nat} (hm : m ≤ 60) (hj : j < m) (hi : Int) (lv K : List Int) : endedF hi lv (gW m K) (rAt 3 j) = ((beforeF (rAt 3 j) hi && !lv.contains (rAt 3 j)) && stK 3 K j == 2) := by
  have hb := rAt_bd 3 j
  unfold endedF
  rw [if_neg (by omega), rAt_on, Bool.true_and, gW, state_r on3 hm hj]
theorem vis_nil (hi : Int) (lv : List Int) (g : Int → Int) (a b : Int) : visF hi lv [] g a b = (endedF hi lv g a && !(b != 0 && endedF hi lv g b)) := by
  simp [visF, didF, mineF]
theorem visH_congr {m m' : Nat} {K K' : List Int} {s : SnD} {r : Hld} (hm : m ≤ m') (hm' : m' ≤ 60) (hr : RowIn m r)
    (hs : ∀ j, j < m → ((beforeF (rAt 3 j) s.1 && !s.2.contains (rAt 3 j)) && stK 3 K j == 2) = ((beforeF (rAt 3 j) s.1 && !s.2.contains (rAt 3 j)) && stK 3 K' j == 2)) : visH s (gW m K) r = visH s (gW m' K') r := by
  obtain ⟨⟨j, hj, h1⟩, h2⟩ := hr
  rw [visH, visH, vis_nil, vis_nil, h1, end_r (by omega) hj, end_r hm' (by omega), hs j hj]
  rcases h2 with h2 | ⟨i, hi, h2⟩
  · rw [h2]; simp
  · rw [h2, end_r (by omega) hi, end_r hm' (by omega), hs i hi]
theorem SnOk.step {m m' : Nat} {K K' : List Int} {R : List Hld} {s : SnD} {w : List (Int × Int)} (h : SnOk m K R s w) (hm : m ≤ m') (hm' : m' ≤ 60) (hR : ∀ r ∈ R, RowIn m r)
    (hs : ∀ j, j < m → stK 3 K j = stK 3 K' j ∨ stK 3 K j = 1) (hn : ∀ j, j < m → stK 3 K' j = 1 → stK 3 K j = 1) : SnOk m' K' R s w := by
  obtain ⟨ms, hms, hhi⟩ := h.hi
  refine ⟨⟨ms, by omega, hhi⟩, fun j hj h1 => ?_, ?_⟩
  · rcases Nat.lt_or_ge j m with hjm | hjm
    · exact h.run j hjm (hn j hjm h1)
    · rw [hhi, before_r on3 (by omega) (by omega), decide_eq_false (by omega)]; rfl
  · rw [h.want, wantL, wantL]
    congr 1
    refine List.filter_congr fun r hr => ?_
    refine visH_congr hm hm' (hR r hr) fun j hj => ?_
    rcases hs j hj with e | e
    · rw [e]
    · rw [h.run j hj e]; rfl
theorem SnOk.add {m : Nat} {K : List Int} {R : List Hld} {s : SnD} {w : List (Int × Int)} (h : SnOk m K R s w) (hm : m ≤ 60) {j : Nat} (hj : j < m) (h1 : stK 3 K j = 1) (at_ : Int × Int) : SnOk m K (R ++ [(rAt 3 j, 0, at_)]) s w := by
  refine ⟨h.hi, h.run, ?_⟩
  have e : visH s (gW m K) (rAt 3 j, 0, at_) = false := by
    rw [visH, vis_nil, end_r hm hj, h1]; simp
  rw [wantL, List.filter_append, List.filter_cons_of_neg (by rw [e]; decide), List.filter_nil, List.append_nil]
  exact h.want
theorem filt_set {T U : Type} (p : T → Bool) (f : T → U) : ∀ (R : List T) (k : Nat) (r r' : T), R[k]? = some r → p r' = p r → f r' = f r → ((R.set k r').filter p).map f = (R.filter p).map f
  | [], k, r, r', h, _, _ => by simp at h
  | a :: R, 0, r, r', h, h1, h2 => by
    obtain rfl : a = r := by simpa using h
    rw [List.set_cons_zero, List.filter_cons, List.filter_cons, h1]
    split
    · rw [List.map_cons, List.map_cons, h2]
    · rfl
  | a :: R, k + 1, r, r', h, h1, h2 => by
    have ih := filt_set p f R k r r' (by simpa using h) h1 h2
    rw [List.set_cons_succ, List.filter_cons, List.filter_cons]
    split
    · rw [List.map_cons, List.map_cons, ih]
    · exact ih
/-- a row that nobody is deleting is deleted by a running transaction -/
theorem SnOk.del {m : Nat} {K : List Int} {R : List Hld} {s : SnD} {w : List (Int × Int)} (h : SnOk m K R s w) (hm : m ≤ 60) {j k : Nat} {a b : Int} {at_ : Int × Int} (hj : j < m) (h1 : stK 3 K j = 1) (hk : R[k]? = some (a, b, at_)) (hb : b = 0 ∨ ∃ i, i < m ∧ b = rAt 3 i ∧ stK 3 K i = 3) :
    SnOk m K (R.set k (a, rAt 3 j, at_)) s w := by
  refine ⟨h.hi, h.run, ?_⟩
  have hq : visH s (gW m K) (a, rAt 3 j, at_) = visH s (gW m K) (a, b, at_) := ?_
  · rw [wantL, filt_set (visH s (gW m K)) (fun r : Hld => r.2.2) R k (a, b, at_) (a, rAt 3 j, at_) hk hq rfl]
    exact h.want
  · rw [visH, visH, vis_nil, vis_nil]
    dsimp only
    rw [end_r hm hj, h1]
    rcases hb with e | ⟨i, hi, e, h3⟩
    · rw [e]; simp
    · rw [e, end_r hm hi, h3]; simp
theorem snok_new {m : Nat} {K : List Int} {R : List Hld} (hm : m ≤ 60) (hR : ∀ r ∈ R, RowIn m r) (hst : ∀ j, j < m → stK 3 K j = 1 ∨ stK 3 K j = 2 ∨ stK 3 K j = 3) :
    SnOk m K R (rAt 3 m, liveL K (ringL 3 (rAt 3 m))) ((R.filter fun r => (gW m K r.1 == 2) && ((r.2.1 == 0) || (gW m K r.2.1 != 2))).map fun r => r.2.2) := by
  have hc : ∀ j, j < m → ((beforeF (rAt 3 j) (rAt 3 m) && !(liveL K (ringL 3 (rAt 3 m))).contains (rAt 3 j)) && stK 3 K j == 2) = (stK 3 K j == 2) := fun j hj => by
    have hl := live_r (K := K) on3 hm hj
    rw [before_r on3 hm (by omega), decide_eq_true hj, Bool.true_and]
    rcases hst j hj with e | e | e
    · rw [e]; simp
    · have : (liveL K (ringL 3 (rAt 3 m))).contains (rAt 3 j) = false := by
        cases h : (liveL K (ringL 3 (rAt 3 m))).contains (rAt 3 j) with
        | false => rfl
        | true =>
          have := hl.1 (by simpa using h)
          omega
      rw [this]; simp
    · rw [e]; simp
  refine ⟨⟨m, Nat.le_refl _, rfl⟩, fun j hj h1 => ?_, ?_⟩
  · have hl := (live_r (K := K) on3 hm hj).2 (.inl h1)
    have : (liveL K (ringL 3 (rAt 3 m))).contains (rAt 3 j) = true := by simpa using hl
    dsimp only
    rw [this]; simp
  · rw [wantL]
    congr 1
    refine List.filter_congr fun r hr => ?_
    obtain ⟨⟨j, hj, h1⟩, h2⟩ := hR r hr
    have hg : ∀ i, i < m → gW m K (rAt 3 i) = stK 3 K i := fun i hi => state_r on3 hm hi
    rw [visH, vis_nil, h1, end_r hm hj, hc j hj, hg j hj]
    rcases h2 with h2 | ⟨i, hi, h2⟩
    · rw [h2]; simp
    · rw [h2, end_r hm hi, hc i hi, hg i hi]
      have h0 := rAt_ne0 i
      have h0' : (rAt 3 i == 0) = false := by simpa using h0
      rw [h0, h0', Bool.true_and, Bool.false_or]; rfl
def cntG (f : Int → Int → Bool) (G : List AG) : Nat := (G.map fun g => g.2.countP fun v => f v.1 v.2.1).sum
theorem cntG_set (f : Int → Int → Bool) : ∀ (G : List AG) (n : Nat) (g : AG), n < G.length → cntG f (G.set n g) + ((G.getD n ag0).2.countP fun v => f v.1 v.2.1) = cntG f G + (g.2.countP fun v => f v.1 v.2.1)
  | [], n, g, h => by simp at h
  | a :: G, 0, g, h => by simp [cntG]; omega
  | a :: G, n + 1, g, h => by
    have ih := cntG_set f G n g (by simpa using h)
    simp only [cntG, List.set_cons_succ, List.map_cons, List.sum_cons, List.getD_cons_succ] at ih ⊢
    omega
theorem cntP_set {T : Type} (p : T → Bool) : ∀ (R : List T) (k : Nat) (r r' : T), R[k]? = some r → (R.set k r').countP p + (if p r then 1 else 0) = R.countP p + (if p r' then 1 else 0)
  | [], k, r, r', h => by simp at h
  | a :: R, 0, r, r', h => by
    obtain rfl : a = r := by simpa using h
    rw [List.set_cons_zero, List.countP_cons, List.countP_cons]; omega
  | a :: R, k + 1, r, r', h => by
    have ih := cntP_set p R k r r' (by simpa using h)
    rw [List.set_cons_succ, List.countP_cons, List.countP_cons]; omega
theorem cntG_add (f : Int → Int → Bool) (G : List AG) (n : Nat) (lsn : Int) (v : VerD) : cntG f (addG G n lsn v) = cntG f G + (if f v.1 v.2.1 then 1 else 0) := by
  rw [addG]
  split
  · rename_i h
    have h1 := cntG_set f G n (lsn, (G.getD n ag0).2 ++ [v]) h
    rw [List.countP_append, List.countP_singleton] at h1
    omega
  · simp only [cntG, List.map_append, List.map_cons, List.map_nil, List.sum_append, List.sum_cons, List.sum_nil, List.countP_singleton]
    omega
theorem cntG_all {G : List AG} {c : Nat} (h : ∀ g ∈ G, c ≤ g.2.length) : G.length * c ≤ cntG (fun _ _ => true) G := by
  induction G with
  | nil => simp [cntG]
  | cons g G ih =>
    have h1 := ih fun x hx => h x (List.mem_cons_of_mem _ hx)
    have h2 := h g (List.mem_cons_self ..)
    have e : cntG (fun _ _ => true) (g :: G) = g.2.length + cntG (fun _ _ => true) G := by simp [cntG]
    rw [e, List.length_cons, Nat.add_mul, Nat.one_mul]; omega
structure AInv (m : Nat) (K who : List Int) (G : List AG) (R : List Hld) (S : List SnD) (Wn : List (List (Int × Int))) : Prop where
  kl : K.length = 128
  st : ∀ j, j < m → stK 3 K j = 1 ∨ stK 3 K j = 2 ∨ stK 3 K j = 3
  wl : who.length = 4
  wh : ∀ a, a < 4 → who.getD a 0 = 0 ∨ ∃ j, j < m ∧ who.getD a 0 = rAt 3 j ∧ stK 3 K j = 1
  dis : ∀ a b, a < 4 → b < 4 → a ≠ b → who.getD a 0 ≠ 0 → who.getD a 0 ≠ who.getD b 0
  ag : agOk G
  pp : G.length ≤ 4
  row : ∀ r ∈ R, RowIn m r ∧ ∃ (n k : Nat) (rs : List Val), r.2.2 = ((n : Int), (k : Int)) ∧ n < G.length ∧ 1 ≤ k ∧ agAt G n k = some (r.1, r.2.1, -1, 0, false, rs)
  nd : R.Pairwise fun a b => a.2.2 ≠ b.2.2
  cnt : ∀ f : Int → Int → Bool, cntG f G = R.countP fun r => f r.1 r.2.1
  sl : S.length = Wn.length
  sn : ∀ q, q < S.length → SnOk m K R (S.getD q snd0) (Wn.getD q [])
theorem ai_0 : AInv 0 (List.replicate 128 0) [0, 0, 0, 0] [] [] [] [] where
  kl := by simp
  st := fun j hj => by omega
  wl := rfl
  wh := fun a ha => .inl (by match a, ha with | 0, _ => rfl | 1, _ => rfl | 2, _ => rfl | 3, _ => rfl)
  dis := fun a b ha hb _ h => absurd (by match a, ha with | 0, _ => rfl | 1, _ => rfl | 2, _ => rfl | 3, _ => rfl) h
  ag := ⟨by simp, fun p hp => by
    have : p = pgi0 := (List.mem_replicate.1 (show p ∈ List.replicate 8 pgi0 from hp)).2
    subst this
    exact ⟨by decide, fun i hi => by cases hi⟩, fun g hg => by cases hg⟩
  pp := by simp
  row := fun r hr => by cases hr
  nd := List.Pairwise.nil
  cnt := fun f => rfl
  sl := rfl
  sn := fun q hq => by simp at hq
theorem who_set {who : List Int} {a b : Nat} {x : Int} (hl : who.length = 4) (ha : a < 4) : (who.set a x).getD b 0 = if a = b then x else who.getD b 0 := by
  rw [List.getD_eq_getElem?_getD, List.getElem?_set]
  split
  · rename_i e
    subst e
    rw [if_pos (by omega)]; rfl
  · rw [List.getD_eq_getElem?_getD]
theorem ai_begin {m a : Nat} {K who : List Int} {G : List AG} {R : List Hld} {S : List SnD} {Wn : List (List (Int × Int))} (h : AInv m K who G R S Wn) (hm : m < 60) (ha : a < 4) : AInv (m + 1) (K.set (rAt 3 m).toNat 1) (who.set a (rAt 3 m)) G R S Wn := by
  have hne : ∀ k, k < m → rAt 3 m ≠ rAt 3 k := fun k hk => (rAt_ne hk (by omega)).symm
  have hs : ∀ k, k < m → stK 3 (K.set (rAt 3 m).toNat 1) k = stK 3 K k := fun k hk => stK_set (hne k hk)
  have hw0 : ∀ b, b < 4 → who.getD b 0 ≠ rAt 3 m := fun b hb e => by
    rcases h.wh b hb with h1 | ⟨j, hj, h1, _⟩
    · have := rAt_bd 3 m; omega
    · exact hne j hj (by rw [← e, h1])
  refine { kl := by rw [List.length_set]; exact h.kl, st := fun j hj => ?_, wl := by rw [List.length_set]; exact h.wl, wh := fun b hb => ?_, dis := fun b c hb hc hbc h0 => ?_, ag := h.ag, pp := h.pp, row := fun r hr => ?_, nd := h.nd, cnt := h.cnt, sl := h.sl, sn := fun q hq => ?_ }
  · rcases Nat.lt_or_ge j m with g | g
    · rw [hs j g]; exact h.st j g
    · obtain rfl : j = m := by omega
      exact .inl (stK_set_self h.kl)
  · rw [who_set h.wl ha]
    split
    · exact .inr ⟨m, by omega, rfl, stK_set_self h.kl⟩
    · rcases h.wh b hb with h1 | ⟨j, hj, h1, h2⟩
      · exact .inl h1
      · exact .inr ⟨j, by omega, h1, by rw [hs j hj]; exact h2⟩
  · rw [who_set h.wl ha] at h0
    rw [who_set h.wl ha, who_set h.wl ha]
    split
    · split
      · omega
      · exact fun e => hw0 c hc e.symm
    · split
      · exact hw0 b hb
      · rename_i e1 _
        rw [if_neg e1] at h0
        exact h.dis b c hb hc hbc h0
  · obtain ⟨⟨⟨j, hj, h1⟩, h2⟩, h3⟩ := h.row r hr
    exact ⟨⟨⟨j, by omega, h1⟩, h2.imp id fun ⟨i, hi, e⟩ => ⟨i, by omega, e⟩⟩, h3⟩
  · exact (h.sn q hq).step (by omega) (by omega) (fun r hr => (h.row r hr).1) (fun j hj => .inl (hs j hj).symm) (fun j hj e => by rw [← hs j hj]; exact e)
theorem agAt_add {G : List AG} {n n' k : Nat} {lsn : Int} {v u : VerD} (h : agAt G n' k = some u) (hn : n' < G.length) : agAt (addG G n lsn v) n' k = some u := by
  rw [agAt] at h ⊢
  obtain ⟨h1, h2⟩ := List.getElem?_eq_some_iff.1 h
  rw [addG]
  split
  · rename_i hng
    by_cases e : n = n'
    · subst e
      rw [List.getD_eq_getElem?_getD, List.getElem?_set_self hng, Option.getD_some]
      dsimp only
      rw [List.getElem?_append_left h1]; exact h
    · rw [List.getD_eq_getElem?_getD, List.getElem?_set_ne e, ← List.getD_eq_getElem?_getD]; exact h
  · rw [List.getD_eq_getElem?_getD, List.getElem?_append_left hn, ← List.getD_eq_getElem?_getD]; exact h
theorem agAt_new {G : List AG} {n : Nat} {lsn : Int} {v : VerD} (hn : n ≤ G.length) : n < (addG G n lsn v).length ∧ agAt (addG G n lsn v) n ((G.getD n ag0).2.length + 1) = some v := by
  rw [agAt, addG, Nat.add_sub_cancel]
  split
  · rename_i h
    refine ⟨by rw [List.length_set]; exact h, ?_⟩
    rw [List.getD_eq_getElem?_getD (l := G.set _ _), List.getElem?_set_self h, Option.getD_some]
    simp
  · obtain rfl : n = G.length := by omega
    refine ⟨by simp, ?_⟩
    rw [List.getD_eq_getElem?_getD (l := G ++ _), List.getElem?_append_right (Nat.le_refl _), Nat.sub_self, getD_ge (Nat.le_refl _)]
    rfl
theorem ai_ins {m a n : Nat} {K who : List Int} {G : List AG} {R : List Hld} {S : List SnD} {Wn : List (List (Int × Int))} {lsn : Int} {rs : List Val} (h : AInv m K who G R S Wn) (hm : m ≤ 60) (ha : a < 4) (h0 : who.getD a 0 ≠ 0) (hR : R.length ≤ 59) (hn : n ≤ G.length)
    (hG : agOk (addG G n lsn (who.getD a 0, 0, -1, 0, false, rs))) (hfull : n = G.length → ∀ g ∈ G, 22 ≤ g.2.length) :
    AInv m K who (addG G n lsn (who.getD a 0, 0, -1, 0, false, rs)) (R ++ [(who.getD a 0, 0, (n : Int), (((G.getD n ag0).2.length + 1 : Nat) : Int))]) S Wn := by
  obtain ⟨x, hx⟩ : ∃ x, who.getD a 0 = x := ⟨_, rfl⟩
  have hw := (h.wh a ha).resolve_left h0
  rw [hx] at hw hG h0 ⊢
  obtain ⟨j, hj, hxj, h1⟩ := hw
  obtain ⟨hn1, hn2⟩ := agAt_new (G := G) (lsn := lsn) (v := (x, 0, -1, 0, false, rs)) hn
  refine { kl := h.kl, st := h.st, wl := h.wl, wh := h.wh, dis := h.dis, ag := hG, pp := ?_, row := fun r hr => ?_, nd := ?_, cnt := fun f => ?_, sl := h.sl, sn := fun q hq => ?_ }
  · rw [addG]
    split
    · rw [List.length_set]; exact h.pp
    · have h3 := cntG_all (hfull (by omega))
      rw [h.cnt, List.countP_true] at h3
      simp; omega
  · rcases List.mem_append.1 hr with hr | hr
    · obtain ⟨h3, n', k', rs', h4, h5, h6, h7⟩ := h.row r hr
      exact ⟨h3, n', k', rs', h4, by rw [addG]; split <;> simp <;> omega, h6, agAt_add h7 h5⟩
    · rw [List.mem_singleton] at hr; subst hr
      exact ⟨⟨⟨j, hj, hxj⟩, .inl rfl⟩, n, _, rs, rfl, hn1, by omega, hn2⟩
  · rw [List.pairwise_append]
    refine ⟨h.nd, List.pairwise_singleton _ _, fun r hr r' hr' => ?_⟩
    rw [List.mem_singleton] at hr'; subst hr'
    obtain ⟨h3, n', k', rs', h4, h5, h6, h7⟩ := h.row r hr
    rw [h4]
    intro e
    have e1 : n' = n := by have := congrArg Prod.fst e; dsimp only at this; omega
    have e2 : k' = (G.getD n ag0).2.length + 1 := by have := congrArg Prod.snd e; dsimp only at this; omega
    subst e1
    rw [agAt, e2, Nat.add_sub_cancel, List.getElem?_eq_none (Nat.le_refl _)] at h7
    cases h7
  · rw [cntG_add, h.cnt, List.countP_append, List.countP_singleton]
  · rw [hxj]
    exact (h.sn q hq).add hm hj h1 _
theorem ai_del {m a k : Nat} {K who : List Int} {G : List AG} {R : List Hld} {S : List SnD} {Wn : List (List (Int × Int))} {lsn x y : Int} {n s : Nat} {rs : List Val} (h : AInv m K who G R S Wn) (hm : m ≤ 60) (ha : a < 4) (h0 : who.getD a 0 ≠ 0) (hk : R[k]? = some (x, y, (n : Int), (s : Int)))
    (hy : y = 0 ∨ ∃ i, i < m ∧ y = rAt 3 i ∧ stK 3 K i = 3) (hn : n < G.length) (hs : 1 ≤ s) (hat : agAt G n s = some (x, y, -1, 0, false, rs)) (hG : agOk (G.set n (lsn, (G.getD n ag0).2.set (s - 1) (x, who.getD a 0, -1, 0, false, rs)))) :
    AInv m K who (G.set n (lsn, (G.getD n ag0).2.set (s - 1) (x, who.getD a 0, -1, 0, false, rs))) (R.set k (x, who.getD a 0, (n : Int), (s : Int))) S Wn := by
  obtain ⟨z, hz⟩ : ∃ z, who.getD a 0 = z := ⟨_, rfl⟩
  have hw := (h.wh a ha).resolve_left h0
  rw [hz] at hw hG h0 ⊢
  obtain ⟨j, hj, hzj, h1⟩ := hw
  obtain ⟨hk1, hk2⟩ := List.getElem?_eq_some_iff.1 hk
  have hrk : (x, y, (n : Int), (s : Int)) ∈ R := by rw [← hk2]; exact List.getElem_mem _
  have hin := (h.row _ hrk).1
  have hat' := hat
  rw [agAt] at hat'
  obtain ⟨g1, g2⟩ := List.getElem?_eq_some_iff.1 hat'
  have hself : agAt (G.set n (lsn, (G.getD n ag0).2.set (s - 1) (x, z, -1, 0, false, rs))) n s = some (x, z, -1, 0, false, rs) := by
    rw [agAt, List.getD_eq_getElem?_getD (l := G.set _ _), List.getElem?_set_self hn, Option.getD_some]
    dsimp only
    rw [List.getElem?_set_self g1]
  have hoth : ∀ (n' s' : Nat) (u : VerD), 1 ≤ s' → ((n' : Int), (s' : Int)) ≠ ((n : Int), (s : Int)) → agAt G n' s' = some u → agAt (G.set n (lsn, (G.getD n ag0).2.set (s - 1) (x, z, -1, 0, false, rs))) n' s' = some u := fun n' s' u h6 hne hu => by
    rw [agAt] at hu ⊢
    by_cases e : n = n'
    · subst e
      rw [List.getD_eq_getElem?_getD (l := G.set _ _), List.getElem?_set_self hn, Option.getD_some]
      dsimp only
      rw [List.getElem?_set_ne, hu]
      intro e2
      apply hne
      rw [show s = s' by omega]
    · rw [List.getD_eq_getElem?_getD, List.getElem?_set_ne e, ← List.getD_eq_getElem?_getD]; exact hu
  refine { kl := h.kl, st := h.st, wl := h.wl, wh := h.wh, dis := h.dis, ag := hG, pp := by rw [List.length_set]; exact h.pp, row := fun r hr => ?_, nd := ?_, cnt := fun f => ?_, sl := h.sl, sn := fun q hq => ?_ }
  · obtain ⟨i, hi, rfl⟩ := List.mem_iff_getElem.1 hr
    rw [List.length_set] at hi
    rw [List.getElem_set]
    split
    · exact ⟨⟨hin.1, .inr ⟨j, hj, hzj⟩⟩, n, s, rs, rfl, by rw [List.length_set]; exact hn, hs, hself⟩
    · rename_i hne
      obtain ⟨h3, n', k', rs', h4, h5, h6, h7⟩ := h.row R[i] (List.getElem_mem _)
      refine ⟨h3, n', k', rs', h4, by rw [List.length_set]; exact h5, h6, hoth n' k' _ h6 ?_ h7⟩
      rw [← h4]
      have hp := List.pairwise_iff_getElem.1 h.nd
      rcases Nat.lt_or_gt_of_ne hne with g | g
      · have := hp k i hk1 hi g
        rw [hk2] at this
        exact fun e => this e.symm
      · have := hp i k hi hk1 g
        rw [hk2] at this
        exact this
  · rw [List.pairwise_iff_getElem]
    intro i1 i2 h1' h2' hlt
    rw [List.length_set] at h1' h2'
    have hp := List.pairwise_iff_getElem.1 h.nd i1 i2 h1' h2' hlt
    rw [List.getElem_set, List.getElem_set]
    split
    · split
      · omega
      · rename_i e _
        subst e
        rw [hk2] at hp; exact hp
    · split
      · rename_i e
        subst e
        rw [hk2] at hp; exact hp
      · exact hp
  · have e1 := cntG_set f G n (lsn, (G.getD n ag0).2.set (s - 1) (x, z, -1, 0, false, rs)) hn
    have e2 := cntP_set (fun v : VerD => f v.1 v.2.1) (G.getD n ag0).2 (s - 1) _ (x, z, -1, 0, false, rs) hat'
    have e3 := cntP_set (fun r : Hld => f r.1 r.2.1) R k _ (x, z, (n : Int), (s : Int)) hk
    have e4 := h.cnt f
    dsimp only at e1 e2 e3
    omega
  · have h5 := h.sn q hq
    rw [hzj]
    exact h5.del hm hj h1 hk hy
theorem ai_end {m a : Nat} {K who : List Int} {G : List AG} {R : List Hld} {S : List SnD} {Wn : List (List (Int × Int))} {st : Int} (h : AInv m K who G R S Wn) (hm : m ≤ 60) (ha : a < 4) (h0 : who.getD a 0 ≠ 0) (hs : st = 2 ∨ st = 3) : AInv m (K.set (who.getD a 0).toNat st) (who.set a 0) G R S Wn := by
  obtain ⟨j0, hj0, hx, h1⟩ := (h.wh a ha).resolve_left h0
  have hself : stK 3 (K.set (rAt 3 j0).toNat st) j0 = st := stK_set_self h.kl
  have hs' : ∀ k, k < m → k ≠ j0 → stK 3 (K.set (rAt 3 j0).toNat st) k = stK 3 K k := fun k hk hn => stK_set (by
    rcases Nat.lt_or_gt_of_ne hn with g | g
    · exact (rAt_ne g (by omega)).symm
    · exact rAt_ne g (by omega))
  have hx' := hx
  rw [hx]
  refine { kl := by rw [List.length_set]; exact h.kl, st := fun j hj => ?_, wl := by rw [List.length_set]; exact h.wl, wh := fun b hb => ?_, dis := fun b c hb hc hbc h2 => ?_, ag := h.ag, pp := h.pp, row := h.row, nd := h.nd, cnt := h.cnt, sl := h.sl, sn := fun q hq => ?_ }
  · by_cases e : j = j0
    · subst e; rw [hself]; omega
    · rw [hs' j hj e]; exact h.st j hj
  · rw [who_set h.wl ha]
    split
    · exact .inl rfl
    · rename_i hab
      rcases h.wh b hb with h2 | ⟨j, hj, h2, h3⟩
      · exact .inl h2
      · refine .inr ⟨j, hj, h2, ?_⟩
        by_cases e : j = j0
        · subst e
          exact absurd (by rw [hx, h2]) (h.dis a b ha hb hab h0)
        · rw [hs' j hj e]; exact h3
  · rw [who_set h.wl ha] at h2
    rw [who_set h.wl ha, who_set h.wl ha]
    split
    · rename_i e; rw [if_pos e] at h2; exact absurd rfl h2
    · rename_i e
      rw [if_neg e] at h2
      split
      · exact h2
      · exact h.dis b c hb hc hbc h2
  · refine (h.sn q hq).step (Nat.le_refl _) hm (fun r hr => (h.row r hr).1) (fun j hj => ?_) (fun j hj e => ?_)
    · by_cases e : j = j0
      · subst e; exact .inr h1
      · exact .inl (hs' j hj e).symm
    · by_cases e2 : j = j0
      · subst e2; exact h1
      · rw [← hs' j hj e2]; exact e
theorem ai_snap {m : Nat} {K who : List Int} {G : List AG} {R : List Hld} {S : List SnD} {Wn : List (List (Int × Int))} (h : AInv m K who G R S Wn) (hm : m ≤ 60) : AInv m K who G R (S ++ [(rAt 3 m, liveL K (ringL 3 (rAt 3 m)))])
    (Wn ++ [(R.filter fun r => (gW m K r.1 == 2) && ((r.2.1 == 0) || (gW m K r.2.1 != 2))).map fun r => r.2.2]) := by
  refine { h with sl := by simp [h.sl], sn := fun q hq => ?_ }
  rw [List.getD_eq_getElem?_getD, List.getD_eq_getElem?_getD]
  rcases Nat.lt_or_ge q S.length with g | g
  · rw [List.getElem?_append_left g, List.getElem?_append_left (by rw [← h.sl]; exact g), ← List.getD_eq_getElem?_getD, ← List.getD_eq_getElem?_getD]
    exact h.sn q g
  · have e : q = S.length := by simp at hq; omega
    rw [e, List.getElem?_append_right (Nat.le_refl _), h.sl, List.getElem?_append_right (Nat.le_refl _), Nat.sub_self]
    exact snok_new hm (fun r hr => (h.row r hr).1) h.st
/-- what the law looks at in the end -/
theorem ai_want {m q : Nat} {K who : List Int} {G : List AG} {R : List Hld} {S : List SnD} {Wn : List (List (Int × Int))} (h : AInv m K who G R S Wn) (hq : q < S.length) : ∀ e ∈ Wn.getD q [], ∃ (n k : Nat) (a b : Int) (rs : List Val), e = ((n : Int), (k : Int)) ∧ n < G.length ∧ 1 ≤ k ∧ agAt G n k = some (a, b, -1, 0, false, rs) ∧ visF (S.getD q snd0).1 (S.getD q snd0).2 [] (gW m K) a b = true := by
  intro e he
  rw [(h.sn q hq).want, wantL] at he
  obtain ⟨r, hr, rfl⟩ := List.mem_map.1 he
  rw [List.mem_filter] at hr
  obtain ⟨_, n, k, rs, h1, h2, h3, h4⟩ := h.row r hr.1
  exact ⟨n, k, r.1, r.2.1, rs, h1, h2, h3, h4, hr.2⟩
theorem ai_count {m q : Nat} {K who : List Int} {G : List AG} {R : List Hld} {S : List SnD} {Wn : List (List (Int × Int))} (h : AInv m K who G R S Wn) (hq : q < S.length) : cntG (visF (S.getD q snd0).1 (S.getD q snd0).2 [] (gW m K)) G = (Wn.getD q []).length := by
  rw [h.cnt, (h.sn q hq).want, wantL, List.length_map, List.countP_eq_length_filter]
  rfl
end
end Go.Proofs.YtjnplglnnamfdaaDoor
namespace Go.Proofs.YtjnplglnnamfdaaDoor
section
open Go.RowKit
set_option linter.unusedVariables false
set_option linter.unusedSimpArgs false
/-- among the entries R lie the pages Ps, their row at A -/
structure PgR (R : List Ent) (Ps : List PgD) (A : Option Addr) (n : Nat) : Prop where
  its : ∀ p ∈ Ps, entP p ∈ R
  row : ∃ c, eO 86 3 (.slice A n c) n (Ps.flatMap pgC) ∈ R
theorem PgR.at_ {R : List Ent} {Ps : List PgD} {A : Option Addr} {n : Nat} {W : World} (h : PgR R Ps A n) (hM : (eM R).holds W) (hH : okH (Ps.map absP)) (hl : Ps.length ≤ 1000) : PgsAt W A Ps := by
  obtain ⟨c, hc⟩ := h.row
  refine ⟨At.of_ownN (hM _ hc).1, hl, fun p hp => ?_⟩
  have h7 := (hM _ (h.its p hp)).1
  have h8 : okP (absP p) := hH _ (List.mem_map.2 ⟨_, hp, rfl⟩)
  exact ⟨At.of_own h7, h8.its, eown_cap h7, h8.2⟩
theorem eM_app {R S : List Ent} {W : World} : (eM (R ++ S)).holds W ↔ (eM R).holds W ∧ (eM S).holds W := by
  constructor
  · exact fun h => ⟨fun e he => h e (List.mem_append_left _ he), fun e he => h e (List.mem_append_right _ he)⟩
  · rintro ⟨h1, h2⟩ e he
    rcases List.mem_append.1 he with h | h
    · exact h1 e h
    · exact h2 e h
/-- two entries in one -/
theorem St.merge2 {w0 W : World} {bor : List Nat} {L R S : List Ent} (h : St w0 bor (L ++ [eM R, eM S]) W) : St w0 bor (L ++ [eM (R ++ S)]) W := by
  have hM := h.ok (eM R) (by simp)
  have hE := h.ok (eM S) (by simp)
  have hfp : ∀ k, k ∈ (eM (R ++ S)).fp ↔ k ∈ (eM R).fp ∨ k ∈ (eM S).fp := fun k => by simp [eM, or_comm]
  refine ⟨h.upd, fun x hx => ?_, ?_⟩
  · rcases List.mem_append.1 hx with hx | hx
    · exact h.ok x (by simp [hx])
    · rw [List.mem_singleton] at hx
      subst hx
      refine ⟨eM_app.2 ⟨hM.holds, hE.holds⟩, eM_loc _, fun k hk => ?_⟩
      rcases (hfp k).1 hk with hk | hk
      · exact hM.own k hk
      · exact hE.own k hk
  · have ha := h.apart
    rw [List.pairwise_append] at ha ⊢
    refine ⟨ha.1, List.pairwise_singleton _ _, fun a ha' b hb => ?_⟩
    rw [List.mem_singleton] at hb
    subst hb
    intro k hk hkb
    rcases (hfp k).1 hkb with hkb | hkb
    · exact ha.2.2 a ha' (eM R) (by simp) k hk hkb
    · exact ha.2.2 a ha' (eM S) (by simp) k hk hkb
/-- behind Do: the new pages beside the old ones -/
theorem St.domerge {w0 W : World} {bor : List Nat} {L R : List Ent} {Ps : List PgD} {H : List PgI} {n : Nat} {A A' : Option Addr} {fp : List Nat} (h : St w0 bor (L ++ [eM R, eDo Ps H n A' fp]) W) (hP : PgR R Ps A n) :
    ∃ R' Ps', Ps'.map absP = H ∧ PgR R' Ps' A' n ∧ St w0 bor (L ++ [eM R']) W := by
  have hD := (h.ok (eDo Ps H n A' fp) (by simp)).holds
  obtain ⟨c, Cs, Qs, h1, h2, h3, h4⟩ := hD
  have h' : St w0 bor ((L ++ [eM R]) ++ eDo Ps H n A' fp :: []) W := by rw [List.append_assoc]; exact h
  have h5 := St.repl (E' := eM (Qs.map entP ++ [eO 86 3 (.slice A' n c) n (Cs.flatMap pgC)])) h' h3.symm (fun _ => h4) (eM_loc _)
  rw [List.append_assoc] at h5
  have h6 := St.merge2 h5
  refine ⟨_, Cs, h1, ⟨fun p hp => ?_, c, by simp⟩, h6⟩
  rcases h2 p hp with g | g
  · exact List.mem_append_left _ (hP.its p g)
  · exact List.mem_append_right _ (List.mem_append_left _ (List.mem_map.2 ⟨p, g, rfl⟩))
/-- the pages at the start: a row of empty pages -/
theorem St.pg0 {w0 W : World} {bor : List Nat} {L : List Ent} {A : Option Addr} {n c : Nat} (h : St w0 bor (L ++ [eO 86 3 (.slice A n c) n ((List.replicate n p0).flatMap pgC)]) W) :
    ∃ R, PgR R (List.replicate n p0) A n ∧ St w0 bor (L ++ [eM R]) W := by
  have hn := ((St.nilrow h 9).ok (eO 9 1 (.slice none 0 0) 0 []) (by simp))
  have hr := h.ok (eO 86 3 (.slice A n c) n ((List.replicate n p0).flatMap pgC)) (by simp)
  refine ⟨[entP p0, eO 86 3 (.slice A n c) n ((List.replicate n p0).flatMap pgC)], ⟨fun p hp => by rw [(List.mem_replicate.1 hp).2]; simp, c, by simp⟩, ?_⟩
  refine St.repl (L1 := L) (L2 := []) h (by simp [eM, entP, p0, eO, Value.ownBlock]) (fun _ => ?_) (eM_loc _)
  intro e he
  rcases List.mem_cons.1 he with rfl | he
  · exact ⟨hn.holds, hn.loc⟩
  · rw [List.mem_singleton] at he; subst he
    exact ⟨hr.holds, hr.loc⟩
end
end Go.Proofs.YtjnplglnnamfdaaDoor
namespace Go.Proofs.YtjnplglnnamfdaaDoor
section
open Go.RowKit
set_option linter.unusedVariables false
set_option linter.unusedSimpArgs false
def eFnd (t : TypeId) (v : Value) (l : List (Nat × VerD)) (n : Int) : Ent := ⟨v.ownBlock.toList, fun W => ∃ ks : List FK, ks.map Prod.fst = l ∧ W.ownsRow 0 t 8 v l.length (ks.flatMap (cellsF n))⟩
theorem eFnd_loc (t : TypeId) (v : Value) (l : List (Nat × VerD)) (n : Int) : (eFnd t v l n).loc := fun W W' hk h => by
  obtain ⟨ks, h1, h2⟩ := h
  exact ⟨ks, h1, eO_loc t 8 v l.length (ks.flatMap (cellsF n)) W W' hk h2⟩
theorem eFnd_new {W W' : World} {t : TypeId} {v : Value} {l : List (Nat × VerD)} {n : Int} {ks : List FK} (hk : ks.map Prod.fst = l) (h : W'.ownsRow W.heap.size t 8 v l.length (ks.flatMap (cellsF n))) :
    (eFnd t v l n).holds W' ∧ (eFnd t v l n).loc ∧ ∀ k ∈ (eFnd t v l n).fp, W.heap.size ≤ k ∧ k < W'.heap.size := by
  have h2 := eO_new (W := W) h
  exact ⟨⟨ks, hk, h2.1⟩, eFnd_loc _ _ _ _, h2.2.2⟩
end
end Go.Proofs.YtjnplglnnamfdaaDoor
namespace Go.Proofs.YtjnplglnnamfdaaDoor
section
open Go.RowKit
set_option linter.unusedVariables false
set_option linter.unusedSimpArgs false
section
variable {o : Oper} {ρ : Operand → Value} {W : World}
theorem run_eqT {x y : Operand} {a b c d : Int} {r : Bool} (h : o.op = .binOp .eql 24 x y 24) (hx : ρ x = .agg #[.int .i64 a, .int .i64 b]) (hy : ρ y = .agg #[.int .i64 c, .int .i64 d]) (hr : (a == c && b == d) = r) :
    (execOp ρ o).run Tryd.prog W = .ok (.value (.bool r)) W := by
  subst hr
  unfold execOp; rw [h]
  simp [go_sem, hx, hy]
  by_cases h1 : a = c <;> by_cases h2 : b = d <;> simp [h1, h2]
theorem run_neT {x y : Operand} {a b c d : Int} {r : Bool} (h : o.op = .binOp .neq 24 x y 24) (hx : ρ x = .agg #[.int .i64 a, .int .i64 b]) (hy : ρ y = .agg #[.int .i64 c, .int .i64 d]) (hr : (!(a == c && b == d)) = r) :
    (execOp ρ o).run Tryd.prog W = .ok (.value (.bool r)) W := by
  subst hr
  unfold execOp; rw [h]
  simp [go_sem, hx, hy]
  by_cases h1 : a = c <;> by_cases h2 : b = d <;> simp [h1, h2]
end
theorem pgs_ok {w : World} {PA : Option Addr} {pc n : Nat} {Ps : List PgD} {H : List PgI} (h : PgsAt w PA Ps) (hl : Ps.length = n) (hH : Ps.map absP = H) : PgsOk w 30 (.agg #[.slice PA n pc]) (pvL H) := by
  subst hl hH
  rw [← pvF_abs]
  exact rpages_ok PA pc Ps w h
theorem ins_eq {f : Nat} {args : Array Value} {w : World} {R R' : (Int × Int) × List EdD × Int} (h : R = R') (hc : Calls Tryd.prog f args w (InsPost R w)) : Calls Tryd.prog f args w (InsPost R' w) := h ▸ hc
theorem upd_eq {f : Nat} {args : Array Value} {w : World} {R R' : (Int × Int) × Bool × List EdD × Int} (h : R = R') (hc : Calls Tryd.prog f args w (UpdPost R w)) : Calls Tryd.prog f args w (UpdPost R' w) := h ▸ hc
theorem lp_eq {f : Nat} {args : Array Value} {w : World} {t : TypeId} {n : Int} {R R' : List (Nat × VerD)} (h : R = R') (hc : Calls Tryd.prog f args w (LPost t R n w)) : Calls Tryd.prog f args w (LPost t R' n w) := h ▸ hc
def L1s : List EdD := bgL 5 3 ++ [(5, 1, txD V1)]
def L2s : List EdD := [(5, 2, txD V2), (5, 1, oldB V1 8 5 2)]
theorem ins_s1 : insA (pvL H0s) 5 3 [] (txD V1) = ((5, 1), L1s, 0) := ins_s
theorem upd_s1 : updA (pvL H1s) (-1) 3 [5] 5 1 8 true [(1, 2, ByteArray.empty)] = ((5, 2), true, L2s, 0) := upd_s
def es1s : List EdI := [(5, -1, ((⟨#[1]⟩ : ByteArray), none)), (5, 0, (putS 3 2, none)), (5, 1, (txD V1, some V1))]
theorem es1s_desc : ∀ e ∈ es1s, Desc e.2.2.1 e.2.2.2 := fun e he => by
  simp only [es1s, List.mem_cons, List.not_mem_nil, or_false] at he
  rcases he with rfl | rfl | rfl
  · show (1 : Nat) < 8; decide
  · show (putS 3 2).size < 8; rw [putS2_size]; decide
  · exact ⟨V1_ok, rfl⟩
theorem ks_at {ks : List FK} {l : List (Nat × VerD)} {m : Nat} (h : ks.map Prod.fst = l) (hm : m < l.length) : (ks.getD m fk0).1 = l.getD m (0, zD) := by
  subst h
  rw [List.length_map] at hm
  rw [List.getD_eq_getElem?_getD, List.getD_eq_getElem?_getD, List.getElem?_map, List.getElem?_eq_getElem hm]
  rfl
set_option maxRecDepth 100000 in
set_option maxHeartbeats 8000000 in
theorem sanity09_any  (w : World) (hN : NoneAt w) :
    Calls Tryd.prog 5 #[] w (Ret (.bool true) w) := by
  go_enter Tryd.func5, Tryd.ntmps5
  have hst0 := St.start w
  refine wp_seq (wp_region_P [0] [.k 0 (.bool false)] [(0, 0, 1, 1)] hst0 fun W1 hst1 => ?_)
  refine then_normal (wp_seq (wp_region_Y [0, 0, 3] [[], [], [1]] [[0], [1], [2]] [[], [], [1]] [.a 14, .a 1, .n] (fun ix σ β X => match ix with | 0 => σ 14 = .agg #[.slice (sA (tg (β 14) 0)) 6 6] ∧ X 0 = eO 86 3 (.slice (sA (tg (β 14) 0)) 6 6) 6 ((List.replicate 6 p0).flatMap pgC) | 1 => σ 1 = vp (pb (β 1)) ∧ X 1 = eB (pb (β 1)) 30 #[.slice none 0 0] | 2 => X 2 = eB (pb (β 1)) 30 #[.slice (sA (tg (β 14) 0)) 6 6] | _ => True) [0, 2] [0, 1, 2] [(1, 1, 1, 2), (12, 0, 1, 13)] hst1 ?_ ?_ ?_))
  · exact fun ix _ _ _ _ _ _ hs hb hx h => match ix, h with
    | 0, h => by dsimp only at h ⊢; rw [← hs 14 rfl, ← hb 14 rfl, ← hx 0 rfl]; exact h
    | 1, h => by dsimp only at h ⊢; rw [← hs 1 rfl, ← hb 1 rfl, ← hx 1 rfl]; exact h
    | 2, h => by dsimp only at h ⊢; rw [← hb 1 rfl, ← hb 14 rfl, ← hx 2 rfl]; exact h
    | _ + 3, _ => trivial
  · refine ⟨?_, ?_, ?_, trivial⟩
    · refine sv_any rfl rfl fun ρ β W X cx => ?_
      refine DoesU.call (run_callF (args := #[vi 6]) rfl cx.sees rfl (by kernel_rfl) (map1 (cx.co _))) ?_
      refine (free09_any 6 _ (by decide)).mono ?_
      rintro e W1 ⟨A4, rfl, ho, hx⟩
      refine ⟨_, rfl, post_call [eO 86 3 (.slice A4 6 6) 6 ((List.replicate 6 p0).flatMap pgC)] rfl rfl hx (one_new (eO_new ho)) (List.pairwise_singleton _ _) (fun σ β' X' hs hb hv hN => ?_)⟩
      have hv1 := (hv 14 rfl).1; have hv2 := (hv 14 rfl).2
      exact ⟨hv1.trans (by rw [hv2]; rfl), (by rw [hv2]; exact (List.cons.inj hN).1)⟩
    · refine sv_any rfl rfl fun ρ β W X cx => ?_
      exact dv_alloc (cs := #[.slice none 0 0]) rfl (by kernel_rfl) rfl rfl (fun σ β' X' hs hb hv hx => ⟨hv, hx⟩)
    · refine sv_any rfl rfl fun ρ β W X cx => ?_
      exact dv_store (n := 1) rfl (dTn (cx.an 1)).1 (dTn (cx.an 0)).1 (by kernel_rfl) (by kernel_rfl) (by kernel_rfl) cx (dTn (cx.an 1)).2 rfl (nle rfl) (by kernel_rfl) rfl rfl rfl (fun σ β' X' hs hb hx => by rw [hb 1, hb 14]; exact hx)
  intro σ β X W2 hD hst2 fr hfr
  obtain ⟨A14_2, hu_A14_2⟩ : ∃ z, sA (tg (β 14) 0) = z := ⟨_, rfl⟩
  obtain ⟨B1_2, hu_B1_2⟩ : ∃ z, pb (β 1) = z := ⟨_, rfl⟩
  simp only [exq 0 ((dTn (hD 0 lq)).2), exq 2 ((dTn (hD 2 lq))), hu_A14_2, hu_B1_2] at hst2
  simp only [ed 14 ((dTn (hD 0 lq)).1), ed 1 ((dTn (hD 1 lq)).1), hu_A14_2, hu_B1_2] at hfr
  clear hD hu_A14_2 hu_B1_2; subst hfr; clear σ β X
  refine then_normal (wp_seq ?_)
  have hx3_ := hst2.ext
  have hb3_1 := hst2.blk 1 rfl
  have ha3_0 := At.of_ownN ((hst2.get 0 rfl).holds : World.ownsRow _ 0 86 3 (.slice A14_2 6 6) 6 ((List.replicate 6 p0).flatMap pgC))
  have hN_3 := hN.ext hx3_
  have hS3_ := St.start W2
  clear hst2
  have hP0 := free_at ha3_0 (by decide)
  refine wp_region_Y [0, 1, 0, 0, 12, 31, 63, 127, 127, 127, 0, 1279, 3583, 8191] [[], [], [], [], [], [0], [], [], [], [], [], [2]] [[], [], [], [0], [], [1], [], [], [], [], [2], [3]] [[], [], [], [], [], [], [], [], [], [], [], [2]] [.c 16 (.agg #[.slice A14_2 6 6]), .c 17 (.iface 30 (.agg #[.slice A14_2 6 6])), .k 18 (.agg #[vi (-1), vi 0]), .a 19, .a 20, .a 21, .a 15, .c 22 (.agg #[vi 5, vi 1]), .a 23, .c 24 (vi 0), .a 2, .n, .a 3, .k 4 (vi 0)] (fun ix σ β X => match ix with | 0 => True | 1 => True | 2 => True | 3 => σ 19 = .slice (sA (β 19)) 1 1 ∧ X 0 = eO 82 3 (.slice (sA (β 19)) 1 1) 1 (flatR [(1, 1, ByteArray.empty)]) | 4 => σ 20 = .agg #[vi 7, vi 0, vi (-1), vi 0, .bool false, .slice (sA (β 19)) 1 1] | 5 => σ 21 = .tuple #[.agg #[vi 5, vi 1], .slice (sA (tg (β 21) 1)) 3 (sC (tg (β 21) 1)), vi 0] ∧ X 1 = eO 99 3 (.slice (sA (tg (β 21) 1)) 3 (sC (tg (β 21) 1))) 3 (L1s.flatMap cellsE) | 6 => σ 15 = .tuple #[.agg #[vi 5, vi 1], .slice (sA (tg (β 21) 1)) 3 (sC (tg (β 21) 1)), vi 0] | 7 => True | 8 => σ 23 = .slice (sA (tg (β 21) 1)) 3 (sC (tg (β 21) 1)) | 9 => True | 10 => σ 2 = vp (pb (β 2)) ∧ X 2 = eB (pb (β 2)) 24 #[vi 0, vi 0] | 11 => X 3 = eB (pb (β 2)) 24 #[vi 5, vi 1] | 12 => σ 3 = .slice (sA (tg (β 21) 1)) 3 (sC (tg (β 21) 1)) | _ => True) [0, 1, 3] [0, 1, 3, 4, 5, 6, 7, 8, 9, 10, 11, 12] [(2, 10, 4, 5), (10, 6, 1, 11), (0, 0, 6, 6), (0, 7, 3, 3)] hS3_ ?_ ?_ ?_
  · exact fun ix _ _ _ _ _ _ hs hb hx h => match ix, h with
    | 3, h => by dsimp only at h ⊢; rw [← hs 19 rfl, ← hb 19 rfl, ← hx 0 rfl]; exact h
    | 4, h => by dsimp only at h ⊢; rw [← hs 20 rfl, ← hb 19 rfl]; exact h
    | 5, h => by dsimp only at h ⊢; rw [← hs 21 rfl, ← hb 21 rfl, ← hx 1 rfl]; exact h
    | 6, h => by dsimp only at h ⊢; rw [← hs 15 rfl, ← hb 21 rfl]; exact h
    | 8, h => by dsimp only at h ⊢; rw [← hs 23 rfl, ← hb 21 rfl]; exact h
    | 10, h => by dsimp only at h ⊢; rw [← hs 2 rfl, ← hb 2 rfl, ← hx 2 rfl]; exact h
    | 11, h => by dsimp only at h ⊢; rw [← hb 2 rfl, ← hx 3 rfl]; exact h
    | 12, h => by dsimp only at h ⊢; rw [← hs 3 rfl, ← hb 21 rfl]; exact h
    | 0, _ | 1, _ | 2, _ | 7, _ | 9, _ | _ + 13, _ => trivial
  · refine ⟨?_, ?_, ?_, ?_, ?_, ?_, ?_, ?_, ?_, ?_, ?_, ?_, trivial⟩
    · exact xs4 rfl id fun cx => run_loadB (n := 1) rfl (by kernel_rfl) (by kernel_rfl) (cx.ou 1) (Blk.ext hb3_1 cx.upd.to_ext) (nle rfl) rfl
    · exact sv0 rfl rfl rfl rfl rfl (fun _ _ _ h => h) fun ρ β W X cx => by
        have fF16 : ρ (.tmp 16) = .agg #[.slice A14_2 6 6] := (cx.an 0)
        simp [go_sem, fF16]
    · refine sv_any rfl rfl fun ρ β W X cx => ?_
      refine DoesU.call (run_callF (args := #[vi 1]) rfl cx.sees rfl (by kernel_rfl) (map1 (cx.co _))) ?_
      refine (whole09_any 1 _).mono ?_
      rintro e W1 ⟨A4, rfl, ho, hx⟩
      refine ⟨_, rfl, post_call [eO 82 3 (.slice A4 1 1) 1 (flatR [(1, 1, ByteArray.empty)])] rfl rfl hx (one_new (eO_new ho)) (List.pairwise_singleton _ _) (fun σ β' X' hs hb hv hN => ?_)⟩
      have hv1 := (hv 19 rfl).1; have hv2 := (hv 19 rfl).2
      exact ⟨hv1.trans (by rw [hv2]; rfl), (by rw [hv2]; exact (List.cons.inj hN).1)⟩
    · exact sv rfl rfl rfl rfl rfl _ (fun _ _ _ h => h) (fun β β' h => by rw [h 19 (by decide)]) fun ρ β W X cx => run_buildL rfl (pmc (cx.co _) (pmc (cx.an 2) (pmc (dTn (cx.an 3)).1 pmn))) (by kernel_rfl)
    · refine sv_any rfl rfl fun ρ β W X cx => ?_
      refine DoesU.call (run_callF (args := #[.iface 30 (.agg #[.slice A14_2 6 6]), .slice none 0 0, vi 5, vi 3, .agg #[vi 7, vi 0, vi (-1), vi 0, .bool false, .slice (sA (β 19)) 1 1]]) rfl cx.sees rfl (by kernel_rfl) (map5 (cx.an 1) (cx.co _) (cx.co _) (cx.co _) (dTn (cx.an 4)))) ?_
      refine (ins_eq ins_s1 (hinsert_any _ _ (pvL H0s) _ _ [] 5 3 7 0 (-1) 0 false _ _ [(1, 1, ByteArray.empty)] _ (pgs_ok (hP0.ext cx.upd.to_ext) (List.length_replicate ..) rfl) (At.nil _ _) (by decide) (At.of_ownN (cx.row (dTn (cx.an 3)).2 rfl)) (by decide) (hN_3.ext cx.upd.to_ext))).mono ?_
      rintro e W1 ⟨A4, c4, rfl, ho_, hx⟩
      refine ⟨_, rfl, post_call [eO 99 3 (.slice A4 3 c4) 3 (L1s.flatMap cellsE)] rfl rfl hx (one_new (eO_new (n := 3) (xs := L1s.flatMap cellsE) ho_)) (List.pairwise_singleton _ _) (fun σ β' X' hs hb hv hN => ?_)⟩
      have hv1 := (hv 21 rfl).1; have hv2 := (hv 21 rfl).2
      exact ⟨hv1.trans (by rw [hv2]; rfl), (by rw [hv2]; exact (List.cons.inj hN).1)⟩
    · exact sv rfl rfl rfl rfl rfl _ (fun _ _ _ h => h) (fun β β' h => by rw [h 21 (by decide)]) fun ρ β W X cx => run_move' rfl (dTn (cx.an 5)).1
    · exact xs4 rfl id fun cx => run_extract' rfl (dTn (cx.an 6)) rfl
    · exact sv rfl rfl rfl rfl rfl _ (fun _ _ _ h => h) (fun β β' h => by rw [h 21 (by decide)]) fun ρ β W X cx => run_extract' rfl (dTn (cx.an 6)) rfl
    · exact xs4 rfl id fun cx => run_extract' rfl (dTn (cx.an 6)) rfl
    · refine sv_any rfl rfl fun ρ β W X cx => ?_
      exact dv_alloc (cs := #[vi 0, vi 0]) rfl (by kernel_rfl) rfl rfl (fun σ β' X' hs hb hv hx => ⟨hv, hx⟩)
    · refine sv_any rfl rfl fun ρ β W X cx => ?_
      exact dv_store (n := 2) rfl (dTn (cx.an 10)).1 (cx.an 7) (by kernel_rfl) (by kernel_rfl) (by kernel_rfl) cx (dTn (cx.an 10)).2 rfl (nle rfl) (by kernel_rfl) rfl rfl rfl (fun σ β' X' hs hb hx => by rw [hb 2]; exact hx)
    · exact sv rfl rfl rfl rfl rfl _ (fun _ _ _ h => h) (fun β β' h => by rw [h 21 (by decide)]) fun ρ β W X cx => run_assign' rfl (dTn (cx.an 8))
  intro σ β X W4 hD hst4 fr hfr
  obtain ⟨A19_4, hu_A19_4⟩ : ∃ z, sA (β 19) = z := ⟨_, rfl⟩
  obtain ⟨A21_4, hu_A21_4⟩ : ∃ z, sA (tg (β 21) 1) = z := ⟨_, rfl⟩
  obtain ⟨c21_4, hu_c21_4⟩ : ∃ z, sC (tg (β 21) 1) = z := ⟨_, rfl⟩
  obtain ⟨B2_4, hu_B2_4⟩ : ∃ z, pb (β 2) = z := ⟨_, rfl⟩
  simp only [exq 0 ((dTn (hD 3 lq)).2), exq 1 ((dTn (hD 5 lq)).2), exq 3 ((dTn (hD 11 lq))), hu_A19_4, hu_A21_4, hu_c21_4, hu_B2_4] at hst4
  simp only [ed 19 ((dTn (hD 3 lq)).1), ed 20 ((dTn (hD 4 lq))), ed 21 ((dTn (hD 5 lq)).1), ed 15 ((dTn (hD 6 lq))), ed 23 ((dTn (hD 8 lq))), ed 2 ((dTn (hD 10 lq)).1), ed 3 ((dTn (hD 12 lq))), hu_A19_4, hu_A21_4, hu_c21_4, hu_B2_4] at hfr
  clear hD hu_A19_4 hu_A21_4 hu_c21_4 hu_B2_4; subst hfr; clear σ β X
  refine then_normal (wp_seq (wp_region_Y [0, 0, 3, 7, 15, 15, 0, 95, 255] [[], [], [1], [], [], [], [], [4]] [[], [], [3], [], [], [], [4], [5]] [[], [], [], [], [], [], [], [4]] [.c 26 (.agg #[.slice A14_2 6 6]), .k 27 (.slice A21_4 3 c21_4), .a 28, .a 25, .a 29, .c 30 (.bool true), .a 5, .n, .k 6 (.bool true)] (fun ix σ β X => match ix with | 0 => True | 1 => True | 2 => σ 28 = .tuple #[.agg #[.slice (sA (tg (tg (β 28) 0) 0)) 6 (sC (tg (tg (β 28) 0) 0))], .bool true] ∧ X 3 = eDo (List.replicate 6 p0) H1s 6 (sA (tg (tg (β 28) 0) 0)) ((X 3).fp) | 3 => σ 25 = .tuple #[.agg #[.slice (sA (tg (tg (β 28) 0) 0)) 6 (sC (tg (tg (β 28) 0) 0))], .bool true] | 4 => σ 29 = .agg #[.slice (sA (tg (tg (β 28) 0) 0)) 6 (sC (tg (tg (β 28) 0) 0))] | 5 => True | 6 => σ 5 = vp (pb (β 5)) ∧ X 4 = eB (pb (β 5)) 30 #[.slice none 0 0] | 7 => X 5 = eB (pb (β 5)) 30 #[.slice (sA (tg (tg (β 28) 0) 0)) 6 (sC (tg (tg (β 28) 0) 0))] | _ => True) [0, 1, 2, 3, 5] [0, 2, 3, 4, 5, 6, 7] [(5, 6, 3, 7), (18, 3, 1, 19), (0, 0, 3, 3), (0, 4, 2, 2)] hst4 ?_ ?_ ?_))
  · exact fun ix _ _ _ _ _ _ hs hb hx h => match ix, h with
    | 2, h => by dsimp only at h ⊢; rw [← hs 28 rfl, ← hb 28 rfl, ← hx 3 rfl]; exact h
    | 3, h => by dsimp only at h ⊢; rw [← hs 25 rfl, ← hb 28 rfl]; exact h
    | 4, h => by dsimp only at h ⊢; rw [← hs 29 rfl, ← hb 28 rfl]; exact h
    | 6, h => by dsimp only at h ⊢; rw [← hs 5 rfl, ← hb 5 rfl, ← hx 4 rfl]; exact h
    | 7, h => by dsimp only at h ⊢; rw [← hb 5 rfl, ← hb 28 rfl, ← hx 5 rfl]; exact h
    | 0, _ | 1, _ | 5, _ | _ + 8, _ => trivial
  · refine ⟨?_, ?_, ?_, ?_, ?_, ?_, ?_, trivial⟩
    · exact xs4 rfl id fun cx => run_loadB (n := 1) rfl (by kernel_rfl) (by kernel_rfl) (cx.ou 1) (Blk.ext hb3_1 cx.upd.to_ext) (nle rfl) rfl
    · refine sv_any rfl rfl fun ρ β W X cx => ?_
      refine DoesU.call (run_callF (args := #[.agg #[.slice A14_2 6 6], .slice A21_4 3 c21_4, vi 1]) rfl cx.sees rfl (by kernel_rfl) (map3 (cx.an 0) (cx.an 1) (cx.co _))) ?_
      refine (rdo9_n (es := es1s) (List.length_replicate ..) (by have := congrArg List.length (rfl : List.map edD es1s = L1s); rw [List.length_map] at this; exact this) (by decide) (hP0.ext cx.upd.to_ext) (by rw [← edD_cells, (rfl : List.map edD es1s = L1s)]; exact (At.of_ownN (cx.ri 1 rfl))) (by first | omega | decide) es1s_desc ⟨by decide, by decide⟩ (by rw [(rfl : List.map absP (List.replicate 6 p0) = H0s)]; exact H0s_ok) (by rw [(rfl : List.map absP (List.replicate 6 p0) = H0s)]; exact H1s_do.1)).mono ?_
      rintro e W1 ⟨A4, c4, fp4, rfl, hc⟩
      refine ⟨_, rfl, post_st [eDo (List.replicate 6 p0) H1s 6 A4 fp4] rfl rfl hc (fun σ β' X' hs hb hv hN => ?_)⟩
      have hv1 := (hv 28 rfl).1; have hv2 := (hv 28 rfl).2
      exact ⟨hv1.trans (by rw [hv2]; rfl), (by rw [hv2]; exact eDo_self ((List.cons.inj hN).1))⟩
    · exact sv rfl rfl rfl rfl rfl _ (fun _ _ _ h => h) (fun β β' h => by rw [h 28 (by decide)]) fun ρ β W X cx => run_move' rfl (dTn (cx.an 2)).1
    · exact sv rfl rfl rfl rfl rfl _ (fun _ _ _ h => h) (fun β β' h => by rw [h 28 (by decide)]) fun ρ β W X cx => run_extract' rfl (dTn (cx.an 3)) rfl
    · exact xs4 rfl id fun cx => run_extract' rfl (dTn (cx.an 3)) rfl
    · refine sv_any rfl rfl fun ρ β W X cx => ?_
      exact dv_alloc (cs := #[.slice none 0 0]) rfl (by kernel_rfl) rfl rfl (fun σ β' X' hs hb hv hx => ⟨hv, hx⟩)
    · refine sv_any rfl rfl fun ρ β W X cx => ?_
      exact dv_store (n := 1) rfl (dTn (cx.an 6)).1 (dTn (cx.an 4)) (by kernel_rfl) (by kernel_rfl) (by kernel_rfl) cx (dTn (cx.an 6)).2 rfl (nle rfl) (by kernel_rfl) rfl rfl rfl (fun σ β' X' hs hb hx => by rw [hb 5, hb 28]; exact hx)
  intro σ β X W5 hD hst5 fr hfr
  obtain ⟨A28_5, hu_A28_5⟩ : ∃ z, sA (tg (tg (β 28) 0) 0) = z := ⟨_, rfl⟩
  obtain ⟨c28_5, hu_c28_5⟩ : ∃ z, sC (tg (tg (β 28) 0) 0) = z := ⟨_, rfl⟩
  obtain ⟨B5_5, hu_B5_5⟩ : ∃ z, pb (β 5) = z := ⟨_, rfl⟩
  have xX3 : X 3 = _ := (dTn (hD 2 lq)).2
  obtain ⟨r3_5, hu_r3_5⟩ : ∃ z, (X 3).fp = z := ⟨_, rfl⟩
  rw [hu_r3_5] at xX3
  clear hu_r3_5
  simp only [xX3, exq 5 ((dTn (hD 7 lq))), hu_A28_5, hu_c28_5, hu_B5_5] at hst5
  simp only [ed 28 ((dTn (hD 2 lq)).1), ed 25 ((dTn (hD 3 lq))), ed 29 ((dTn (hD 4 lq))), ed 5 ((dTn (hD 6 lq)).1), hu_A28_5, hu_c28_5, hu_B5_5] at hfr
  clear hD xX3 hu_A28_5 hu_c28_5 hu_B5_5; subst hfr; clear σ β X
  refine then_normal (wp_seq (wp_seq ?_))
  have hx6_ := hst5.ext
  have hX6_ := hx3_.trans hx6_
  have hB6_0 := Blk.ext hb3_1 hx6_
  have hb6_2 := hst5.blk 2 rfl
  have hb6_4 := hst5.blk 4 rfl
  have hA6_0 := ha3_0.ext hx6_
  have ha6_0 := At.of_ownN ((hst5.get 0 rfl).holds : World.ownsRow _ 0 82 3 (.slice A19_4 1 1) 1 (flatR [(1, 1, ByteArray.empty)]))
  have ha6_1 := At.of_ownN ((hst5.get 1 rfl).holds : World.ownsRow _ 0 99 3 (.slice A21_4 3 c21_4) 3 (L1s.flatMap cellsE))
  have hN_6 := hN_3.ext hx6_
  have hP0_6 := hP0.ext hx6_
  obtain ⟨Ps7_, hH7_, hP7_⟩ := eDo_at ((hst5.get 3 rfl).holds) hP0_6 H1s_ok (by rw [H1s_len]; decide)
  have hl7_ : Ps7_.length = 6 := by have := congrArg List.length hH7_; rw [List.length_map, H1s_len] at this; exact this
  have hS6_ := St.start W5
  clear hst5
  refine wp_region_Z [0, 1, 3, 7, 15, 31, 63, 127, 127, 511, 1023, 2047, 4095, 8191, 16383, 32767] [] [.k 31 (vi 0), .k 32 (.bool false), .k 33 (.bool false), .k 34 (.bool true), .k 35 (.bool false), .k 36 (.bool false), .k 37 (.bool false), .c 38 (.agg #[vi 5, vi 1]), .k 39 (.agg #[vi 5, vi 1]), .c 40 (.bool false), .k 41 (.bool false), .k 42 (.bool false), .k 43 (.slice A21_4 3 c21_4), .k 44 (vi 3), .k 45 (.bool false), .k 46 (.bool false)] [] [7, 9] [(31, 0, 16, 47)] hS6_ ?_ fun W8 hst8 => ?_
  · refine ⟨?_, ?_, trivial⟩
    · exact xs5 rfl id (fun cx => (cx.an 6)) fun cx => run_loadB (n := 2) rfl (by kernel_rfl) (by kernel_rfl) (cx.ou 2) (Blk.ext hb6_2 cx.upd.to_ext) (nle rfl) rfl
    · exact xs5 rfl id (fun cx => (cx.an 6)) fun cx => run_neT rfl (cx.an 7) (cx.an 8) (by decide)
  refine then_normal (wp_cond_false (show Act.eval _ _ = .bool false from rfl) (wp_skip (then_normal (wp_seq (wp_region_Y [0, 1, 0, 0, 0, 31, 63, 127, 127, 127, 127, 0, 2303, 6655, 15359, 32767] [[], [], [], [], [], [0, 1], [], [], [], [], [], [], [3]] [[], [], [0], [], [1], [2], [], [], [], [], [], [3], [4]] [[], [], [], [], [], [], [], [], [], [], [], [], [3]] [.c 48 (.agg #[.slice A28_5 6 c28_5]), .c 49 (.iface 30 (.agg #[.slice A28_5 6 c28_5])), .a 50, .c 51 (.agg #[vi 5, vi 1]), .a 52, .a 53, .a 47, .c 54 (.agg #[vi 5, vi 2]), .c 55 (.bool true), .a 56, .c 57 (vi 0), .a 7, .n, .k 8 (.bool true), .a 9, .k 10 (vi 0)] (fun ix σ β X => match ix with | 0 => True | 1 => True | 2 => σ 50 = .slice (sA (β 50)) 1 1 ∧ X 0 = eO 3 1 (.slice (sA (β 50)) 1 1) 1 ([vi 5]) | 3 => True | 4 => σ 52 = .slice (sA (β 52)) 1 1 ∧ X 1 = eO 82 3 (.slice (sA (β 52)) 1 1) 1 (flatR [(1, 2, ByteArray.empty)]) | 5 => σ 53 = .tuple #[.agg #[vi 5, vi 2], .bool true, .slice (sA (tg (β 53) 2)) 2 (sC (tg (β 53) 2)), vi 0] ∧ X 2 = eO 99 3 (.slice (sA (tg (β 53) 2)) 2 (sC (tg (β 53) 2))) 2 (L2s.flatMap cellsE) | 6 => σ 47 = .tuple #[.agg #[vi 5, vi 2], .bool true, .slice (sA (tg (β 53) 2)) 2 (sC (tg (β 53) 2)), vi 0] | 7 => True | 8 => True | 9 => σ 56 = .slice (sA (tg (β 53) 2)) 2 (sC (tg (β 53) 2)) | 10 => True | 11 => σ 7 = vp (pb (β 7)) ∧ X 3 = eB (pb (β 7)) 24 #[vi 0, vi 0] | 12 => X 4 = eB (pb (β 7)) 24 #[vi 5, vi 2] | 13 => True | 14 => σ 9 = .slice (sA (tg (β 53) 2)) 2 (sC (tg (β 53) 2)) | _ => True) [0, 1, 2, 4] [0, 1, 2, 3, 4, 5, 6, 7, 8, 9, 10, 11, 12, 14] [(7, 11, 5, 11), (36, 6, 1, 37), (0, 0, 6, 6), (0, 7, 4, 4)] hst8 ?_ ?_ ?_)))))
  · exact fun ix _ _ _ _ _ _ hs hb hx h => match ix, h with
    | 2, h => by dsimp only at h ⊢; rw [← hs 50 rfl, ← hb 50 rfl, ← hx 0 rfl]; exact h
    | 4, h => by dsimp only at h ⊢; rw [← hs 52 rfl, ← hb 52 rfl, ← hx 1 rfl]; exact h
    | 5, h => by dsimp only at h ⊢; rw [← hs 53 rfl, ← hb 53 rfl, ← hx 2 rfl]; exact h
    | 6, h => by dsimp only at h ⊢; rw [← hs 47 rfl, ← hb 53 rfl]; exact h
    | 9, h => by dsimp only at h ⊢; rw [← hs 56 rfl, ← hb 53 rfl]; exact h
    | 11, h => by dsimp only at h ⊢; rw [← hs 7 rfl, ← hb 7 rfl, ← hx 3 rfl]; exact h
    | 12, h => by dsimp only at h ⊢; rw [← hb 7 rfl, ← hx 4 rfl]; exact h
    | 14, h => by dsimp only at h ⊢; rw [← hs 9 rfl, ← hb 53 rfl]; exact h
    | 0, _ | 1, _ | 3, _ | 7, _ | 8, _ | 10, _ | 13, _ | _ + 15, _ => trivial
  · refine ⟨?_, ?_, ?_, ?_, ?_, ?_, ?_, ?_, ?_, ?_, ?_, ?_, ?_, ?_, trivial⟩
    · exact xs4 rfl id fun cx => run_loadB (n := 1) rfl (by kernel_rfl) (by kernel_rfl) (cx.ou 5) (Blk.ext hb6_4 cx.upd.to_ext) (nle rfl) rfl
    · exact sv0 rfl rfl rfl rfl rfl (fun _ _ _ h => h) fun ρ β W X cx => by
        have fF48 : ρ (.tmp 48) = .agg #[.slice A28_5 6 c28_5] := (cx.an 0)
        simp [go_sem, fF48]
    · refine sv_any rfl rfl fun ρ β W X cx => ?_
      exact dv_lit (e := 3) (xs := [vi 5]) rfl (by simp [go_sem, cx.sees.const]) rfl (by decide) rfl rfl (fun σ β' X' hs hb hv hx => ⟨hv, hx⟩)
    · exact xs4 rfl id fun cx => run_loadB (n := 2) rfl (by kernel_rfl) (by kernel_rfl) (cx.ou 2) (Blk.ext hb6_2 cx.upd.to_ext) (nle rfl) rfl
    · refine sv_any rfl rfl fun ρ β W X cx => ?_
      refine DoesU.call (run_callF (args := #[vi 2]) rfl cx.sees rfl (by kernel_rfl) (map1 (cx.co _))) ?_
      refine (whole09_any 2 _).mono ?_
      rintro e W1 ⟨A4, rfl, ho, hx⟩
      refine ⟨_, rfl, post_call [eO 82 3 (.slice A4 1 1) 1 (flatR [(1, 2, ByteArray.empty)])] rfl rfl hx (one_new (eO_new ho)) (List.pairwise_singleton _ _) (fun σ β' X' hs hb hv hN => ?_)⟩
      have hv1 := (hv 52 rfl).1; have hv2 := (hv 52 rfl).2
      exact ⟨hv1.trans (by rw [hv2]; rfl), (by rw [hv2]; exact (List.cons.inj hN).1)⟩
    · refine sv_any rfl rfl fun ρ β W X cx => ?_
      refine DoesU.call (run_callF (args := #[.iface 30 (.agg #[.slice A28_5 6 c28_5]), .slice (sA (β 50)) 1 1, vi (-1), vi 3, .agg #[vi 5, vi 1], vi 8, .slice (sA (β 52)) 1 1, .bool true]) rfl cx.sees rfl (by kernel_rfl) (map8 (cx.an 1) (dTn (cx.an 2)).1 (cx.co _) (cx.co _) (cx.an 3) (cx.co _) (dTn (cx.an 4)).1 (cx.co _))) ?_
      refine (upd_eq upd_s1 (hupdate_any _ _ (pvL H1s) _ _ [5] (-1) 3 5 1 8 _ _ [(1, 2, ByteArray.empty)] true _ (pgs_ok (hP7_.ext cx.upd.to_ext) hl7_ hH7_) (At.of_own (cx.row (dTn (cx.an 2)).2 rfl)) (by decide) (At.of_ownN (cx.row (dTn (cx.an 4)).2 rfl)) (by decide) (hN_6.ext cx.upd.to_ext))).mono ?_
      rintro e W1 ⟨A4, c4, rfl, ho_, hx⟩
      refine ⟨_, rfl, post_call [eO 99 3 (.slice A4 2 c4) 2 (L2s.flatMap cellsE)] rfl rfl hx (one_new (eO_new (n := 2) (xs := L2s.flatMap cellsE) ho_)) (List.pairwise_singleton _ _) (fun σ β' X' hs hb hv hN => ?_)⟩
      have hv1 := (hv 53 rfl).1; have hv2 := (hv 53 rfl).2
      exact ⟨hv1.trans (by rw [hv2]; rfl), (by rw [hv2]; exact (List.cons.inj hN).1)⟩
    · exact sv rfl rfl rfl rfl rfl _ (fun _ _ _ h => h) (fun β β' h => by rw [h 53 (by decide)]) fun ρ β W X cx => run_move' rfl (dTn (cx.an 5)).1
    · exact xs4 rfl id fun cx => run_extract' rfl (dTn (cx.an 6)) rfl
    · exact xs4 rfl id fun cx => run_extract' rfl (dTn (cx.an 6)) rfl
    · exact sv rfl rfl rfl rfl rfl _ (fun _ _ _ h => h) (fun β β' h => by rw [h 53 (by decide)]) fun ρ β W X cx => run_extract' rfl (dTn (cx.an 6)) rfl
    · exact xs4 rfl id fun cx => run_extract' rfl (dTn (cx.an 6)) rfl
    · refine sv_any rfl rfl fun ρ β W X cx => ?_
      exact dv_alloc (cs := #[vi 0, vi 0]) rfl (by kernel_rfl) rfl rfl (fun σ β' X' hs hb hv hx => ⟨hv, hx⟩)
    · refine sv_any rfl rfl fun ρ β W X cx => ?_
      exact dv_store (n := 2) rfl (dTn (cx.an 11)).1 (cx.an 7) (by kernel_rfl) (by kernel_rfl) (by kernel_rfl) cx (dTn (cx.an 11)).2 rfl (nle rfl) (by kernel_rfl) rfl rfl rfl (fun σ β' X' hs hb hx => by rw [hb 7]; exact hx)
    · exact sv rfl rfl rfl rfl rfl _ (fun _ _ _ h => h) (fun β β' h => by rw [h 53 (by decide)]) fun ρ β W X cx => run_assign' rfl (dTn (cx.an 9))
  intro σ β X W9 hD hst9 fr hfr
  obtain ⟨A50_9, hu_A50_9⟩ : ∃ z, sA (β 50) = z := ⟨_, rfl⟩
  obtain ⟨A52_9, hu_A52_9⟩ : ∃ z, sA (β 52) = z := ⟨_, rfl⟩
  obtain ⟨A53_9, hu_A53_9⟩ : ∃ z, sA (tg (β 53) 2) = z := ⟨_, rfl⟩
  obtain ⟨c53_9, hu_c53_9⟩ : ∃ z, sC (tg (β 53) 2) = z := ⟨_, rfl⟩
  obtain ⟨B7_9, hu_B7_9⟩ : ∃ z, pb (β 7) = z := ⟨_, rfl⟩
  simp only [exq 0 ((dTn (hD 2 lq)).2), exq 1 ((dTn (hD 4 lq)).2), exq 2 ((dTn (hD 5 lq)).2), exq 4 ((dTn (hD 12 lq))), hu_A50_9, hu_A52_9, hu_A53_9, hu_c53_9, hu_B7_9] at hst9
  simp only [ed 50 ((dTn (hD 2 lq)).1), ed 52 ((dTn (hD 4 lq)).1), ed 53 ((dTn (hD 5 lq)).1), ed 47 ((dTn (hD 6 lq))), ed 56 ((dTn (hD 9 lq))), ed 7 ((dTn (hD 11 lq)).1), ed 9 ((dTn (hD 14 lq))), hu_A50_9, hu_A52_9, hu_A53_9, hu_c53_9, hu_B7_9] at hfr
  clear hD hu_A50_9 hu_A52_9 hu_A53_9 hu_c53_9 hu_B7_9; subst hfr; clear σ β X
  refine then_normal (wp_seq ?_)
  obtain ⟨H2, es2, hem2, hed2, hdo2, hok2, hl2, hch⟩ := H2s
  refine wp_region_Y [0, 0, 3, 7, 15, 15, 0, 95, 255] [[], [], [2], [], [], [], [], [5]] [[], [], [4], [], [], [], [5], [6]] [[], [], [], [], [], [], [], [5]] [.c 59 (.agg #[.slice A28_5 6 c28_5]), .k 60 (.slice A53_9 2 c53_9), .a 61, .a 58, .a 62, .c 63 (.bool true), .a 11, .n, .k 12 (.bool true)] (fun ix σ β X => match ix with | 0 => True | 1 => True | 2 => σ 61 = .tuple #[.agg #[.slice (sA (tg (tg (β 61) 0) 0)) 6 (sC (tg (tg (β 61) 0) 0))], .bool true] ∧ X 4 = eDo Ps7_ H2 6 (sA (tg (tg (β 61) 0) 0)) ((X 4).fp) | 3 => σ 58 = .tuple #[.agg #[.slice (sA (tg (tg (β 61) 0) 0)) 6 (sC (tg (tg (β 61) 0) 0))], .bool true] | 4 => σ 62 = .agg #[.slice (sA (tg (tg (β 61) 0) 0)) 6 (sC (tg (tg (β 61) 0) 0))] | 5 => True | 6 => σ 11 = vp (pb (β 11)) ∧ X 5 = eB (pb (β 11)) 30 #[.slice none 0 0] | 7 => X 6 = eB (pb (β 11)) 30 #[.slice (sA (tg (tg (β 61) 0) 0)) 6 (sC (tg (tg (β 61) 0) 0))] | _ => True) [0, 1, 2, 3, 4, 6] [0, 2, 3, 4, 5, 6, 7] [(11, 6, 3, 13), (45, 3, 1, 46), (0, 0, 3, 3), (0, 4, 2, 2)] hst9 ?_ ?_ ?_
  · exact fun ix _ _ _ _ _ _ hs hb hx h => match ix, h with
    | 2, h => by dsimp only at h ⊢; rw [← hs 61 rfl, ← hb 61 rfl, ← hx 4 rfl]; exact h
    | 3, h => by dsimp only at h ⊢; rw [← hs 58 rfl, ← hb 61 rfl]; exact h
    | 4, h => by dsimp only at h ⊢; rw [← hs 62 rfl, ← hb 61 rfl]; exact h
    | 6, h => by dsimp only at h ⊢; rw [← hs 11 rfl, ← hb 11 rfl, ← hx 5 rfl]; exact h
    | 7, h => by dsimp only at h ⊢; rw [← hb 11 rfl, ← hb 61 rfl, ← hx 6 rfl]; exact h
    | 0, _ | 1, _ | 5, _ | _ + 8, _ => trivial
  · refine ⟨?_, ?_, ?_, ?_, ?_, ?_, ?_, trivial⟩
    · exact xs4 rfl id fun cx => run_loadB (n := 1) rfl (by kernel_rfl) (by kernel_rfl) (cx.ou 5) (Blk.ext hb6_4 cx.upd.to_ext) (nle rfl) rfl
    · refine sv_any rfl rfl fun ρ β W X cx => ?_
      refine DoesU.call (run_callF (args := #[.agg #[.slice A28_5 6 c28_5], .slice A53_9 2 c53_9, vi 2]) rfl cx.sees rfl (by kernel_rfl) (map3 (cx.an 0) (cx.an 1) (cx.co _))) ?_
      refine (rdo9_n (es := es2) hl7_ (by have := congrArg List.length (hem2 : List.map edD es2 = L2s); rw [List.length_map] at this; exact this) (by decide) (hP7_.ext cx.upd.to_ext) (by rw [← edD_cells, (hem2 : List.map edD es2 = L2s)]; exact (At.of_ownN (cx.ri 2 rfl))) (by first | omega | decide) hed2 ⟨by decide, by decide⟩ (by rw [(hH7_ : List.map absP Ps7_ = H1s)]; exact H1s_ok) (by rw [(hH7_ : List.map absP Ps7_ = H1s)]; exact hdo2)).mono ?_
      rintro e W1 ⟨A4, c4, fp4, rfl, hc⟩
      refine ⟨_, rfl, post_st [eDo Ps7_ H2 6 A4 fp4] rfl rfl hc (fun σ β' X' hs hb hv hN => ?_)⟩
      have hv1 := (hv 61 rfl).1; have hv2 := (hv 61 rfl).2
      exact ⟨hv1.trans (by rw [hv2]; rfl), (by rw [hv2]; exact eDo_self ((List.cons.inj hN).1))⟩
    · exact sv rfl rfl rfl rfl rfl _ (fun _ _ _ h => h) (fun β β' h => by rw [h 61 (by decide)]) fun ρ β W X cx => run_move' rfl (dTn (cx.an 2)).1
    · exact sv rfl rfl rfl rfl rfl _ (fun _ _ _ h => h) (fun β β' h => by rw [h 61 (by decide)]) fun ρ β W X cx => run_extract' rfl (dTn (cx.an 3)) rfl
    · exact xs4 rfl id fun cx => run_extract' rfl (dTn (cx.an 3)) rfl
    · refine sv_any rfl rfl fun ρ β W X cx => ?_
      exact dv_alloc (cs := #[.slice none 0 0]) rfl (by kernel_rfl) rfl rfl (fun σ β' X' hs hb hv hx => ⟨hv, hx⟩)
    · refine sv_any rfl rfl fun ρ β W X cx => ?_
      exact dv_store (n := 1) rfl (dTn (cx.an 6)).1 (dTn (cx.an 4)) (by kernel_rfl) (by kernel_rfl) (by kernel_rfl) cx (dTn (cx.an 6)).2 rfl (nle rfl) (by kernel_rfl) rfl rfl rfl (fun σ β' X' hs hb hx => by rw [hb 11, hb 61]; exact hx)
  intro σ β X W10 hD hst10 fr hfr
  obtain ⟨A61_10, hu_A61_10⟩ : ∃ z, sA (tg (tg (β 61) 0) 0) = z := ⟨_, rfl⟩
  obtain ⟨c61_10, hu_c61_10⟩ : ∃ z, sC (tg (tg (β 61) 0) 0) = z := ⟨_, rfl⟩
  obtain ⟨B11_10, hu_B11_10⟩ : ∃ z, pb (β 11) = z := ⟨_, rfl⟩
  have xX4 : X 4 = _ := (dTn (hD 2 lq)).2
  obtain ⟨r4_10, hu_r4_10⟩ : ∃ z, (X 4).fp = z := ⟨_, rfl⟩
  rw [hu_r4_10] at xX4
  clear hu_r4_10
  simp only [xX4, exq 6 ((dTn (hD 7 lq))), hu_A61_10, hu_c61_10, hu_B11_10] at hst10
  simp only [ed 61 ((dTn (hD 2 lq)).1), ed 58 ((dTn (hD 3 lq))), ed 62 ((dTn (hD 4 lq))), ed 11 ((dTn (hD 6 lq)).1), hu_A61_10, hu_c61_10, hu_B11_10] at hfr
  clear hD xX4 hu_A61_10 hu_c61_10 hu_B11_10; subst hfr; clear σ β X
  refine then_normal (wp_seq ?_)
  have hx11_ := hst10.ext
  have hX11_ := hX6_.trans hx11_
  have hB11_0 := Blk.ext hB6_0 hx11_
  have hB11_1 := Blk.ext hb6_2 hx11_
  have hB11_2 := Blk.ext hb6_4 hx11_
  have hb11_3 := hst10.blk 3 rfl
  have hb11_5 := hst10.blk 5 rfl
  have hA11_0 := hA6_0.ext hx11_
  have hA11_1 := ha6_0.ext hx11_
  have hA11_2 := ha6_1.ext hx11_
  have ha11_0 := At.of_own ((hst10.get 0 rfl).holds : World.ownsRow _ 0 3 1 (.slice A50_9 1 1) 1 ([vi 5]))
  have ha11_1 := At.of_ownN ((hst10.get 1 rfl).holds : World.ownsRow _ 0 82 3 (.slice A52_9 1 1) 1 (flatR [(1, 2, ByteArray.empty)]))
  have ha11_2 := At.of_ownN ((hst10.get 2 rfl).holds : World.ownsRow _ 0 99 3 (.slice A53_9 2 c53_9) 2 (L2s.flatMap cellsE))
  have hN_11 := hN_6.ext hx11_
  have hP0_11 := hP0_6.ext hx11_
  have hP7__11 := hP7_.ext hx11_
  obtain ⟨Ps12_, hH12_, hP12_⟩ := eDo_at ((hst10.get 4 rfl).holds) hP7__11 hok2 (by rw [hl2]; decide)
  have hl12_ : Ps12_.length = 6 := by have := congrArg List.length hH12_; rw [List.length_map, hl2] at this; exact this
  have hS11_ := St.start W10
  clear hst10
  refine wp_region_Y [0, 1, 0, 7, 15] [] [[], [], [], [0]] [] [.c 64 (.agg #[.slice A61_10 6 c61_10]), .c 65 (.iface 30 (.agg #[.slice A61_10 6 c61_10])), .c 66 (.agg #[vi 5, vi 1]), .a 67, .a 13] (fun ix σ β X => match ix with | 0 => True | 1 => True | 2 => True | 3 => σ 67 = .slice (sA (β 67)) 2 (sC (β 67)) ∧ X 0 = eFnd 78 (.slice (sA (β 67)) 2 (sC (β 67))) [(1, (7, 8, 5, 2, false, [(1, 1, ByteArray.empty)])), (2, V2)] 5 | 4 => σ 13 = .slice (sA (β 67)) 2 (sC (β 67)) | _ => True) [0] [0, 1, 2, 3, 4] [(13, 4, 1, 14), (50, 0, 4, 54)] hS11_ ?_ ?_ ?_
  · exact fun ix _ _ _ _ _ _ hs hb hx h => match ix, h with
    | 3, h => by dsimp only at h ⊢; rw [← hs 67 rfl, ← hb 67 rfl, ← hx 0 rfl]; exact h
    | 4, h => by dsimp only at h ⊢; rw [← hs 13 rfl, ← hb 67 rfl]; exact h
    | 0, _ | 1, _ | 2, _ | _ + 5, _ => trivial
  · refine ⟨?_, ?_, ?_, ?_, ?_, trivial⟩
    · exact xs4 rfl id fun cx => run_loadB (n := 1) rfl (by kernel_rfl) (by kernel_rfl) (cx.ou 11) (Blk.ext hb11_5 cx.upd.to_ext) (nle rfl) rfl
    · exact sv0 rfl rfl rfl rfl rfl (fun _ _ _ h => h) fun ρ β W X cx => by
        have fF64 : ρ (.tmp 64) = .agg #[.slice A61_10 6 c61_10] := (cx.an 0)
        simp [go_sem, fF64]
    · exact xs4 rfl id fun cx => run_loadB (n := 2) rfl (by kernel_rfl) (by kernel_rfl) (cx.ou 2) (Blk.ext hB11_1 cx.upd.to_ext) (nle rfl) rfl
    · refine sv_any rfl rfl fun ρ β W X cx => ?_
      refine DoesU.call (run_callF (args := #[.iface 30 (.agg #[.slice A61_10 6 c61_10]), .agg #[vi 5, vi 1]]) rfl cx.sees rfl (by kernel_rfl) (map2 (cx.an 1) (cx.an 2))) ?_
      refine (lp_eq hch (hchain_any _ _ (pvL H2) 5 1 _ (pgs_ok (hP12_.ext cx.upd.to_ext) hl12_ hH12_) (hN_11.ext cx.upd.to_ext) (by decide))).mono ?_
      rintro e W1 ⟨A4, c4, ks4, hks4, rfl, ho_, hx⟩
      refine ⟨_, rfl, post_call [eFnd 78 (.slice A4 2 c4) [(1, (7, 8, 5, 2, false, [(1, 1, ByteArray.empty)])), (2, V2)] 5] rfl rfl hx (one_new (eFnd_new hks4 ho_)) (List.pairwise_singleton _ _) (fun σ β' X' hs hb hv hN => ?_)⟩
      have hv1 := (hv 67 rfl).1; have hv2 := (hv 67 rfl).2
      exact ⟨hv1.trans (by rw [hv2]; rfl), (by rw [hv2]; exact (List.cons.inj hN).1)⟩
    · exact sv rfl rfl rfl rfl rfl _ (fun _ _ _ h => h) (fun β β' h => by rw [h 67 (by decide)]) fun ρ β W X cx => run_assign' rfl (dTn (cx.an 3)).1
  intro σ β X W13 hD hst13 fr hfr
  obtain ⟨A67_13, hu_A67_13⟩ : ∃ z, sA (β 67) = z := ⟨_, rfl⟩
  obtain ⟨c67_13, hu_c67_13⟩ : ∃ z, sC (β 67) = z := ⟨_, rfl⟩
  simp only [exq 0 ((dTn (hD 3 lq)).2), hu_A67_13, hu_c67_13] at hst13
  simp only [ed 67 ((dTn (hD 3 lq)).1), ed 13 ((dTn (hD 4 lq))), hu_A67_13, hu_c67_13] at hfr
  clear hD hu_A67_13 hu_c67_13; subst hfr; clear σ β X
  refine then_normal (wp_seq ?_)
  obtain ⟨ks, hks, hKO⟩ := (hst13.get 0 rfl).holds
  have hm14 := St.repl (L1 := []) (L2 := []) (E' := eO 78 8 (.slice A67_13 2 c67_13) 2 (ks.flatMap (cellsF 5))) hst13 rfl (fun _ => hKO) (eO_loc _ _ _ _ _)
  simp only [List.cons_append, List.nil_append] at hm14
  have hkl : ks.length = 2 := ks_len hks
  have hk0 := ks_at (m := 0) hks (by decide)
  have hk1 := ks_at (m := 1) hks (by decide)
  have hd16 : (5 == 5 && ((ks.getD 1 fk0).1.1 : Int) == 2) = true := (by rw [hk1]; rfl)
  have hd17 : (((ks.getD 0 fk0).1.2.2.1) == 8) = true := (by rw [hk0]; rfl)
  refine wp_region_Z [0, 1, 3, 7, 15, 31, 63, 127, 255, 511, 511, 2047, 4095, 8191, 16383, 32767, 65535, 131071, 262143, 524287, 1048575, 2097151, 4194303, 524287, 16777215, 33554431, 67108863, 134217727, 268435455, 536870911, 1073741823, 2147483647, 4294967295, 8589934591, 17179869183] [[], [], [], [], [], [], [], [], [], [], [], [], [], [], [], [], [], [], [], [], [0], [], [0], [], [], [], [], [], [0], [], [], [0]] [.k 68 (vi 0), .k 69 (.bool true), .k 70 (.bool true), .k 71 (.bool true), .k 72 (.bool true), .k 73 (.bool true), .k 74 (.bool true), .k 75 (.bool true), .k 76 (.bool true), .c 77 (.agg #[vi 5, vi 2]), .k 78 (.agg #[vi 5, vi 2]), .c 79 (.bool true), .k 80 (.bool true), .k 81 (.bool true), .k 82 (.slice A67_13 2 c67_13), .k 83 (vi 2), .k 84 (.bool true), .k 85 (.bool true), .k 86 (.bool true), .k 87 (.slice A67_13 2 c67_13), .c 88 (.pointer (some ((ad A67_13).add (1 * 8)))), .c 89 (.pointer (some ((ad A67_13).add (1 * 8 + 0)))), .c 90 (.agg #[vi 5, vi (((ks.getD 1 fk0).1.1 : Int))]), .c 91 (.agg #[vi 5, vi 2]), .c 92 (.bool true), .k 93 (.bool true), .k 94 (.bool true), .k 95 (.slice A67_13 2 c67_13), .c 96 (.pointer (some ((ad A67_13).add (0 * 8)))), .c 97 (.pointer (some ((ad A67_13).add (0 * 8 + 2)))), .c 98 (.pointer (some ((ad A67_13).add (0 * 8 + 2 + 1)))), .c 99 (vi ((ks.getD 0 fk0).1.2.2.1)), .e 100 (.bool (((ks.getD 0 fk0).1.2.2.1) == 8)) (.bool true) (congrArg Value.bool hd17), .k 101 (.bool true), .k 0 (.bool true)] [0] [9, 11, 20, 21, 22, 23, 24, 28, 29, 30, 31] [(0, 34, 1, 1), (67, 0, 34, 101)] hm14 ?_ fun W15 hst15 => ?_
  · refine ⟨?_, ?_, ?_, ?_, ?_, ?_, ?_, ?_, ?_, ?_, ?_, trivial⟩
    · exact xs5 rfl id (fun cx => (cx.an 8)) fun cx => run_loadB (n := 2) rfl (by kernel_rfl) (by kernel_rfl) (cx.ou 7) (Blk.ext hb11_3 cx.upd.to_ext) (nle rfl) rfl
    · exact xs5 rfl id (fun cx => (cx.an 8)) fun cx => run_eqT rfl (cx.an 9) (cx.an 10) (by decide)
    · exact xs5 rfl id (fun cx => (cx.an 18)) fun cx => run_indexSlM (e := 78) (m := 1) (sz := 8) rfl (by kernel_rfl) (by kernel_rfl) (cx.an 19) (cx.co _) (by omega) (by omega) (At.of_ownN (cx.ri 0 rfl)) (by have h_ := flatLen (f := (cellsF 5)) (sz := 8) (cellsF_len 5) ks; show 0 < (List.flatMap (cellsF 5) ks).length; omega)
    · exact xs5 rfl id (fun cx => (cx.an 18)) fun cx => run_fieldAd rfl (by kernel_rfl) (cx.an 20)
    · exact xs5 rfl id (fun cx => (cx.an 18)) fun cx => run_loadElt (f := (cellsF 5)) (m := 1) (sz := 8) (off := 0) (n := 2) rfl (by kernel_rfl) (by kernel_rfl) (cx.an 21) rfl (cellsF_len 5) (At.of_ownN (cx.ri 0 rfl)) (getD_some (ts := ks) (m := 1) fk0 (by omega)) (fun k hk => match k, hk with | 0, _ => rfl | 1, _ => rfl | k + 2, hk => absurd hk (by omega))
    · exact xs5 rfl id (fun cx => (cx.an 18)) fun cx => run_loadB (n := 2) rfl (by kernel_rfl) (by kernel_rfl) (cx.ou 7) (Blk.ext hb11_3 cx.upd.to_ext) (nle rfl) rfl
    · exact s5 rfl (fun _ _ _ h => h.trans (congrArg Value.bool hd16)) (fun cx => (cx.an 18)) fun cx => run_eqT rfl (cx.an 22) (cx.an 23) rfl
    · exact xs5 rfl id (fun cx => (cx.an 26)) fun cx => run_indexSlM (e := 78) (m := 0) (sz := 8) rfl (by kernel_rfl) (by kernel_rfl) (cx.an 27) (cx.co _) (by omega) (by omega) (At.of_ownN (cx.ri 0 rfl)) (by have h_ := flatLen (f := (cellsF 5)) (sz := 8) (cellsF_len 5) ks; show 0 < (List.flatMap (cellsF 5) ks).length; omega)
    · exact xs5 rfl id (fun cx => (cx.an 26)) fun cx => run_fieldAd rfl (by kernel_rfl) (cx.an 28)
    · exact xs5 rfl id (fun cx => (cx.an 26)) fun cx => run_fieldAd rfl (by kernel_rfl) (cx.an 29)
    · exact xs5 rfl id (fun cx => (cx.an 26)) fun cx => run_load1 rfl (by kernel_rfl) (cx.an 30) (At.eltc (f := (cellsF 5)) (k := 3) (cellsF_len 5) (At.of_ownN (cx.ri 0 rfl)) (getD_some (ts := ks) (m := 0) fk0 (by omega)) rfl)
  refine then_normal (wp_ret ?_)
  refine bodyPost_ret (v := .bool true) (results_tmp Tryd.results5 rfl) rfl ?_
  exact Ret.bool rfl (hX11_.trans hst15.ext)
end
end Go.Proofs.YtjnplglnnamfdaaDoor
namespace Go.Proofs.YtjnplglnnamfdaaDoor
section
open Go.RowKit
set_option linter.unusedVariables false
set_option linter.unusedSimpArgs false
theorem live_ne {K : List Int} {x st : Int} (h : liveF K x = true) (hs : st = 2 ∨ st = 3) : (K.getD x.toNat 0 == st) = false := by
  unfold liveF at h
  simp only [Bool.or_eq_true, beq_iff_eq] at h
  rw [beq_eq_false_iff_ne]
  omega
set_option maxRecDepth 100000 in
set_option maxHeartbeats 2000000 in
theorem cend_dead (cb : Nat) (lo nx : Int) (K : List Int) (x st : Int) (w : World) (hb : Blk w cb 114 (clockL lo nx K).toArray) (hlo : onF lo = true) (hnx : onF nx = true) (hK : K.length = 128) (hkn : knowsF lo nx x = true) (hs : st = 2 ∨ st = 3) (hlv : liveF K x = false) :
    Calls Tryd.prog 22 #[.pointer (some ⟨cb, 0, none⟩), .int .i64 x, .int .i64 st] w (Ret (.int .i64 41) w) := by
  have st0 := St.lent1 hb
  have hx2 := onF_iff.1 (knows_on hkn)
  go_enter Tryd.func22, Tryd.ntmps22
  have hst0 := st0
  refine wp_seq (wp_region_P [0] [.k 6 (vi 0)] [(6, 0, 1, 7)] hst0 fun W1 hst1 => ?_)
  refine then_normal (wp_seq (wp_seq ?_))
  have hd3 : (decide (st < 2)) = false := (by rw [decide_eq_false_iff_not]; omega)
  have hd4 : (decide (4 < st)) = false := (by rw [decide_eq_false_iff_not]; omega)
  have hd5 : (knowsF lo nx x) = true := hkn
  have hd6 : (liveF K x) = false := hlv
  refine wp_region_Z [0, 1, 3, 7, 15, 31, 63, 127, 127, 511, 1023, 2047, 4095, 8191, 8191, 32767, 65535, 131071, 262143, 524287, 524287, 1048575, 3145727, 8388607, 16777215, 33554431, 524287, 134217727, 268435455] [[], [], [], [], [], [], [], [], [], [0], [], [], [], [], [], [0]] [.k 9 (vi st), .e 10 (.bool (decide (st < 2))) (.bool false) (congrArg Value.bool hd3), .k 11 (.bool false), .k 12 (vi st), .e 13 (.bool (decide (4 < st))) (.bool false) (congrArg Value.bool hd4), .k 14 (.bool false), .k 15 (.bool false), .k 16 (vp cb), .k 17 (vi x), .c 18 (.bool true), .k 19 (.bool false), .k 20 (.bool false), .k 21 (.bool false), .k 22 (vp cb), .k 23 (vi x), .c 24 (.bool false), .k 25 (.bool true), .k 26 (.bool true), .k 27 (.bool true), .u 28, .u 29, .u 30, .u 31, .u 32, .u 33, .u 34, .u 35, .u 36, .k 37 (.bool true)] [0] [9, 15] [(9, 0, 29, 38)] hst1 ?_ fun W2 hst2 => ?_
  · refine ⟨?_, ?_, trivial⟩
    · exact sv_call_on rfl rfl rfl rfl rfl rfl (fun _ _ _ h => h.trans (congrArg Value.bool hd5)) (fun _ _ _ _ cx => (cx.an 6)) fun ρ β W X cx => ⟨_, _, run_callF (args := #[vp cb, vi x]) rfl cx.sees rfl (by kernel_rfl) (map2 (cx.an 7) (cx.an 8)), cknows_any _ lo nx K x _ (cx.bi 0 rfl) hlo hnx⟩
    · exact sv_call_on rfl rfl rfl rfl rfl rfl (fun _ _ _ h => h.trans (congrArg Value.bool hd6)) (fun _ _ _ _ cx => (cx.an 12)) fun ρ β W X cx => ⟨_, _, run_callF (args := #[vp cb, vi x]) rfl cx.sees rfl (by kernel_rfl) (map2 (cx.an 13) (cx.an 14)), clive_any _ lo nx K x _ (cx.bi 0 rfl) hK (by omega)⟩
  refine then_normal (wp_cond_true (show Act.eval _ _ = .bool true from rfl) (wp_seq (wp_region_P [0] [.k 6 (vi 41)] [(6, 0, 1, 7)] hst2 fun W7 hst7 => ?_)))
  refine then_normal (wp_ret (then_ret ?_))
  refine bodyPost_ret (v := vi 41) (results_tmp Tryd.results22 rfl) rfl ?_
  exact Ret.int rfl (St.still hst7 hb)
set_option maxRecDepth 100000 in
set_option maxHeartbeats 2000000 in
theorem cend_live (cb : Nat) (lo nx : Int) (K : List Int) (x st : Int) (w : World) (hb : Blk w cb 114 (clockL lo nx K).toArray) (hlo : onF lo = true) (hnx : onF nx = true) (hK : K.length = 128) (hkn : knowsF lo nx x = true) (hs : st = 2 ∨ st = 3) (hlv : liveF K x = true) :
    Calls Tryd.prog 22 #[.pointer (some ⟨cb, 0, none⟩), .int .i64 x, .int .i64 st] w (ClkPost cb (.int .i64 0) (clockL lo nx (K.set x.toNat st)) w) := by
  have st0 := St.lent1 hb
  have hx2 := onF_iff.1 (knows_on hkn)
  go_enter Tryd.func22, Tryd.ntmps22
  have hst0 := st0
  refine wp_seq (wp_region_P [0] [.k 6 (vi 0)] [(6, 0, 1, 7)] hst0 fun W1 hst1 => ?_)
  refine then_normal (wp_seq (wp_seq ?_))
  have hd3 : (decide (st < 2)) = false := (by rw [decide_eq_false_iff_not]; omega)
  have hd4 : (decide (4 < st)) = false := (by rw [decide_eq_false_iff_not]; omega)
  have hd5 : (knowsF lo nx x) = true := hkn
  have hd6 : (liveF K x) = true := hlv
  have hd7 : ((K.getD ((x).toNat) 0) == st) = false := (live_ne hlv hs)
  refine wp_region_Z [0, 1, 3, 7, 15, 31, 63, 127, 127, 511, 1023, 2047, 4095, 8191, 8191, 32767, 65535, 131071, 262143, 524287, 524287, 1048575, 3145727, 8388607, 16777215, 33554431, 524287, 134217727, 268435455] [[], [], [], [], [], [], [], [], [], [0], [], [], [], [], [], [0], [], [], [], [], [], [], [], [], [], [0]] [.k 9 (vi st), .e 10 (.bool (decide (st < 2))) (.bool false) (congrArg Value.bool hd3), .k 11 (.bool false), .k 12 (vi st), .e 13 (.bool (decide (4 < st))) (.bool false) (congrArg Value.bool hd4), .k 14 (.bool false), .k 15 (.bool false), .k 16 (vp cb), .k 17 (vi x), .c 18 (.bool true), .k 19 (.bool false), .k 20 (.bool false), .k 21 (.bool false), .k 22 (vp cb), .k 23 (vi x), .c 24 (.bool true), .k 25 (.bool false), .k 26 (.bool false), .k 27 (.bool false), .k 28 (vp cb), .k 29 (vi x), .k 30 (vp cb), .k 31 (.pointer (some ⟨cb, 2, none⟩)), .c 32 (.pointer (some ⟨cb, 2 + ((x).toNat) * 2, none⟩)), .k 33 (.pointer (some ⟨cb, 2 + ((x).toNat) * 2, none⟩)), .c 34 (vi (K.getD ((x).toNat) 0)), .k 35 (vi st), .e 36 (.bool ((K.getD ((x).toNat) 0) == st)) (.bool false) (congrArg Value.bool hd7), .k 37 (.bool false)] [0] [9, 15, 23, 25] [(9, 0, 29, 38)] hst1 ?_ fun W2 hst2 => ?_
  · refine ⟨?_, ?_, ?_, ?_, trivial⟩
    · exact sv_call_on rfl rfl rfl rfl rfl rfl (fun _ _ _ h => h.trans (congrArg Value.bool hd5)) (fun _ _ _ _ cx => (cx.an 6)) fun ρ β W X cx => ⟨_, _, run_callF (args := #[vp cb, vi x]) rfl cx.sees rfl (by kernel_rfl) (map2 (cx.an 7) (cx.an 8)), cknows_any _ lo nx K x _ (cx.bi 0 rfl) hlo hnx⟩
    · exact sv_call_on rfl rfl rfl rfl rfl rfl (fun _ _ _ h => h.trans (congrArg Value.bool hd6)) (fun _ _ _ _ cx => (cx.an 12)) fun ρ β W X cx => ⟨_, _, run_callF (args := #[vp cb, vi x]) rfl cx.sees rfl (by kernel_rfl) (map2 (cx.an 13) (cx.an 14)), clive_any _ lo nx K x _ (cx.bi 0 rfl) hK (by omega)⟩
    · exact xs5 rfl id (fun cx => (cx.an 18)) fun cx => run_indexArrB (n := 128) (sz := 2) (m := (x).toNat) (q := 2 + ((x).toNat) * 2) rfl (by kernel_rfl) (cx.an 22) (cx.an 20) (by omega) (by omega) (by omega)
    · exact xs5 rfl id (fun cx => (cx.an 18)) fun cx => run_load1 rfl (by kernel_rfl) (cx.an 24) (((cx.bi 0 rfl).cell (2 + ((x).toNat) * 2)).trans ((List.getElem?_toArray ..).trans (clk_st (by omega))))
  refine then_normal (wp_cond_false (show Act.eval _ _ = .bool false from rfl) (wp_skip (then_normal (wp_seq (wp_seq ?_)))))
  have hn8 := St.nilrow hst2 3
  simp only [List.cons_append, List.nil_append] at hn8
  refine wp_region_Y [0, 0, 3, 0, 8, 31, 63, 0] [[], [], [0], [], [], [2, 1]] [[], [], [], [], [2], [3]] [[], [], [], [], [], [1]] [.k 38 (vp cb), .k 39 (vi x), .c 40 (.slice none 0 0), .k 41 (vi x), .a 42, .a 43, .c 44 (vi 1), .k 45 (vi 0)] (fun ix σ β X => match ix with | 0 => True | 1 => True | 2 => True | 3 => True | 4 => σ 42 = .slice (sA (β 42)) 1 1 ∧ X 2 = eO 3 1 (.slice (sA (β 42)) 1 1) 1 ([vi x]) | 5 => σ 43 = .slice (sA (β 43)) 1 (sC (β 43)) ∧ X 3 = eO 3 1 (.slice (sA (β 43)) 1 (sC (β 43))) 1 ([vi x]) | _ => True) [0, 2, 3] [2, 4, 5, 6] [(38, 0, 8, 46)] hn8 ?_ ?_ ?_
  · exact fun ix _ _ _ _ _ _ hs hb hx h => match ix, h with
    | 4, h => by dsimp only at h ⊢; rw [← hs 42 rfl, ← hb 42 rfl, ← hx 2 rfl]; exact h
    | 5, h => by dsimp only at h ⊢; rw [← hs 43 rfl, ← hb 43 rfl, ← hx 3 rfl]; exact h
    | 0, _ | 1, _ | 2, _ | 3, _ | _ + 6, _ => trivial
  · refine ⟨?_, ?_, ?_, ?_, trivial⟩
    · exact xsc rfl id rfl rfl fun cx => ⟨_, cbelow_any _ lo nx K x _ (cx.bi 0 rfl) hlo hnx hK hkn, (map2 (cx.an 0) (cx.an 1))⟩
    · refine sv_any rfl rfl fun ρ β W X cx => ?_
      have fF41 : ρ (.tmp 41) = vi x := (cx.an 3)
      exact dv_lit (e := 3) (xs := [vi x]) rfl (by simp [go_sem, fF41]) rfl (by decide) rfl rfl (fun σ β' X' hs hb hv hx => ⟨hv, hx⟩)
    · refine sv_any rfl rfl fun ρ β W X cx => ?_
      obtain ⟨i0, hi0, hz0, hz1, hz2⟩ := info_parts Tryd.infoInt
      refine dv_append (n := 0) (m := 1) (nm := 1) (xs := []) (news := [vi x]) (xs' := [vi x]) rfl (ty := 22) rfl (by kernel_rfl) hi0 hz0 hz1 hz2 rfl (cx.an 2) cx (cx.init 1 _ rfl) rfl (dTn (cx.an 4)).1 (by first | (simp; done) | (simp; omega)) (At.of_own (cx.row (dTn (cx.an 4)).2 rfl)) (by simp [Value.oneCell']) (by simp only [maxLen]; omega) (by omega) rfl rfl rfl (by omega) (rfl) (fun σ β' X' hs hb hv hx => ?_)
      exact ⟨hv, hx⟩
    · exact xs4 rfl id fun cx => run_len_l (e := 3) rfl (by kernel_rfl) (dTn (cx.an 5)).1
  intro σ β X W9 hD hst9 fr hfr
  obtain ⟨A42_9, hu_A42_9⟩ : ∃ z, sA (β 42) = z := ⟨_, rfl⟩
  obtain ⟨A43_9, hu_A43_9⟩ : ∃ z, sA (β 43) = z := ⟨_, rfl⟩
  obtain ⟨c43_9, hu_c43_9⟩ : ∃ z, sC (β 43) = z := ⟨_, rfl⟩
  simp only [exq 2 ((dTn (hD 4 lq)).2), exq 3 ((dTn (hD 5 lq)).2), hu_A42_9, hu_A43_9, hu_c43_9] at hst9
  simp only [ed 42 ((dTn (hD 4 lq)).1), ed 43 ((dTn (hD 5 lq)).1), hu_A42_9, hu_A43_9, hu_c43_9] at hfr
  clear hD hu_A42_9 hu_A43_9 hu_c43_9; subst hfr; clear σ β X
  refine then_normal (wp_block ?_)
  refine wp_loopN (fun mz az W => ∃ k : Nat, ∃ K2 : List Int, (k = 0 ∧ K2 = K ∨ k = 1 ∧ K2 = K.set x.toNat st) ∧ mz = 1 - k ∧ az = ⟨#[vp cb, vi x, vi st, undef, undef, undef, vi 0, undef, jv az 8, vi st, .bool false, .bool false, vi st, .bool false, .bool false, .bool false, vp cb, vi x, .bool true, .bool false, .bool false, .bool false, vp cb, vi x, .bool true, .bool false, .bool false, .bool false, vp cb, vi x, vp cb, .pointer (some ⟨cb, 2, none⟩), .pointer (some ⟨cb, 2 + ((x).toNat) * 2, none⟩), .pointer (some ⟨cb, 2 + ((x).toNat) * 2, none⟩), vi (K.getD ((x).toNat) 0), vi st, .bool false, .bool false, vp cb, vi x, .slice none 0 0, vi x, .slice A42_9 1 1, .slice A43_9 1 c43_9, vi 1, vi ((k : Int)), jv az 46, jv az 47, jv az 48, jv az 49, jv az 50, jv az 51, jv az 52, jv az 53, jv az 54, jv az 55, jv az 56, jv az 57, jv az 58, jv az 59], []⟩ ∧ St w [cb] [eB cb 114 (clockL lo nx K2).toArray, eO 3 1 (.slice A43_9 1 c43_9) 1 ([vi x])] W) (1 - 0) ?_ ?_
  · -- the loop begins
    have hp11 := hst9.pick [0, 2] (by decide) rfl
    exact ⟨0, K, .inl ⟨rfl, rfl⟩, rfl, (by kernel_rfl), hp11⟩
  rintro n10 a10 W10 ⟨k, K2, hk, rfl, hj_, hst10⟩
  obtain ⟨u10_, hu_⟩ : ∃ z, jv a10 = z := ⟨_, rfl⟩
  rw [hu_] at hj_; clear hu_; subst hj_
  refine wp_seq (wp_region_P [0] [.k 46 (.bool (decide ((k : Int) < 1)))] [(46, 0, 1, 47)] hst10 fun W12 hst12 => ?_)
  refine then_normal (wp_seq ?_)
  rcases Bool.eq_false_or_eq_true (decide ((k : Int) < 1)) with hs13 | hs13
  · skip
    have hs13p : (k : Int) < 1 := by simpa using hs13
    refine wp_cond_true (show Act.eval _ _ = .bool true from (congrArg Value.bool hs13)) (wp_skip (then_normal (wp_seq (wp_block (wp_seq ?_)))))
    obtain ⟨hk0, hK2⟩ : k = 0 ∧ K2 = K := by
      rcases hk with h_ | h_
      · exact h_
      · omega
    subst hk0; rw [hK2] at hst12
    refine wp_region_Z [0, 1, 3] [[1], [1]] [.c 47 (.pointer (some ((ad A43_9).add 0))), .c 48 (vi x), .k 8 (vi x)] [0, 1] [0, 1] [(8, 2, 1, 9), (38, 0, 2, 40)] hst12 ?_ fun W14 hst14 => ?_
    · refine ⟨?_, ?_, trivial⟩
      · exact xs4 rfl id fun cx => run_indexSl (e := 3) (m := 0) rfl (by kernel_rfl) (by kernel_rfl) (cx.ou 43) (cx.ou 45) (by omega) (by omega) (At.of_own (cx.ri 1 rfl)) (by simp)
      · exact xs4 rfl id fun cx => run_load1 rfl (by kernel_rfl) (cx.an 0) (At.cellAd (At.of_own (cx.ri 1 rfl)) rfl)
    refine then_normal (wp_seq (wp_region_Z [0, 0, 3] [[], [], [0]] [.k 49 (vp cb), .k 50 (vi x), .c 51 (.bool true)] [0, 1] [2] [(49, 0, 3, 52)] hst14 ?_ fun W15 hst15 => ?_))
    · refine ⟨?_, trivial⟩
      · exact sv_call rfl rfl rfl rfl rfl (fun _ _ _ h => h.trans (congrArg Value.bool hd6)) fun ρ β W X cx => ⟨_, _, run_callF (args := #[vp cb, vi x]) rfl cx.sees rfl (by kernel_rfl) (map2 (cx.an 0) (cx.an 1)), clive_any _ lo nx K x _ (cx.bi 0 rfl) hK (by omega)⟩
    refine then_normal (wp_cond_true (show Act.eval _ _ = .bool true from rfl) (wp_region_Y [0, 0, 0, 1, 9, 31, 63, 127] [[], [], [], [], [], [], [], [0]] [[], [], [], [], [], [], [], [2]] [[], [], [], [], [], [], [], [0]] [.k 52 (vp cb), .k 53 (vi x), .k 54 (vi st), .k 55 (vp cb), .k 56 (.pointer (some ⟨cb, 2, none⟩)), .c 57 (.pointer (some ⟨cb, 2 + ((x).toNat) * 2, none⟩)), .k 58 (.pointer (some ⟨cb, 2 + ((x).toNat) * 2, none⟩)), .n] (fun ix σ β X => match ix with | 0 => True | 1 => True | 2 => True | 3 => True | 4 => True | 5 => True | 6 => True | 7 => X 2 = eB cb 114 (clockL lo nx (K.set ((x).toNat) st)).toArray | _ => True) [1, 2] [5, 7] [(52, 0, 7, 59)] hst15 ?_ ?_ ?_))
    · exact fun ix _ _ _ _ _ _ hs hb hx h => match ix, h with
      | 7, h => by dsimp only at h ⊢; rw [← hx 2 rfl]; exact h
      | 0, _ | 1, _ | 2, _ | 3, _ | 4, _ | 5, _ | 6, _ | _ + 8, _ => trivial
    · refine ⟨?_, ?_, trivial⟩
      · exact xs4 rfl id fun cx => run_indexArrB (n := 128) (sz := 2) (m := (x).toNat) (q := 2 + ((x).toNat) * 2) rfl (by kernel_rfl) (cx.an 4) (cx.an 1) (by omega) (by omega) (by omega)
      · refine sv_any rfl rfl fun ρ β W X cx => ?_
        exact dv_storeAr (m := 2 + ((x).toNat) * 2) rfl (cx.an 6) (cx.an 2) (by kernel_rfl) rfl rfl cx (cx.init 0 _ rfl) rfl (by rw [clk_len]; first | omega | (simp only [List.length_set]; omega)) rfl (clk_set _ _ _ _ _) rfl rfl (fun σ β' X' hs hb hx => hx)
    intro σ β X W16 hD hst16 fr hfr
    simp only [exq 2 ((dTn (hD 7 lq)))] at hst16
    clear hD; subst hfr; clear σ β X
    refine blk_normal (then_normal (wp_region_P [0, 1] [tI 59 ((0 : Int) + 1) (by omega), .k 45 (vi ((0 : Int) + 1))] [(45, 1, 1, 46), (13, 0, 1, 14)] hst16 fun W17 hst17 => ?_))
    refine then_normal ?_
    refine ⟨1 - 1, by omega, ?_⟩
    have hp18 := hst17.pick [1, 0] (by decide) rfl
    exact ⟨1, (K.set x.toNat st), .inr ⟨rfl, rfl⟩, rfl, (by kernel_rfl), hp18⟩
  have hs13p : ¬ ((k : Int) < 1) := by simpa using hs13
  refine wp_cond_false (show Act.eval _ _ = .bool false from (congrArg Value.bool hs13)) (wp_exit (then_exit (then_exit (blk_eq (then_normal (wp_seq (wp_region_P [0] [.k 6 (vi 0)] [(6, 0, 1, 7)] hst12 fun W19 hst19 => ?_)))))))
  refine then_normal (wp_ret ?_)
  refine bodyPost_ret (v := vi 0) (results_tmp Tryd.results22 rfl) rfl ?_
  obtain ⟨hk1, hK2⟩ : k = 1 ∧ K2 = K.set x.toNat st := by
    rcases hk with h_ | h_
    · omega
    · exact h_
  rw [hK2] at hst19; exact ⟨rfl, hst19.blk 0 rfl, hst19.upd⟩
end
end Go.Proofs.YtjnplglnnamfdaaDoor

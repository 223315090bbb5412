/- A range over a function: the region's rule inside a round; the loop's law over entries. -/
import Derived.RangeFuncBox
import Derived.RangeFuncBound
import Derived.RangeFuncCalls
import Derived.RangeFuncLeaves
import Derived.TacticsIn
import Derived.OrdersIn
import Derived.LoopNIn
import Derived.Test.YtfjpglohcppjeaaDoorVu
namespace Go.Proofs.YtfjpglohcppjeaaDoor
open Go.RowKit
set_option linter.unusedVariables false
set_option linter.unusedSimpArgs false

/-- inside a round -/
abbrev Rnd (l : Nat) : Fence := Fence.wide.inRound l
def noDefer (ops : Array Oper) : Bool := ops.all fun o => match o.op with | .defer _ => false | _ => true
theorem noDefer_at {ops : Array Oper} (h : noDefer ops = true) {i : Nat} {o : Oper} (ho : ops[i]? = some o) : ∀ c, o.op ≠ .defer c := by
  intro c hc
  obtain ⟨hi, he⟩ := Array.getElem?_eq_some_iff.1 ho
  have h2 := (Array.all_eq_true.1 h) i hi
  rw [he, hc] at h2
  cases h2
theorem opIn {P : Program} {l n : Nat} {o : Oper} {a : Act} {w : World} {K : Act → World → Prop} {Q : Exit → Act → World → Prop} (hd : ∀ c, o.op ≠ .defer c) (h : o.wp P a w K Q) : o.wpIn (Rnd l) n P a w K Q := by
  unfold Oper.wp at h
  refine ⟨fun _ _ => trivial, ?_⟩
  show o.uponIn (Rnd l) n P a K Q ((o.semAt (some l) a.eval).run P w)
  rw [Oper.semAt_eq (some l) a.eval o hd]
  generalize (execOp a.eval o).run P w = r at h ⊢
  cases r with
  | ok x w' =>
    cases x <;> simp only [Oper.upon, Oper.uponIn] at h ⊢ <;> first
      | exact h
      | exact ⟨fun hh => by simp [Rnd, Fence.wide] at hh, CallsIn.inRound l (callsIn_wide.2 h)⟩
      | exact ⟨fun hh => by simp [Rnd, Fence.wide] at hh, fun c cs _ => let ⟨v, w', r, s⟩ := h c cs; ⟨v, w', r, stepsIn_wide.2 s⟩⟩
  | halt x w' => cases x <;> simp only [Oper.upon, Oper.uponIn] at h ⊢ <;> exact h
section
variable {P : Program} {l n : Nat} {ops : Array Oper} {Q : Exit → Act → World → Prop}
theorem wpOpIn_of (hnd : noDefer ops = true) (hLo : ¬ LetsOut Q) {i : Nat} {K : Act → World → Prop} {a : Act} {w : World} (h : wpOp P ops Q i K a w) : wpOpIn (Rnd l) n P ops Q i K a w := by
  unfold wpOp at h
  unfold wpOpIn
  cases ho : ops[i]? with
  | none => simp only [ho] at h ⊢; exact h
  | some o =>
    simp only [ho] at h ⊢
    split
    · rename_i hw
      rw [if_pos hw] at h
      exact opIn (noDefer_at hnd ho) (h.resolve_right fun hh => hLo hh.2)
    · rename_i hw
      rw [if_neg hw] at h
      exact ⟨fun _ _ => trivial, h⟩
theorem wpAnyIn_of (hnd : noDefer ops = true) (hLo : ¬ LetsOut Q) : ∀ (m : Nat) (listed : Array Bool) (a : Act) (w : World), wpAny P .any ops Q m listed a w → wpAnyIn (Rnd l) n P .any ops Q m listed a w
  | 0, listed, a, w, h => h
  | m + 1, listed, a, w, h => ⟨h.1, fun i hi => wpOpIn_mono (fun a w hh => wpAnyIn_of hnd hLo m _ a w hh) (wpOpIn_of hnd hLo (h.2 i hi))⟩
theorem wpOpsIn_of (hnd : noDefer ops = true) (hLo : ¬ LetsOut Q) : ∀ (is : List Nat) (a : Act) (w : World), wpOps P ops Q is a w → wpOpsIn (Rnd l) n P ops Q is a w
  | [], a, w, h => h
  | i :: is, a, w, h => by
    rw [wpOps_cons] at h
    rw [wpOpsIn_cons]
    exact wpOpIn_mono (fun a w hh => wpOpsIn_of hnd hLo is a w hh) (wpOpIn_of hnd hLo h)
end
section
variable {P : Program} {ops : Array Oper} {L : List Nat} {w0 : World} {bor : List Nat} {X0 : List Ent} {us cr kl : List (List Nat)} {Q : Exit → Act → World → Prop} {l n : Nat}
/-- THE RULE, inside a round -/
theorem wpIn_region_W {id : Nat} {dr : Bool} {w : World} {t0 : Array Value} {d0 : List Deferred} (hnd : noDefer ops = true) (hm : P.follows .mixedOrders = true) (L : List Nat) (us cr kl : List (List Nat)) (D : Nat → (Tmp → Value) → (Tmp → Value) → (Nat → Ent) → Prop) (fin : List Nat)
    (hL : okAnc ops L = true) (hd : dstOk ops t0.size = true) (hflow : flowV ops.size X0.length L us cr kl = true) (hfin : finV ops.size X0.length cr kl fin = true)
    (hloc : LocalV ops X0.length L cr D) (hst : St w0 bor X0 w) (hstep : AllTo (StepV P ops L ⟨t0, d0⟩ w0 bor X0 us cr kl D) ops.size)
    (hrest : ∀ (σ β : Tmp → Value) (X : Nat → Ent) (w' : World), (∀ i, i < ops.size → D i σ β X) → (∀ q e, X0[q]? = some e → X q = e) → St w0 bor (fin.map X) w' →
      ∀ fr, fr = putAll (dstsU ops) ((dstsU ops).map σ) t0 → Q .normal ⟨fr, d0⟩ w') : (Code.region id ops dr).wpIn (Rnd l) n P Q ⟨t0, d0⟩ w := by
  have hs : ∀ i, i < ops.size → StepV P ops L ⟨t0, d0⟩ w0 bor X0 us cr kl D i := fun i hi => hstep.get i hi
  obtain ⟨Q', hQ'⟩ : ∃ Q' : Exit → Act → World → Prop, Q' = fun e a w => e = .normal ∧ Q .normal a w := ⟨_, rfl⟩
  have hr : ∀ (a : Act) (w : World) (listed : Array Bool), (∀ i, i < ops.size → listed.getD i false = true) → VInv ops L ⟨t0, d0⟩ w0 bor X0 cr kl D listed a w → Q' .normal a w := fun a w listed hall inv => by
    rw [hQ']; exact ⟨rfl, vinv_end (a0 := ⟨t0, d0⟩) hd hfin (fun σ β X w' h1 h2 h3 => hrest σ β X w' h1 h2 h3 _ rfl) hall inv⟩
  have hLo : ¬ LetsOut Q' := by rw [hQ']; rintro ⟨a, w, h, _⟩; cases h
  refine wpIn_mono (Q := Q') ?_ fun e a w h => by rw [hQ'] at h; obtain ⟨rfl, h⟩ := h; exact h
  cases dr with
  | true =>
    refine wpIn_region_any hm (wpAnyIn_of hnd hLo _ _ _ _ (wpAny_V hL hd hflow hloc hs hr ops.size (Array.replicate ops.size false) ⟨t0, d0⟩ w.drew ?_ (vinv_start hst.drew)))
    rw [List.countP_eq_length.2]
    · simp
    · intro i _
      rw [getD_replicate_false]
      rfl
  | false =>
    refine wpIn_region ?_
    rw [List.range_eq_range']
    exact wpOpsIn_of hnd hLo _ _ _ (wpOps_V hL hd hflow hloc hs hr ops.size 0 (Array.replicate ops.size false) ⟨t0, d0⟩ w (by omega) (fun j => by rw [getD_replicate_false]; simp) (vinv_start hst))
end
theorem wpIn_region_T {l n : Nat} {P : Program} {ops : Array Oper} {Q : Exit → Act → World → Prop} {w0 : World} {bor : List Nat} {X0 : List Ent} {id : Nat} {dr : Bool} {w : World} {t0 : List Value} {d0 : List Deferred} (L : List Nat) (us cr kl : List (List Nat)) (tb : List TE)
    (A : Nat → (Tmp → Value) → (Tmp → Value) → (Nat → Ent) → Prop) (fin sp : List Nat) (rs : List (Nat × Nat × Nat × Nat)) (hst : St w0 bor X0 w) (hloc : LocalV ops X0.length L cr A)
    (hstep : inAll (StepV P ops L ⟨t0.toArray, d0⟩ w0 bor X0 us cr kl (fun ix σ β X => dT tb ix σ (A ix σ β X))) sp)
    (hrest : ∀ (σ β : Tmp → Value) (X : Nat → Ent) (w' : World), (∀ i, i < ops.size → dT tb i σ (A i σ β X)) → (∀ q e, X0[q]? = some e → X q = e) → St w0 bor (fin.map X) w' → ∀ fr, fr = mgT tb σ rs t0 → Q .normal ⟨fr.toArray, d0⟩ w')
    (ht : goTs P ops L t0.toArray tb 0 tb = tb.map wantT := by kernel_rfl) (hl : lineOk ops L cr kl sp 0 tb = true := by kernel_rfl) (hn : tb.length = ops.size := by kernel_rfl)
    (hfr : ∀ σ, putAll (dstsU ops) ((idxU ops).map (valT ops tb σ)) t0.toArray = (mgT tb σ rs t0).toArray := by intro σ; kernel_rfl)
    (hm : P.follows .mixedOrders = true := by kernel_rfl) (hnd : noDefer ops = true := by kernel_rfl) (hL : okAnc ops L = true := by kernel_rfl) (hd : dstOk ops t0.toArray.size = true := by kernel_rfl) (hflow : flowV ops.size X0.length L us cr kl = true := by kernel_rfl) (hfin : finV ops.size X0.length cr kl fin = true := by kernel_rfl) :
    (Code.region id ops dr).wpIn (Rnd l) n P Q ⟨t0.toArray, d0⟩ w := by
  refine wpIn_region_W hnd hm L us cr kl (fun ix σ β X => dT tb ix σ (A ix σ β X)) fin hL hd hflow hfin (fun i σ σ' β β' X X' h1 h2 h3 h => ?_) hst (AllTo.of fun i hi => ?_) fun σ β X w' hD hX hst' fr hfr' => ?_
  · dsimp only at h ⊢
    rw [dT_iff] at h ⊢
    cases hdd : (tb.getD i .n).dst with
    | some d =>
      rw [hdd] at h
      dsimp only at h ⊢
      have hi : i < tb.length := getD_lt (by rw [hdd]; simp)
      have := (tOk_dst ht hi hdd).1
      rw [← h1 d (by unfold seesV; simp [this])]
      exact h
    | none =>
      rw [hdd] at h
      exact hloc i σ σ' β β' X X' h1 h2 h3 h
  · have hi' : i < tb.length := by rw [hn]; exact hi
    have h := lineOk_get (i := i) hl hi'
    rw [Nat.zero_add] at h
    rcases h with ⟨_, h⟩ | ⟨h, _⟩
    · exact inAll_get hstep i h
    · exact pure_step hd ht hl hi' h
  · subst hfr'
    have e : (dstsU ops).map σ = (idxU ops).map (valT ops tb σ) := by
      unfold dstsU
      rw [List.map_map]
      refine List.map_congr_left fun i hi => ?_
      have him := List.mem_filter.1 hi
      have hlt : i < ops.size := List.mem_range.1 him.1
      have h := hD i hlt
      rw [dT_iff] at h
      unfold valT
      cases hdd : (tb.getD i .n).dst with
      | none => rfl
      | some d =>
        rw [hdd] at h
        dsimp only at h ⊢
        have := (tOk_dst ht (i := i) (by rw [hn]; exact hlt) hdd).1
        simp only [Function.comp, this, Option.getD_some]
        exact h
    rw [e, hfr σ]
    exact hrest σ β X w' hD hX hst' _ rfl
/-- a region that only computes -/
theorem wpIn_region_P {l n : Nat} {P : Program} {ops : Array Oper} {Q : Exit → Act → World → Prop} {w0 : World} {bor : List Nat} {X0 : List Ent} {id : Nat} {dr : Bool} {w : World} {t0 t1 : List Value} {d0 : List Deferred} (L : List Nat) (tb : List TE)
    (rs : List (Nat × Nat × Nat × Nat)) (hst : St w0 bor X0 w) (hrest : ∀ w', St w0 bor X0 w' → Q .normal ⟨t1.toArray, d0⟩ w')
    (h1 : mgT tb (fun _ => undef) rs t0 = t1 := by dsimp only [mgT, vals, List.take, List.drop, List.cons_append, List.nil_append])
    (ht : goTs P ops L t0.toArray tb 0 tb = tb.map wantT := by kernel_rfl) (hl : lineOk ops L [] [] [] 0 tb = true := by kernel_rfl) (hn : tb.length = ops.size := by kernel_rfl)
    (hfr : ∀ σ, putAll (dstsU ops) ((idxU ops).map (valT ops tb σ)) t0.toArray = (mgT tb (fun _ => undef) rs t0).toArray := by intro σ; kernel_rfl)
    (hm : P.follows .mixedOrders = true := by kernel_rfl) (hnd : noDefer ops = true := by kernel_rfl) (hL : okAnc ops L = true := by kernel_rfl) (hd : dstOk ops t0.toArray.size = true := by kernel_rfl) :
    (Code.region id ops dr).wpIn (Rnd l) n P Q ⟨t0.toArray, d0⟩ w := by
  have hat : ∀ i, atV ([] : List (List Nat)) i = [] := fun i => by simp [atV]
  refine wpIn_region_W hnd hm L [] [] [] (fun ix σ β X => dT tb ix σ True) (List.range X0.length) hL hd ?_ ?_ (fun i σ σ' β β' X X' h1 h2 h3 h => ?_) hst (AllTo.of fun i hi => ?_) fun σ β X w' hD hX hst' fr hfr' => ?_
  · unfold flowV; simp [hat]
  · unfold finV; simp [hat, List.nodup_range]
  · dsimp only at h ⊢
    rw [dT_iff] at h ⊢
    cases hdd : (tb.getD i .n).dst with
    | some d =>
      rw [hdd] at h
      dsimp only at h ⊢
      have hi : i < tb.length := getD_lt (by rw [hdd]; simp)
      have := (tOk_dst ht hi hdd).1
      rw [← h1 d (by unfold seesV; simp [this])]
      exact h
    | none => trivial
  · have hi' : i < tb.length := by rw [hn]; exact hi
    have h := lineOk_get (i := i) hl hi'
    rw [Nat.zero_add] at h
    rcases h with ⟨_, h⟩ | ⟨h, _⟩
    · cases h
    · exact pure_step (A := fun _ _ _ _ => True) hd ht hl hi' h
  · subst hfr'
    have e : (dstsU ops).map σ = (idxU ops).map (valT ops tb σ) := by
      unfold dstsU
      rw [List.map_map]
      refine List.map_congr_left fun i hi => ?_
      have him := List.mem_filter.1 hi
      have hlt : i < ops.size := List.mem_range.1 him.1
      have h := hD i hlt
      rw [dT_iff] at h
      unfold valT
      cases hdd : (tb.getD i .n).dst with
      | none => rfl
      | some d =>
        rw [hdd] at h
        dsimp only at h ⊢
        have := (tOk_dst ht (i := i) (by rw [hn]; exact hlt) hdd).1
        simp only [Function.comp, this, Option.getD_some]
        exact h
    rw [e, hfr σ, h1]
    refine hrest w' ?_
    have : (List.range X0.length).map X = X0 := by
      apply List.ext_getElem (by simp)
      intro q h1 h2
      rw [List.getElem_map, List.getElem_range]
      exact hX q _ (List.getElem?_eq_getElem h2)
    rw [this] at hst'
    exact hst'

/-! ### the loop over entries -/
/-- an entry whose blocks are cells -/
def Ent.cells (e : Ent) : Prop := ∀ W, e.holds W → ∀ k ∈ e.fp, ∃ o : Obj, W.heap[k]? = some o ∧ o.isCells = true
theorem eB_cells (b : Nat) (t : TypeId) (cs : Array Value) : (eB b t cs).cells := fun W h k hk => by
  have : k = b := by simpa [eB] using hk
  subst this
  exact ⟨_, h, rfl⟩
theorem eO_cells (e : TypeId) (sz : Nat) (v : Value) (n : Nat) (xs : List Value) : (eO e sz v n xs).cells := fun W h k hk => by
  have hb : W.ownsRow 0 e sz v n xs := h
  rcases hb.2 with ⟨rfl, _⟩ | ⟨g, cap, cur, rfl, _, hg, _⟩
  · cases hk
  · have : k = g := by simpa [eO, Value.ownBlock] using hk
    subst this
    exact ⟨_, hg, rfl⟩
abbrev fps (L : List Ent) : List Nat := L.flatMap (·.fp)
theorem fps_mem {L : List Ent} {k : Nat} : k ∈ fps L ↔ ∃ e ∈ L, k ∈ e.fp := by simp [fps]
/-- all entries lent -/
theorem St.lendAll {w0 w : World} {bor : List Nat} {L : List Ent} (h : St w0 bor L w) : St w (fps L) L w :=
  ⟨Upd.refl _ _, fun e he => ⟨(h.ok e he).holds, (h.ok e he).loc, fun k hk => ⟨.inl (fps_mem.2 ⟨e, he, hk⟩), ((h.ok e he).own k hk).2⟩⟩, h.apart⟩
theorem St.fps_own {w0 w : World} {bor : List Nat} {L : List Ent} (h : St w0 bor L w) {k : Nat} (hk : k ∈ fps L) : (k ∈ bor ∨ w0.heap.size ≤ k) ∧ k < w.heap.size := by
  obtain ⟨e, he, hk⟩ := fps_mem.1 hk
  exact (h.ok e he).own k hk
/-- a call's part joined to what went before -/
theorem St.joinT {w0 w W : World} {bor T : List Nat} {L : List Ent} (hu : Upd bor w0 w) (hT : ∀ k ∈ T, k ∈ bor ∨ w0.heap.size ≤ k) (h : St w T L W) : St w0 bor L W :=
  ⟨hu.join h.upd hT, fun e he => ⟨(h.ok e he).holds, (h.ok e he).loc, fun k hk => ⟨by
    rcases ((h.ok e he).own k hk).1 with h1 | h1
    · exact hT k h1
    · exact .inr (Nat.le_trans hu.size h1), ((h.ok e he).own k hk).2⟩⟩, h.apart⟩
/-- what a round keeps: the blocks R -/
def KpR (R : List Nat) (W W' : World) : Prop := ∀ k, k ∈ R → W'.heap[k]? = W.heap[k]?
theorem KpR.blk {g t : Nat} {R : List Nat} {W W' : World} {cs : Array Value} (h : KpR R W W') (hR : g ∈ R) (hb : Blk W g t cs) : Blk W' g t cs := (h g hR).trans hb
theorem KpR.nil {W W' : World} : KpR [] W W' := fun k hk => by cases hk
theorem KpR.cons {R : List Nat} {W W' : World} {g t : Nat} {cs : Array Value} (hb : Blk W g t cs) (hb' : Blk W' g t cs) (h : KpR R W W') : KpR (g :: R) W W' := fun k hk => by
  rcases List.mem_cons.1 hk with rfl | hk
  · exact hb'.trans hb.symm
  · exact h k hk
/-- an entry that a turn of the loop's own blocks does not touch -/
def CellsB (B : Nat) (L : List Ent) : Prop := ∀ e ∈ L, e.cells ∨ ∀ k ∈ e.fp, k < B
theorem CellsB.nil {B : Nat} : CellsB B [] := fun e he => by cases he
theorem CellsB.cons {B : Nat} {e : Ent} {L : List Ent} (h : e.cells) (hL : CellsB B L) : CellsB B (e :: L) := fun x hx => by
  rcases List.mem_cons.1 hx with rfl | hx
  · exact .inl h
  · exact hL x hx
theorem CellsB.consB {B : Nat} {e : Ent} {L : List Ent} (h : ∀ k ∈ e.fp, k < B) (hL : CellsB B L) : CellsB B (e :: L) := fun x hx => by
  rcases List.mem_cons.1 hx with rfl | hx
  · exact .inr h
  · exact hL x hx
theorem CellsB.ne {B : Nat} {L : List Ent} {W : World} (hc : CellsB B L) {e : Ent} (he : e ∈ L) (hh : e.holds W) {k : Nat} (hk : k ∈ e.fp) {r : Nat} {o : Obj} (hB : B ≤ r) (ho : W.heap[r]? = some o) (hf : o.isCells = false) : k ≠ r := by
  rintro rfl
  rcases hc e he with h | h
  · obtain ⟨o', ho', hf'⟩ := h W hh k hk
    rw [ho] at ho'; cases ho'; rw [hf] at hf'; cases hf'
  · have := h k hk; omega
theorem St.turn {w0 W W' : World} {bor : List Nat} {L : List Ent} {row : Option Nat} (h : St w0 bor L W) (hc : CellsB w0.heap.size L) (hg : W.grownBy W' row) (hr : ∀ r, row = some r → w0.heap.size ≤ r ∧ ∃ o : Obj, W.heap[r]? = some o ∧ o.isCells = false) : St w0 bor L W' := by
  have hne : ∀ e ∈ L, ∀ k ∈ e.fp, W'.heap[k]? = W.heap[k]? := fun e he k hk => by
    refine hg.block k ((h.ok e he).own k hk).2 fun e' => ?_
    obtain ⟨hB, o, ho, hf⟩ := hr k e'.symm
    exact hc.ne he (h.ok e he).holds hk hB ho hf rfl
  refine ⟨⟨hg.os.trans h.upd.os, hg.tape.trans h.upd.tape, hg.output.trans h.upd.output, Nat.le_trans h.upd.size hg.size, fun k hk hb => ?_⟩, fun e he => ⟨(h.ok e he).loc W W' (hne e he) (h.ok e he).holds, (h.ok e he).loc, fun k hk => ⟨((h.ok e he).own k hk).1, Nat.lt_of_lt_of_le ((h.ok e he).own k hk).2 hg.size⟩⟩, h.apart⟩
  rw [hg.block k (Nat.lt_of_lt_of_le hk h.upd.size) fun e' => ?_]
  · exact h.upd.block k hk hb
  · have := (hr k e'.symm).1; omega
/-- the block for the rounds' deferred calls -/
def eD (D : Nat) : Ent := ⟨[D], fun W => W.heap[D]? = some (.deferred (some []))⟩
theorem eD_loc (D : Nat) : (eD D).loc := fun W W' h hb => (h D (by simp [eD])).trans hb
theorem St.addD {w0 W : World} {bor : List Nat} {L : List Ent} {B D : Nat} (h : St w0 bor L W) (hc : CellsB B L) (hB : B ≤ D) (hD : w0.heap.size ≤ D) (hK : W.heap[D]? = some (.deferred (some []))) : St w0 bor (L ++ [eD D]) W := by
  refine ⟨h.upd, fun x hx => ?_, ?_⟩
  · rcases List.mem_append.1 hx with hx | hx
    · exact h.ok x hx
    · rw [List.mem_singleton] at hx
      subst hx
      exact ⟨hK, eD_loc D, fun k hk => by
        have : k = D := by simpa [eD] using hk
        subst this
        exact ⟨.inr hD, (Array.getElem?_eq_some_iff.1 hK).1⟩⟩
  · rw [List.pairwise_append]
    refine ⟨h.apart, List.pairwise_singleton _ _, fun a ha b hb => ?_⟩
    rw [List.mem_singleton] at hb
    subst hb
    intro k hk hkb
    have : k = D := by simpa [eD] using hkb
    exact hc.ne ha (h.ok a ha).holds hk hB hK rfl this
/-- at the function's return the block is shut -/
theorem St.takeD {w0 W : World} {bor : List Nat} {L : List Ent} {D : Nat} (h : St w0 bor (L ++ [eD D]) W) : St w0 bor L (W.putObj D (.deferred none)) := by
  have hd := h.ok (eD D) (by simp)
  have hown := hd.own D (by simp [eD])
  have hap : ∀ e ∈ L, D ∉ e.fp := fun e he hk => by
    have := (List.pairwise_append.1 h.apart).2.2 e he (eD D) (by simp)
    exact this D hk (by simp [eD])
  have hg := grownBy_putObj' W D (.deferred none)
  refine ⟨⟨hg.os.trans h.upd.os, hg.tape.trans h.upd.tape, hg.output.trans h.upd.output, Nat.le_trans h.upd.size hg.size, fun k hk hb => ?_⟩, fun e he => ?_, (List.pairwise_append.1 h.apart).1⟩
  · rw [hg.block k (Nat.lt_of_lt_of_le hk h.upd.size) fun e' => ?_]
    · exact h.upd.block k hk hb
    · cases e'
      rcases hown.1 with h1 | h1
      · exact hb h1
      · omega
  · have h2 := h.ok e (by simp [he])
    refine ⟨h2.loc W _ (fun k hk => hg.block k (h2.own k hk).2 fun e' => ?_) h2.holds, h2.loc, fun k hk => ⟨(h2.own k hk).1, Nat.lt_of_lt_of_le (h2.own k hk).2 hg.size⟩⟩
    cases e'
    exact hap e he hk
theorem bpm_ret {P : Program} {n : Nat} {fn : Func} {R : Ending → World → Prop} {a : Act} {w : World} {v : Value} (hr : (results fn a.tmps).run P w = .ok v w) (hd : a.defers = []) (hR : R (.returned v) w) : bodyPostM Fence.wide n P fn R .ret a w := by
  show LeavesInM Fence.wide n P fn a.tmps R a.defers .returning w
  rw [hd]
  exact ⟨v, hr, hR⟩
theorem bpm_end {P : Program} {n : Nat} {fn : Func} {R : Ending → World → Prop} {a : Act} {w : World} {v : Value} (hr : (results fn a.tmps).run P w = .ok v w) (hd : a.defers = []) (hR : R (.returned v) w) : bodyPostM Fence.wide n P fn R .normal a w := by
  show LeavesInM Fence.wide n P fn a.tmps R a.defers .returning w
  rw [hd]
  exact ⟨v, hr, hR⟩
theorem bpm_take {P : Program} {n : Nat} {fn : Func} {R : Ending → World → Prop} {t0 : Array Value} {w0 w : World} {bor : List Nat} {L : List Ent} {D : Nat} (hst : St w0 bor (L ++ [eD D]) w)
    (h : ∀ W, St w0 bor L W → ∃ v, (results fn t0).run P W = .ok v W ∧ R (.returned v) W) : bodyPostM Fence.wide n P fn R .ret ⟨t0, [{ target := .collected D, args := #[] }]⟩ w := by
  have hK : w.heap[D]? = some (.deferred (some [])) := (hst.ok (eD D) (by simp)).holds
  show LeavesInM Fence.wide n P fn t0 R [{ target := .collected D, args := #[] }] .returning w
  exact ⟨by simp, .inl ⟨_, _, rfl, run_takeDeferred hK, h _ hst.takeD⟩⟩
theorem lt_cons {g n : Nat} {R : List Nat} (h : g < n) (hR : ∀ k ∈ R, k < n) : ∀ k ∈ g :: R, k < n := fun k hk => by
  rcases List.mem_cons.1 hk with rfl | hk
  · exact h
  · exact hR k hk
theorem rnd_assign {P : Program} {l n id d s : Nat} {o : Oper} {K : Act → World → Prop} {a a1 : Act} {W : World} (ho : o.op = .assign (.tmp s)) (hg : o.guard = none) (hd : o.dst = some d) (h : K a1 W) (he : a.put (some d) (a.eval (.tmp s)) = a1) :
    (Code.region id #[o] false).wpIn (Rnd l) n P (Exit.then K (fun _ _ _ => False)) a W := by
  refine wpIn_region ?_
  refine wpOpsIn_of (by simp [noDefer, ho]) (by rintro ⟨a, w, h⟩; exact h) _ _ _ ?_
  show wpOps P _ _ [0] a W
  rw [wpOps_cons]
  refine wpOp_step (show (#[o] : Array Oper)[0]? = some o from rfl) fun K' hK' => ?_
  rw [if_pos (show Region.wanted o _ = true by unfold Region.wanted; rw [hg])]
  refine DoesU.wp (post := fun v w' => v = a.eval (.tmp s) ∧ w' = W) (DoesU.value (run_assign' ho rfl) ⟨rfl, rfl⟩) fun v w' hv => ?_
  obtain ⟨rfl, rfl⟩ := hv
  refine hK' _ _ ?_
  rw [hd, he]
  exact h
/-- **A RANGE OVER A FUNCTION, ITS BODY ALWAYS GOING ON** -/
theorem wp_rangeSt {α : Type} {P : Program} {g : Operand} {ps : Array Tmp} {assign body : Code} {Q : Exit → Act → World → Prop} {t0 : Array Value} {w0 w : World} {bor : List Nat} {L0 : List Ent} (R : List Nat) (hst : St w0 bor L0 w)
    {gf : Nat} {lb : Array Value} (hg : Act.eval ⟨t0, []⟩ g = .func (.func gf) #[] lb) (eg : ∀ args w, (callFunc gf args).run P w = .ok (.enter gf args) w)
    {encs : α → Array Value} {XS : List α} {N : Nat} (hR : ∀ k ∈ R, k < w.heap.size) (hseq : SeqStopsK Fence.wide 2 P gf lb encs (KpR R) (fun xs => xs = XS) (fun pre => pre <+: XS) N w)
    (hps : ∀ x, (encs x).size = ps.size) (I : List α → List Ent → Prop) (hC : ∀ pre L, I pre L → CellsB w.heap.size L) (h0 : I [] L0) (a₁ : α → Act)
    (hassign : ∀ (l : Nat) (x : α) (W : World) (K : Act → World → Prop), K (a₁ x) W →
      assign.wpIn (Rnd l) 1 P (Exit.then K (fun _ _ _ => False)) { tmps := (ps.zip (encs x)).foldl (fun t (p, v) => t.setIfInBounds p v) t0, defers := [] } W)
    (hbody : ∀ (l : Nat) (pre : List α) (x : α) (W : World) (L : List Ent), I pre L → pre.length < N → Upd bor w0 W → St W (fps L) L W → body.wpIn (Rnd l) 1 P (fun e _ W' => e = .normal ∧ KpR R W W' ∧ ∃ L', I (pre ++ [x]) L' ∧ St W (fps L) L' W') (a₁ x) W)
    (hdone : ∀ (D : Nat) (W : World) (L : List Ent), I XS L → St w0 bor (L ++ [eD D]) W → Q .normal ⟨t0, [{ target := .collected D, args := #[] }]⟩ W) :
    (Code.rangeFunc g ps assign body).wp P Q ⟨t0, []⟩ w := by
  have hT0 : ∀ k ∈ fps L0, k ∈ bor ∨ w0.heap.size ≤ k := fun k hk => (hst.fps_own hk).1
  refine wpIn_wide.1 (wpIn_rangeFunc_ownG (F := Fence.wide) (n := 3) rfl (by omega) hg trivial eg hseq (fun h k => fun i hi => (k i hi).trans (h i hi))
    (fun W l o o' hl ho hc hw => fun k hk => World.putObj_heap_other (by have := hR k hk; omega)) (Below.refl _ _) hps
    (fun pre W => ∃ L, I pre L ∧ St w (fps L0) L W) (fun _ _ _ => False) ?_ (fun _ _ _ _ _ hs _ _ => hs) ⟨L0, h0, hst.lendAll⟩ a₁ hassign ?_ ?_ ?_)
  · rintro pre A B row ⟨L, hi, hs⟩ hgr hr
    exact ⟨L, hi, hs.turn (hC _ _ hi) hgr hr⟩
  · rintro l pre x W ⟨L, hi, hs⟩ hlt
    have hTL : ∀ k ∈ fps L, k ∈ fps L0 ∨ w.heap.size ≤ k := fun k hk => (hs.fps_own hk).1
    refine wpIn_mono (hbody l pre x W L hi hlt (hst.upd.join hs.upd hT0) hs.lendAll) ?_
    rintro e a W' ⟨rfl, hkp, L', hi', hs'⟩
    refine ⟨⟨hs'.upd.size, fun k o hB hk ho => ?_⟩, hkp, L', hi', St.joinT hs.upd hTL hs'⟩
    refine (hs'.upd.block k (Array.getElem?_eq_some_iff.1 hk).1 fun hkT => ?_).trans hk
    obtain ⟨e, he, hke⟩ := fps_mem.1 hkT
    exact (hC _ _ hi).ne he (hs.ok e he).holds hke hB hk ho rfl
  · rintro D xs W hD rfl ⟨L, hi, hs⟩ hK
    exact hdone D W L hi ((St.joinT hst.upd hT0 hs).addD (hC _ _ hi) hD (Nat.le_trans hst.upd.size hD) hK)
  · rintro D c pre W _ _ h _
    exact h.elim
end Go.Proofs.YtfjpglohcppjeaaDoor

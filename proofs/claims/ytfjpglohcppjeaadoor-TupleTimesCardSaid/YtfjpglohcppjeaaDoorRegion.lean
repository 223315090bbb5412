/- A region that draws its order, its first n operations in whatever order, each in a world that has grown at most: one obligation an operation. -/
import Derived.Test.YtfjpglohcppjeaaDoorBlk
import Derived.StillTail
namespace Go.Proofs.YtfjpglohcppjeaaDoor
open Go.RowKit
set_option linter.unusedVariables false
set_option linter.unusedSimpArgs false

/-- what one operation does, its operands seen through ρ -/
def OpDoes (P : Program) (o : Oper) (ρ : Operand → Value) (w : World) (post : Value → World → Prop) : Prop :=
  match (execOp ρ o).run P w with
  | .ok (.value v) w' => post v w'
  | .ok (.enter f args) w' => Calls P f args w' fun e w'' => ∃ v, e = .returned v ∧ post v w''
  | _ => False
theorem OpDoes.wp {P : Program} {o : Oper} {a : Act} {w : World} {post : Value → World → Prop} {next : Act → World → Prop} {Q : Exit → Act → World → Prop}
    (h : OpDoes P o a.eval w post) (hn : ∀ v w', post v w' → next (a.put o.dst v) w') : o.wp P a w next Q := by
  unfold Oper.wp
  unfold OpDoes at h
  split at h
  · rename_i v w' e
    rw [e]; exact hn _ _ h
  · rename_i f args w' e
    rw [e]
    exact Calls.mono h (by rintro e w'' ⟨v, rfl, hp⟩; exact hn v w'' hp)
  · exact h.elim
theorem OpDoes.value {P : Program} {o : Oper} {ρ : Operand → Value} {w w' : World} {post : Value → World → Prop} {v : Value} (h : (execOp ρ o).run P w = .ok (.value v) w') (hp : post v w') : OpDoes P o ρ w post := by
  unfold OpDoes; rw [h]; exact hp
theorem OpDoes.call {P : Program} {o : Oper} {ρ : Operand → Value} {w w' : World} {post : Value → World → Prop} {f : FuncId} {args : Array Value} (h : (execOp ρ o).run P w = .ok (.enter f args) w')
    (hp : Calls P f args w' fun e w'' => ∃ v, e = .returned v ∧ post v w'') : OpDoes P o ρ w post := by
  unfold OpDoes; rw [h]; exact hp

def dstAt (ops : Array Oper) (i : Nat) : Option Tmp := (ops[i]?).bind (·.dst)
def headOk (ops : Array Oper) (n size : Nat) : Bool :=
  (List.range n).all fun i => match ops[i]? with
    | some o => o.guard.isNone && o.after.all (fun e => !Region.binds .any e || decide (e.on < i)) && (match o.dst with | some d => decide (d < size) && (List.range n).all (fun j => decide (j = i) || decide (dstAt ops j ≠ some d)) | none => false)
    | none => false
theorem headOk_spec {ops : Array Oper} {n size i : Nat} (h : headOk ops n size = true) (hi : i < n) : ∃ o d, ops[i]? = some o ∧ o.guard = none ∧ (∀ e ∈ o.after, Region.binds .any e = true → e.on < i) ∧ o.dst = some d ∧ d < size ∧ ∀ j, j < n → j ≠ i → dstAt ops j ≠ some d := by
  have h1 := List.all_eq_true.1 h i (List.mem_range.2 hi)
  split at h1
  · rename_i o ho
    simp only [Bool.and_eq_true, Option.isNone_iff_eq_none] at h1
    obtain ⟨⟨hg, ha⟩, hd⟩ := h1
    split at hd
    · rename_i d hd'
      simp only [Bool.and_eq_true, decide_eq_true_eq] at hd
      refine ⟨o, d, ho, hg, fun e he hb => ?_, hd', hd.1, fun j hj hne => ?_⟩
      · have := Array.all_eq_true'.1 ha e he
        simpa [hb] using this
      · have := List.all_eq_true.1 hd.2 j (List.mem_range.2 hj)
        simpa [hne] using this
    · cases hd
  · cases h1
def headArr (n m : Nat) : Array Bool := (List.replicate n true ++ List.replicate (m - n) false).toArray
def headDsts (ops : Array Oper) (n : Nat) : List Tmp := (List.range n).map fun i => (dstAt ops i).getD 0
def putAll : List Tmp → List Value → Array Value → Array Value
  | d :: ds, v :: vs, t => putAll ds vs (t.setIfInBounds d v)
  | _, _, t => t
structure Sees (ρ : Operand → Value) : Prop where
  const : ∀ v, ρ (.const v) = v
  glob : ∀ g, ρ (.global g) = .pointer (some ⟨g, 0, none⟩)
  func : ∀ f, ρ (.func f) = .func (.func f) #[] #[]
theorem sees_act (a : Act) : Sees a.eval := ⟨fun _ => rfl, fun _ => rfl, fun _ => rfl⟩

theorem arr_ext {a b : Array Value} (hs : a.size = b.size) (h : ∀ k, a.getD k undef = b.getD k undef) : a = b := by
  apply Array.ext hs
  intro k h1 h2
  have := h k
  simpa [h1, h2] using this
theorem countP_set (n : Nat) (f g : Nat → Bool) (i : Nat) (hi : i < n) (hf : f i = true) (hg : g i = false) (h : ∀ j, j ≠ i → g j = f j) : (List.range n).countP g + 1 = (List.range n).countP f := by
  induction n with
  | zero => omega
  | succ n ih =>
    rw [List.range_succ, List.countP_append, List.countP_append]
    by_cases hin : i = n
    · subst hin
      have e : (List.range i).countP g = (List.range i).countP f := List.countP_congr fun j hj => by rw [h j (by have := List.mem_range.1 hj; omega)]
      simp [e, hf, hg]
    · have := ih (by omega)
      have e := h n (fun e => hin e.symm)
      simp only [List.countP_cons, List.countP_nil, e]
      omega

section
variable {P : Program} {ops : Array Oper} {Q : Exit → Act → World → Prop} {n : Nat} {a0 : Act} {w0 : World} {D : Nat → Value → World → Prop}
structure HInv (ops : Array Oper) (n : Nat) (a0 : Act) (w0 : World) (D : Nat → Value → World → Prop) (listed : Array Bool) (a : Act) (w : World) : Prop where
  defers : a.defers = a0.defers
  size : a.tmps.size = a0.tmps.size
  out : ∀ t, (∀ i, i < n → listed.getD i false = true → dstAt ops i ≠ some t) → a.tmps.getD t undef = a0.tmps.getD t undef
  held : ∀ i d, i < n → listed.getD i false = true → dstAt ops i = some d → D i (a.tmps.getD d undef) w
  ext : Ext w0 w

theorem putAll_getD (ds : List Tmp) (vs : List Value) (t : Array Value) (hl : vs.length = ds.length) (hnd : ds.Nodup) (hb : ∀ d ∈ ds, d < t.size) :
    (putAll ds vs t).size = t.size ∧ (∀ k, k ∉ ds → (putAll ds vs t).getD k undef = t.getD k undef) ∧ ∀ (i : Nat) d v, ds[i]? = some d → vs[i]? = some v → (putAll ds vs t).getD d undef = v := by
  induction ds generalizing vs t with
  | nil => simp [putAll]
  | cons d ds ih =>
    rcases vs with _ | ⟨v, vs⟩
    · simp at hl
    · have hl' : vs.length = ds.length := by simpa using hl
      have hnd' := List.nodup_cons.1 hnd
      obtain ⟨h1, h2, h3⟩ := ih vs (t.setIfInBounds d v) hl' hnd'.2 (fun x hx => by rw [Array.size_setIfInBounds]; exact hb x (by simp [hx]))
      refine ⟨by rw [putAll, h1, Array.size_setIfInBounds], fun k hk => ?_, fun i x u hi hu => ?_⟩
      · have hkd : d ≠ k := fun e => hk (by simp [e])
        rw [putAll, h2 k (fun e => hk (by simp [e]))]
        simp [hkd]
      · rcases i with _ | i
        · simp at hi hu
          subst hi; subst hu
          rw [putAll, h2 d hnd'.1]
          have := hb d (by simp)
          simp [this]
        · exact h3 i x u (by simpa using hi) (by simpa using hu)

theorem wpAny_head (hs : Region.sinkB .any ops n = true) (hc : Region.chainB .any ops n = true) (hn : n < ops.size) (hq : Region.seqB .any ops (ops.size - n) n (headArr n ops.size) = true) (hd : headOk ops n a0.tmps.size = true)
    (hstab : ∀ i v w w', D i v w → Ext w w' → D i v w')
    (hstep : ∀ i, i < n → ∀ (o : Oper), ops[i]? = some o → ∀ (ρ : Operand → Value) (w : World), Sees ρ → Ext w0 w → (∀ t, (∀ j, j < n → dstAt ops j ≠ some t) → ρ (.tmp t) = a0.tmps.getD t undef) →
      (∀ e ∈ o.after, Region.binds .any e = true → ∀ d, dstAt ops e.on = some d → D e.on (ρ (.tmp d)) w) → OpDoes P o ρ w fun v w' => D i v w' ∧ Ext w w')
    (hrest : ∀ (a : Act) (w : World), HInv ops n a0 w0 D (headArr n ops.size) a w → wpList P ops Q (ops.toList.drop n) a w) :
    ∀ (m : Nat) (listed : Array Bool) (a : Act) (w : World), HeadInv .any ops n listed → (List.range n).countP (fun i => !listed.getD i false) = m → HInv ops n a0 w0 D listed a w →
      wpAny P .any ops Q (m + (ops.size - n)) listed a w := by
  intro m
  induction m with
  | zero =>
    intro listed a w inv hcnt hinv
    have hall : ∀ i, i < n → listed.getD i false = true := fun i hi => by
      have := List.countP_eq_zero.1 hcnt i (List.mem_range.2 hi)
      simpa using this
    have e : listed = headArr n ops.size := by
      apply Array.ext
      · rw [inv.size]; simp [headArr]; omega
      · intro i h1 h2
        rcases Nat.lt_or_ge i n with h | h
        · have := hall i h
          simp [h1] at this
          rw [this]
          simp [headArr, h]
        · have := inv.tail i h (by rw [← inv.size]; exact h1)
          simp [h1] at this
          rw [this]
          simp [headArr, List.getElem_append, Nat.not_lt.2 h]
    subst e
    have hl : (ops.toList.drop n).length = ops.size - n := by simp
    rw [Nat.zero_add, ← hl]
    exact wpAny_of_seq (ops.toList.drop n) n _ a w (fun j => by simp) (by rw [hl]; exact hq) (hrest a w hinv)
  | succ m ih =>
    intro listed a w inv hcnt hinv
    have hex : ∃ i, i < n ∧ listed.getD i false = false := by
      have : 0 < (List.range n).countP (fun i => !listed.getD i false) := by omega
      obtain ⟨i, hi, hu⟩ := List.countP_pos_iff.1 this
      exact ⟨i, List.mem_range.1 hi, by simpa using hu⟩
    have hun : ∀ i, i < n → listed.getD i false = false → listed.getD i true = false := fun i hi h => getD_in (by rw [inv.size]; omega) h
    rw [show m + 1 + (ops.size - n) = (m + (ops.size - n)) + 1 by omega]
    refine ⟨fun h0 => ?_, fun i hi => ?_⟩
    · -- the least that is not listed is ready
      exfalso
      have hleast : ∀ k, ∀ i, i < n → listed.getD i false = false → i ≤ k → ∃ j, j ∈ Region.ready .any ops listed := by
        intro k
        induction k using Nat.strongRecOn with
        | _ k ihk =>
          intro i hi hu hik
          by_cases hlow : ∃ j, j < i ∧ listed.getD j false = false
          · obtain ⟨j, hj, hju⟩ := hlow
            exact ihk j (by omega) j (by omega) hju (Nat.le_refl _)
          · obtain ⟨o, d, ho, _, hback, _⟩ := headOk_spec hd hi
            refine ⟨i, mem_ready.2 ⟨hun i hi hu, o, ho, fun e he hb => ?_⟩⟩
            have hlt := hback e he hb
            cases hv : listed.getD e.on false with
            | true => rfl
            | false => exact (hlow ⟨e.on, hlt, hv⟩).elim
      obtain ⟨i, hi, hu⟩ := hex
      obtain ⟨j, hj⟩ := hleast i i hi hu (Nat.le_refl _)
      rw [h0] at hj
      cases hj
    · have hin : i < n := by
        rcases Nat.lt_or_ge i n with h | h
        · exact h
        · obtain ⟨k, hk, hu⟩ := hex
          exact (tail_waits hs hc hn inv _ k rfl hk (hun k hk hu) i h hi).elim
      obtain ⟨o, d, ho, hg, hback, hdst, hdlt, hdist⟩ := headOk_spec hd hin
      obtain ⟨hiu, oi, hoi, hall⟩ := mem_ready.1 hi
      have : oi = o := Option.some.inj (hoi.symm.trans ho)
      subst this
      have hdi : dstAt ops i = some d := by simp [dstAt, ho, hdst]
      refine wpOp_step ho fun K' hK => ?_
      rw [if_pos (by simp [Region.wanted, hg])]
      have hρ : OpDoes P oi a.eval w fun v w' => D i v w' ∧ Ext w w' := by
        refine hstep i hin oi ho a.eval w (sees_act a) hinv.ext (fun t ht => hinv.out t (fun j hj _ => ht j hj)) (fun e he hb d' hd' => ?_)
        exact hinv.held e.on d' (by have := hback e he hb; omega) (hall e he hb) hd'
      refine hρ.wp fun v w' hv => hK _ _ ?_
      have hiu' := getD_both hiu
      refine ih (listed.setIfInBounds i true) _ w' (inv.set hi hin) ?_ ?_
      · have hc' := countP_set n (fun j => !listed.getD j false) (fun j => !(listed.setIfInBounds i true).getD j false) i hin (by show (!listed.getD i false) = true; rw [hiu']; rfl)
          (by
            have : (listed.setIfInBounds i true).getD i false = true := by
              have h : i < listed.size := by rw [inv.size]; omega
              simp [h]
            show (!(listed.setIfInBounds i true).getD i false) = false
            rw [this]; rfl)
          (fun j hj => by show (!(listed.setIfInBounds i true).getD j false) = (!listed.getD j false); rw [getD_set_ne false (fun e => hj e.symm)])
        omega
      · rw [hdst]
        refine ⟨hinv.defers, by simp [Act.put, hinv.size], fun t ht => ?_, fun j dj hj hl hdj => ?_, hinv.ext.trans hv.2⟩
        · have htd : d ≠ t := fun e => ht i hin (by
            have h : i < listed.size := by rw [inv.size]; omega
            simp [h]) (by rw [hdi, e])
          have h1 : a.tmps.getD t undef = a0.tmps.getD t undef := hinv.out t fun j hj hl => ht j hj (by
            by_cases hji : j = i
            · subst hji; rw [hl] at hiu'; cases hiu'
            · rw [getD_set_ne false (fun e => hji e.symm)]; exact hl)
          rw [← h1]
          simp [Act.put, htd]
        · by_cases hji : j = i
          · subst hji
            have : dj = d := Option.some.inj (hdj.symm.trans hdi)
            subst this
            have h : dj < a.tmps.size := by rw [hinv.size]; exact hdlt
            have e : (a.put (some dj) v).tmps.getD dj undef = v := by simp [Act.put, h]
            rw [e]; exact hv.1
          · have hl' : listed.getD j false = true := by rwa [getD_set_ne false (fun e => hji e.symm)] at hl
            have hne : d ≠ dj := fun e => hdist j hj hji (by rw [hdj, e])
            have e : (a.put (some d) v).tmps.getD dj undef = a.tmps.getD dj undef := by simp [Act.put, hne]
            rw [e]
            exact hstab j _ w w' (hinv.held j dj hj hl' hdj) hv.2

theorem headDsts_get (hd : headOk ops n a0.tmps.size = true) {i : Nat} (hi : i < n) : ∃ d, dstAt ops i = some d ∧ (headDsts ops n)[i]? = some d ∧ d < a0.tmps.size := by
  obtain ⟨o, d, ho, _, _, hdst, hlt, _⟩ := headOk_spec hd hi
  have h : dstAt ops i = some d := by simp [dstAt, ho, hdst]
  refine ⟨d, h, ?_, hlt⟩
  simp [headDsts, hi, h]
theorem headDsts_nodup (hd : headOk ops n a0.tmps.size = true) : (headDsts ops n).Nodup := by
  unfold headDsts
  rw [List.Nodup, List.pairwise_map]
  refine List.Pairwise.imp_of_mem ?_ (List.nodup_range (n := n))
  intro i j hi hj hne he
  obtain ⟨d, h1, _⟩ := headDsts_get hd (List.mem_range.1 hi)
  obtain ⟨o, d', ho, _, _, hdst, _, hdist⟩ := headOk_spec hd (List.mem_range.1 hj)
  have h2 : dstAt ops j = some d' := by simp [dstAt, ho, hdst]
  rw [h1, h2] at he
  exact hdist i (List.mem_range.1 hi) hne (by rw [h1]; exact congrArg some he)

theorem hinv_frame (hd : headOk ops n a0.tmps.size = true) {a : Act} {w : World} (h : HInv ops n a0 w0 D (headArr n ops.size) a w) (hn : n < ops.size) :
    ∃ vs : List Value, vs.length = n ∧ (∀ i v, vs[i]? = some v → D i v w) ∧ a = ⟨putAll (headDsts ops n) vs a0.tmps, a0.defers⟩ := by
  have hlen : (headDsts ops n).length = n := by simp [headDsts]
  have hlisted : ∀ i, i < n → (headArr n ops.size).getD i false = true := fun i hi => by
    have h1 : i < ops.size := by omega
    have h2 : i < (headArr n ops.size).size := by simp [headArr]; omega
    simp only [Array.getD, h2, dif_pos]
    show (headArr n ops.size)[i] = true
    simp [headArr, hi]
  refine ⟨(headDsts ops n).map fun d => a.tmps.getD d undef, by simp [hlen], fun i v hv => ?_, ?_⟩
  · rw [List.getElem?_map] at hv
    rcases Nat.lt_or_ge i n with hi | hi
    · obtain ⟨d, h1, h2, _⟩ := headDsts_get hd hi
      rw [h2] at hv
      simp only [Option.map_some, Option.some.injEq] at hv
      rw [← hv]
      exact h.held i d hi (hlisted i hi) h1
    · rw [List.getElem?_eq_none (by omega)] at hv
      cases hv
  · have hb : ∀ d ∈ headDsts ops n, d < a0.tmps.size := fun d hd' => by
      obtain ⟨i, hi, he⟩ := List.mem_iff_getElem.1 hd'
      rw [hlen] at hi
      obtain ⟨d', h1, h2, h3⟩ := headDsts_get hd hi
      have : d' = d := by
        rw [List.getElem?_eq_getElem (by omega)] at h2
        exact (Option.some.inj h2).symm.trans he
      rw [← this]; exact h3
    obtain ⟨h1, h2, h3⟩ := putAll_getD (headDsts ops n) ((headDsts ops n).map fun d => a.tmps.getD d undef) a0.tmps (by simp) (headDsts_nodup hd) hb
    have e : a.tmps = putAll (headDsts ops n) ((headDsts ops n).map fun d => a.tmps.getD d undef) a0.tmps := by
      refine arr_ext (by rw [h1, h.size]) fun k => ?_
      by_cases hk : k ∈ headDsts ops n
      · obtain ⟨i, hi, he⟩ := List.mem_iff_getElem.1 hk
        exact (h3 i k _ (by rw [List.getElem?_eq_getElem hi, he]) (by rw [List.getElem?_map, List.getElem?_eq_getElem hi, he]; rfl)).symm
      · rw [h2 k hk]
        refine h.out k fun i hi _ hdi => hk ?_
        obtain ⟨d, g1, g2, _⟩ := headDsts_get hd hi
        rw [hdi] at g1
        have : k = d := Option.some.inj g1
        rw [this]
        exact List.mem_of_getElem? g2
    cases a with
    | mk t df =>
      have h4 : df = a0.defers := h.defers
      subst h4
      have h5 : t = _ := e
      exact congrArg (fun x => Act.mk x a0.defers) h5

/-- THE RULE. 'D i v w': what is known of the value that the i-th operation hands over, in the world w. -/
theorem wp_region_head {id : Nat} {w : World} (hm : P.follows .mixedOrders = true) (n : Nat) (D : Nat → Value → World → Prop) (hs : Region.sinkB .any ops n = true) (hc : Region.chainB .any ops n = true) (hn : n < ops.size)
    (hq : Region.seqB .any ops (ops.size - n) n (headArr n ops.size) = true) (hd : headOk ops n a0.tmps.size = true)
    (hstab : ∀ i v w w', D i v w → Ext w w' → D i v w')
    (hstep : ∀ i, i < n → ∀ (o : Oper), ops[i]? = some o → ∀ (ρ : Operand → Value) (w' : World), Sees ρ → Ext w w' → (∀ t, (∀ j, j < n → dstAt ops j ≠ some t) → ρ (.tmp t) = a0.tmps.getD t undef) →
      (∀ e ∈ o.after, Region.binds .any e = true → ∀ d, dstAt ops e.on = some d → D e.on (ρ (.tmp d)) w') → OpDoes P o ρ w' fun v w'' => D i v w'' ∧ Ext w' w'')
    (hrest : ∀ (vs : List Value) (w' : World), vs.length = n → (∀ i v, vs[i]? = some v → D i v w') → Ext w w' → wpList P ops Q (ops.toList.drop n) ⟨putAll (headDsts ops n) vs a0.tmps, a0.defers⟩ w') :
    (Code.region id ops true).wp P Q a0 w := by
  refine wp_region_any hm ?_
  have hcnt : (List.range n).countP (fun i => !(Array.replicate ops.size false).getD i false) = n := by
    rw [List.countP_eq_length.2]
    · simp
    · intro i _
      rw [getD_replicate_false]
      rfl
  have h := wpAny_head (P := P) (ops := ops) (Q := Q) (n := n) (a0 := a0) (w0 := w) (D := D) hs hc hn hq hd hstab hstep
    (fun a w' hinv => by
      obtain ⟨vs, h1, h2, rfl⟩ := hinv_frame hd hinv hn
      exact hrest vs w' h1 h2 hinv.ext)
    n (Array.replicate ops.size false) a0 w.drew
    ⟨by simp, fun j oj _ hl => absurd hl (by rw [getD_replicate_false]; simp), fun t h1 h2 => by simp [h2]⟩ hcnt
    ⟨rfl, rfl, fun _ _ => rfl, fun i d _ hl => absurd hl (by rw [getD_replicate_false]; simp), (Ext.refl w).drew⟩
  rw [show n + (ops.size - n) = ops.size by omega] at h
  exact h

def outB (ops : Array Oper) (n t : Nat) : Bool := (List.range n).all fun j => decide (dstAt ops j ≠ some t)
def predB (ops : Array Oper) (i j d : Nat) : Bool := (match ops[i]? with | some o => o.after.any fun e => Region.binds .any e && decide (e.on = j) | none => false) && decide (dstAt ops j = some d)
/-- the obligation of the i-th operation -/
def StepOk (P : Program) (ops : Array Oper) (n : Nat) (a0 : Act) (w : World) (D : Nat → Value → World → Prop) (i : Nat) : Prop :=
  ∀ (ρ : Operand → Value) (w' : World), Sees ρ → Ext w w' → (∀ t, outB ops n t = true → ρ (.tmp t) = a0.tmps.getD t undef) → (∀ j d, predB ops i j d = true → D j (ρ (.tmp d)) w') →
    match ops[i]? with | some o => OpDoes P o ρ w' fun v w'' => D i v w'' ∧ Ext w' w'' | none => False
def AllTo (F : Nat → Prop) : Nat → Prop
  | 0 => True
  | n + 1 => AllTo F n ∧ F n
theorem AllTo.get {F : Nat → Prop} : ∀ {n : Nat}, AllTo F n → ∀ i, i < n → F i
  | 0, _, i, h => absurd h (Nat.not_lt_zero i)
  | n + 1, h, i, hi => by
    by_cases e : i = n
    · subst e; exact h.2
    · exact h.1.get i (by omega)

theorem wp_region_steps {id : Nat} {w : World} (hm : P.follows .mixedOrders = true) (n : Nat) (D : Nat → Value → World → Prop) (hs : Region.sinkB .any ops n = true) (hc : Region.chainB .any ops n = true) (hn : n < ops.size)
    (hq : Region.seqB .any ops (ops.size - n) n (headArr n ops.size) = true) (hd : headOk ops n a0.tmps.size = true)
    (hstab : ∀ i v w w', D i v w → Ext w w' → D i v w')
    (hstep : AllTo (StepOk P ops n a0 w D) n)
    (hrest : ∀ (vs : List Value) (w' : World), vs.length = n → (∀ i v, vs[i]? = some v → D i v w') → Ext w w' → wpList P ops Q (ops.toList.drop n) ⟨putAll (headDsts ops n) vs a0.tmps, a0.defers⟩ w') :
    (Code.region id ops true).wp P Q a0 w := by
  refine wp_region_head hm n D hs hc hn hq hd hstab (fun i hi o ho ρ w' hS hx hout hpre => ?_) hrest
  have h := hstep.get i hi ρ w' hS hx (fun t ht => hout t fun j hj => by
    have := List.all_eq_true.1 ht j (List.mem_range.2 hj)
    simpa using this) (fun j d hjd => by
      unfold predB at hjd
      rw [ho] at hjd
      simp only [Bool.and_eq_true, decide_eq_true_eq] at hjd
      obtain ⟨e, he, hb⟩ := Array.any_eq_true'.1 hjd.1
      simp only [Bool.and_eq_true, decide_eq_true_eq] at hb
      obtain ⟨hb1, rfl⟩ := hb
      exact hpre e he hb1 d hjd.2)
  rw [ho] at h
  exact h
end
end Go.Proofs.YtfjpglohcppjeaaDoor

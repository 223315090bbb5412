/- The region's rule once more, where ONE operation of the head (number x, pure) may also run after the tail's first (a store): a call's result parted, one part stored. -/
import Derived.Test.YtkkldciofndedaaRegion
namespace Go.Proofs.Ytkkldciofndedaa
open Go.RowKit
set_option linter.unusedVariables false

def mustB (ops : Array Oper) (n x : Nat) : Bool :=
  (List.range n).all fun i => decide (i = x) || (List.range (n + 1)).any fun j => decide (i < j) && decide (j ≠ x) && Region.waitsFor .any ops j i

section
variable {P : Program} {ops : Array Oper} {Q : Exit → Act → World → Prop} {n x : Nat} {a0 : Act} {w0 : World} {D : Nat → Value → World → Prop}

theorem must_waits {listed : Array Bool} (hs : mustB ops n x = true) (inv : HeadInv .any ops n listed) (hn : n < ops.size) :
    ∀ (d i : Nat), n - i = d → i < n → i ≠ x → listed.getD i true = false → n ∉ Region.ready .any ops listed := by
  intro d
  induction d using Nat.strongRecOn with
  | _ d ih =>
    intro i hd hi hix hun hr
    obtain ⟨_, ot, hot, hall⟩ := mem_ready.1 hr
    have h1 := List.all_eq_true.1 hs i (List.mem_range.2 hi)
    simp only [hix, decide_false, Bool.false_or] at h1
    obtain ⟨j, hj, hj2⟩ := List.any_eq_true.1 h1
    simp only [Bool.and_eq_true, decide_eq_true_eq] at hj2
    obtain ⟨⟨hij, hjx⟩, hw⟩ := hj2
    obtain ⟨oj, hoj, e, he, hb, hon⟩ := Region.waitsFor_spec hw
    have hjle : j ≤ n := by have := List.mem_range.1 hj; omega
    by_cases hjt : j = n
    · subst hjt
      have : oj = ot := Option.some.inj (hoj.symm.trans hot)
      subst this
      have h2 := hall e he hb
      rw [hon, getD_both hun] at h2
      cases h2
    · cases hl : listed.getD j false with
      | true =>
        have h3 := inv.closed j oj hoj hl e he hb
        rw [hon, getD_both hun] at h3
        cases h3
      | false => exact ih (n - j) (by omega) j rfl (by omega) hjx (getD_in (by rw [inv.size]; omega) hl) hr
theorem chain_waits {listed : Array Bool} (hc : Region.chainB .any ops n = true) (inv : HeadInv .any ops n listed) {t : Nat} (ht : n < t) : t ∉ Region.ready .any ops listed := by
  intro hr
  obtain ⟨_, ot, hot, hall⟩ := mem_ready.1 hr
  have htlt : t < ops.size := (Array.getElem?_eq_some_iff.1 hot).1
  have h1 := List.all_eq_true.1 hc t (List.mem_range.2 htlt)
  simp only [Bool.or_eq_true, decide_eq_true_eq] at h1
  rcases h1 with h1 | h1
  · omega
  · obtain ⟨oj, hoj, e, he, hb, hon⟩ := Region.waitsFor_spec h1
    have : oj = ot := Option.some.inj (hoj.symm.trans hot)
    subst this
    have h2 := hall e he hb
    rw [hon, getD_both (inv.tail (t - 1) (by omega) (by omega))] at h2
    cases h2

theorem headArr_getD {m k : Nat} (h : n ≤ m) (hk : k < m) : (headArr n m).getD k false = decide (k < n) := by
  have h2 : k < (headArr n m).size := by simp [headArr]; omega
  simp only [Array.getD, h2, dif_pos]
  show (headArr n m)[k] = _
  rcases Nat.lt_or_ge k n with hk' | hk'
  · simp [headArr, hk']
  · simp [headArr, List.getElem_append, Nat.not_lt.2 hk']
theorem bool_ext {a b : Array Bool} (hs : a.size = b.size) (h : ∀ k, k < a.size → a.getD k false = b.getD k false) : a = b := by
  apply Array.ext hs
  intro k h1 h2
  have := h k h1
  simpa [h1, h2] using this

theorem HInv.put {listed : Array Bool} {a : Act} {w w' : World} {i d : Nat} {v : Value} {o : Oper} (hd : headOk ops n a0.tmps.size = true) (hin : i < n) (hlt : i < listed.size) (hdi : dstAt ops i = some d) (hul : listed.getD i false = false)
    (hinv : HInv ops n a0 w0 D listed a w) (hstab : ∀ i v w w', D i v w → Ext w w' → D i v w') (hv : D i v w' ∧ Ext w w') : HInv ops n a0 w0 D (listed.setIfInBounds i true) (a.put (some d) v) w' := by
  obtain ⟨o', d', ho, hg, hback, hdst, hdlt, hdist⟩ := headOk_spec hd hin
  have hdd : d' = d := by
    have : dstAt ops i = some d' := by simp [dstAt, ho, hdst]
    exact Option.some.inj (this.symm.trans hdi)
  subst hdd
  refine ⟨hinv.defers, by simp [Act.put, hinv.size], fun t ht => ?_, fun j dj hj hl hdj => ?_, hinv.ext.trans hv.2⟩
  · have htd : d' ≠ t := fun e => ht i hin (by simp [hlt]) (by rw [hdi, e])
    have h1 : a.tmps.getD t undef = a0.tmps.getD t undef := hinv.out t fun j hj hl => ht j hj (by
      by_cases hji : j = i
      · subst hji; rw [hl] at hul; cases hul
      · rw [getD_set_ne false (fun e => hji e.symm)]; exact hl)
    rw [← h1]
    simp [Act.put, htd]
  · by_cases hji : j = i
    · subst hji
      have : dj = d' := Option.some.inj (hdj.symm.trans hdi)
      subst this
      have h : dj < a.tmps.size := by rw [hinv.size]; exact hdlt
      have e : (a.put (some dj) v).tmps.getD dj undef = v := by simp [Act.put, h]
      rw [e]; exact hv.1
    · have hl' : listed.getD j false = true := by rwa [getD_set_ne false (fun e => hji e.symm)] at hl
      have hne : d' ≠ dj := fun e => hdist j hj hji (by rw [hdj, e])
      have e : (a.put (some d') v).tmps.getD dj undef = a.tmps.getD dj undef := by simp [Act.put, hne]
      rw [e]
      exact hstab j _ w w' (hinv.held j dj hj hl' hdj) hv.2

theorem wpAny_head1 (hx : x < n) (hs : mustB ops n x = true) (hc : Region.chainB .any ops n = true) (hn : n < ops.size) (hq : Region.seqB .any ops (ops.size - n) n (headArr n ops.size) = true)
    (hq1 : Region.ready .any ops (((headArr n ops.size).setIfInBounds x false).setIfInBounds n true) = [x])
    (hq2 : Region.seqB .any ops (ops.size - (n + 1)) (n + 1) ((((headArr n ops.size).setIfInBounds x false).setIfInBounds n true).setIfInBounds x true) = true)
    (hd : headOk ops n a0.tmps.size = true)
    (hstab : ∀ i v w w', D i v w → Ext w w' → D i v w')
    (hstep : ∀ i, i < n → i ≠ x → ∀ (o : Oper), ops[i]? = some o → ∀ (ρ : Operand → Value) (w : World), Sees ρ → Ext w0 w → (∀ t, (∀ j, j < n → dstAt ops j ≠ some t) → ρ (.tmp t) = a0.tmps.getD t undef) →
      (∀ e ∈ o.after, Region.binds .any e = true → ∀ d, dstAt ops e.on = some d → D e.on (ρ (.tmp d)) w) → OpDoes P o ρ w fun v w' => D i v w' ∧ Ext w w')
    (hidle : ∀ (o : Oper), ops[x]? = some o → ∀ (ρ : Operand → Value) (w : World), Sees ρ → Ext w0 w → (∀ t, (∀ j, j < n → dstAt ops j ≠ some t) → ρ (.tmp t) = a0.tmps.getD t undef) →
      (∀ e ∈ o.after, Region.binds .any e = true → ∀ d, dstAt ops e.on = some d → D e.on (ρ (.tmp d)) w) → ∃ v, (∀ W, (execOp ρ o).run P W = .ok (.value v) W) ∧ D x v w)
    (hlast : ∀ (o : Oper) (d : Tmp), ops[n]? = some o → dstAt ops x = some d → o.guard = none ∧ o.dst = none ∧ ∀ (a : Act) (v : Value), execOp (a.put (some d) v).eval o = execOp a.eval o)
    (hrest : ∀ (a : Act) (w : World), HInv ops n a0 w0 D (headArr n ops.size) a w → ∃ o w', ops[n]? = some o ∧ (execOp a.eval o).run P w = .ok .skip w' ∧ wpList P ops Q (ops.toList.drop (n + 1)) a w') :
    ∀ (m : Nat) (listed : Array Bool) (a : Act) (w : World), HeadInv .any ops n listed → (List.range n).countP (fun i => !listed.getD i false) = m → HInv ops n a0 w0 D listed a w →
      wpAny P .any ops Q (m + (ops.size - n)) listed a w := by
  obtain ⟨oh, dx, hox, hgx, hbackx, hdstx, hdxlt, hdistx⟩ := headOk_spec hd hx
  have hdx : dstAt ops x = some dx := by simp [dstAt, hox, hdstx]
  obtain ⟨ol, hol⟩ : ∃ o, ops[n]? = some o := ⟨_, Array.getElem?_eq_getElem hn⟩
  obtain ⟨hlg, hld, hlx⟩ := hlast ol dx hol hdx
  have hlen : (ops.toList.drop (n + 1)).length = ops.size - (n + 1) := by simp
  have hdrop : ops.toList.drop n = ol :: ops.toList.drop (n + 1) := by
    have h1 : n < ops.toList.length := by simpa using hn
    rw [List.drop_eq_getElem_cons h1]
    congr 1
    have := hol
    rw [Array.getElem?_eq_getElem hn] at this
    simpa using this
  intro m
  induction m with
  | zero =>
    intro listed a w inv hcnt hinv
    have hall : ∀ i, i < n → listed.getD i false = true := fun i hi => by
      have := List.countP_eq_zero.1 hcnt i (List.mem_range.2 hi)
      simpa using this
    have e : listed = headArr n ops.size := by
      refine bool_ext (by rw [inv.size]; simp [headArr]; omega) fun k hk => ?_
      rw [headArr_getD (by omega) (by rw [← inv.size]; exact hk)]
      rcases Nat.lt_or_ge k n with h | h
      · simp [hall k h, h]
      · rw [getD_both (inv.tail k h (by rw [← inv.size]; exact hk))]; simp [Nat.not_lt.2 h]
    subst e
    have hl : (ops.toList.drop n).length = ops.size - n := by simp
    rw [Nat.zero_add, ← hl]
    refine wpAny_of_seq (ops.toList.drop n) n _ a w (fun j => by simp) (by rw [hl]; exact hq) ?_
    obtain ⟨o, w', ho, hrun, hR⟩ := hrest a w hinv
    have : o = ol := Option.some.inj (ho.symm.trans hol)
    subst this
    rw [hdrop]
    unfold wpList
    rw [if_pos (by simp [Region.wanted, hlg])]
    left
    unfold Oper.wp
    rw [hrun, Oper.upon_skip, hld]
    exact hR
  | succ m ih =>
    intro listed a w inv hcnt hinv
    have hex : ∃ i, i < n ∧ listed.getD i false = false := by
      have : 0 < (List.range n).countP (fun i => !listed.getD i false) := by omega
      obtain ⟨i, hi, hu⟩ := List.countP_pos_iff.1 this
      exact ⟨i, List.mem_range.1 hi, by simpa using hu⟩
    have hun : ∀ i, i < n → listed.getD i false = false → listed.getD i true = false := fun i hi h => getD_in (by rw [inv.size]; omega) h
    rw [show m + 1 + (ops.size - n) = (m + (ops.size - n)) + 1 by omega]
    refine ⟨fun h0 => ?_, fun i hi => ?_⟩
    · exfalso
      have hleast : ∀ k, ∀ i, i < n → listed.getD i false = false → i ≤ k → ∃ j, j ∈ Region.ready .any ops listed := by
        intro k
        induction k using Nat.strongRecOn with
        | _ k ihk =>
          intro i hi hu hik
          by_cases hlow : ∃ j, j < i ∧ listed.getD j false = false
          · obtain ⟨j, hj, hju⟩ := hlow
            exact ihk j (by omega) j (by omega) hju (Nat.le_refl _)
          · obtain ⟨o, d, ho, _, hback, _⟩ := headOk_spec hd hi
            refine ⟨i, mem_ready.2 ⟨hun i hi hu, o, ho, fun e he hb => ?_⟩⟩
            have hlt := hback e he hb
            cases hv : listed.getD e.on false with
            | true => rfl
            | false => exact (hlow ⟨e.on, hlt, hv⟩).elim
      obtain ⟨i, hi, hu⟩ := hex
      obtain ⟨j, hj⟩ := hleast i i hi hu (Nat.le_refl _)
      rw [h0] at hj
      cases hj
    · by_cases hin : i < n
      · obtain ⟨o, d, ho, hg, hback, hdst, hdlt, hdist⟩ := headOk_spec hd hin
        obtain ⟨hiu, oi, hoi, hall⟩ := mem_ready.1 hi
        have : oi = o := Option.some.inj (hoi.symm.trans ho)
        subst this
        have hdi : dstAt ops i = some d := by simp [dstAt, ho, hdst]
        have hiu' := getD_both hiu
        refine wpOp_step ho fun K' hK => ?_
        rw [if_pos (by simp [Region.wanted, hg])]
        have hpre : ∀ e ∈ oi.after, Region.binds .any e = true → ∀ d', dstAt ops e.on = some d' → D e.on (a.eval (.tmp d')) w := fun e he hb d' hd' =>
          hinv.held e.on d' (by have := hback e he hb; omega) (hall e he hb) hd'
        have hρ : OpDoes P oi a.eval w fun v w' => D i v w' ∧ Ext w w' := by
          by_cases hix : i = x
          · subst hix
            obtain ⟨v, hr, hv⟩ := hidle oi ho a.eval w (sees_act a) hinv.ext (fun t ht => hinv.out t (fun j hj _ => ht j hj)) hpre
            exact OpDoes.value (hr w) ⟨hv, Ext.refl _⟩
          · exact hstep i hin hix oi ho a.eval w (sees_act a) hinv.ext (fun t ht => hinv.out t (fun j hj _ => ht j hj)) hpre
        refine hρ.wp fun v w' hv => hK _ _ ?_
        refine ih (listed.setIfInBounds i true) _ w' (inv.set hi hin) ?_ ?_
        · have hc' := countP_set n (fun j => !listed.getD j false) (fun j => !(listed.setIfInBounds i true).getD j false) i hin (by show (!listed.getD i false) = true; rw [hiu']; rfl)
            (by
              have : (listed.setIfInBounds i true).getD i false = true := by
                have h : i < listed.size := by rw [inv.size]; omega
                simp [h]
              show (!(listed.setIfInBounds i true).getD i false) = false
              rw [this]; rfl)
            (fun j hj => by show (!(listed.setIfInBounds i true).getD j false) = (!listed.getD j false); rw [getD_set_ne false (fun e => hj e.symm)])
          omega
        · rw [hdst]
          exact HInv.put (o := oi) hd hin (by rw [inv.size]; omega) hdi hiu' hinv hstab hv
      · -- the tail's first runs ahead of x
        have hi' : i = n := by
          rcases Nat.lt_or_ge n i with h | h
          · exact (chain_waits hc inv h hi).elim
          · omega
        subst hi'
        have hmust : ∀ j, j < i → j ≠ x → listed.getD j false = true := fun j hj hjx => by
          cases h : listed.getD j false with
          | true => rfl
          | false => exact (must_waits hs inv hn _ j rfl hj hjx (hun j hj h) hi).elim
        have hxu : listed.getD x false = false := by
          obtain ⟨k, hk, hu⟩ := hex
          by_cases hkx : k = x
          · rw [← hkx]; exact hu
          · rw [hmust k hk hkx] at hu; cases hu
        have hsz : x < listed.size := by rw [inv.size]; omega
        have hm0 : m = 0 := by
          have hc' := countP_set i (fun j => !listed.getD j false) (fun j => !(listed.setIfInBounds x true).getD j false) x hx (by show (!listed.getD x false) = true; rw [hxu]; rfl)
            (by
              have : (listed.setIfInBounds x true).getD x false = true := by simp [hsz]
              show (!(listed.setIfInBounds x true).getD x false) = false
              rw [this]; rfl)
            (fun j hj => by show (!(listed.setIfInBounds x true).getD j false) = (!listed.getD j false); rw [getD_set_ne false (fun e => hj e.symm)])
          have h0 : (List.range i).countP (fun j => !(listed.setIfInBounds x true).getD j false) = 0 := by
            refine List.countP_eq_zero.2 fun j hj => ?_
            by_cases hjx : j = x
            · subst hjx; simp [hsz]
            · rw [getD_set_ne false (fun e => hjx e.symm), hmust j (List.mem_range.1 hj) hjx]; simp
          omega
        subst hm0
        have hfull : listed.setIfInBounds x true = headArr i ops.size := by
          refine bool_ext (by rw [Array.size_setIfInBounds, inv.size]; simp [headArr]; omega) fun k hk => ?_
          rw [Array.size_setIfInBounds, inv.size] at hk
          rw [headArr_getD (by omega) hk]
          by_cases hkx : k = x
          · subst hkx; simp [hsz, hx]
          · rw [getD_set_ne false (fun e => hkx e.symm)]
            rcases Nat.lt_or_ge k i with h | h
            · simp [hmust k h hkx, h]
            · rw [getD_both (inv.tail k h hk)]; simp [Nat.not_lt.2 h]
        have hlst : listed = (headArr i ops.size).setIfInBounds x false := by
          rw [← hfull]
          refine bool_ext (by simp) fun k hk => ?_
          by_cases hkx : k = x
          · subst hkx; simp [hsz, hxu]
          · have hxk : x ≠ k := fun e => hkx e.symm
            simp [hxk]
        obtain ⟨v, hrx, hvx⟩ := hidle oh hox a.eval w (sees_act a) hinv.ext (fun t ht => hinv.out t (fun j hj _ => ht j hj)) (fun e he hb d' hd' => by
          have hlt := hbackx e he hb
          exact hinv.held e.on d' (by omega) (hmust e.on (by omega) (by omega)) hd')
        have hput := HInv.put (o := oh) hd hx hsz hdx hxu hinv hstab ⟨hvx, Ext.refl w⟩
        rw [hfull] at hput
        obtain ⟨o, w', ho, hrun, hR⟩ := hrest _ w hput
        have : o = ol := Option.some.inj (ho.symm.trans hol)
        subst this
        rw [hlx] at hrun
        refine wpOp_step ho fun K' hK => ?_
        rw [if_pos (by simp [Region.wanted, hlg])]
        unfold Oper.wp
        rw [hrun, Oper.upon_skip, hld]
        refine hK _ _ ?_
        rw [hlst, Nat.zero_add, show ops.size - i = (ops.size - (i + 1)) + 1 by omega]
        refine ⟨fun h0 => (by rw [hq1] at h0; cases h0), fun j hj => ?_⟩
        rw [hq1] at hj
        have hjx : j = x := by simpa using hj
        subst hjx
        refine wpOp_step hox fun K' hK => ?_
        rw [if_pos (by simp [Region.wanted, hgx])]
        unfold Oper.wp
        have hae : ∀ (a : Act) (v : Value), (a.put none v) = a := fun _ _ => rfl
        rw [hae, hrx w', Oper.upon_value, hdstx]
        refine hK _ _ ?_
        rw [← hlen]
        exact wpAny_of_seq (ops.toList.drop (i + 1)) (i + 1) _ _ w' (fun j => by simp) (by rw [hlen]; exact hq2) hR

theorem eval_put_ne (a : Act) (v : Value) {d t : Tmp} (h : d ≠ t) : (a.put (some d) v).eval (.tmp t) = a.eval (.tmp t) := by
  show (a.tmps.setIfInBounds d v).getD t undef = a.tmps.getD t undef
  simp [h]
theorem last_store (a : Act) (v : Value) (ty ty' : TypeId) (ps : String) (af : Array Edge) (gd : Option (Nat × Bool)) (ds : Option Tmp) {d p q : Tmp} (h1 : d ≠ p) (h2 : d ≠ q) :
    execOp (a.put (some d) v).eval { dst := ds, op := .store ty (.tmp p) (.tmp q), type := ty', pos := ps, after := af, guard := gd } = execOp a.eval { dst := ds, op := .store ty (.tmp p) (.tmp q), type := ty', pos := ps, after := af, guard := gd } := by
  simp only [execOp, eval_put_ne a v h1, eval_put_ne a v h2]

/-- THE RULE with one idle operation x. -/
theorem wp_region_steps1 {id : Nat} {w : World} (hm : P.follows .mixedOrders = true) (n x : Nat) (D : Nat → Value → World → Prop) (hx : x < n) (hs : mustB ops n x = true) (hc : Region.chainB .any ops n = true) (hn : n < ops.size)
    (hq : Region.seqB .any ops (ops.size - n) n (headArr n ops.size) = true)
    (hq1 : Region.ready .any ops (((headArr n ops.size).setIfInBounds x false).setIfInBounds n true) = [x])
    (hq2 : Region.seqB .any ops (ops.size - (n + 1)) (n + 1) ((((headArr n ops.size).setIfInBounds x false).setIfInBounds n true).setIfInBounds x true) = true)
    (hd : headOk ops n a0.tmps.size = true)
    (hlast : match ops[n]?, dstAt ops x with | some o, some d => o.guard = none ∧ o.dst = none ∧ ∀ (a : Act) (v : Value), execOp (a.put (some d) v).eval o = execOp a.eval o | _, _ => False)
    (hstab : ∀ i v w w', D i v w → Ext w w' → D i v w')
    (hstep : AllTo (fun i => i ≠ x → StepOk P ops n a0 w D i) n)
    (hidle : ∀ (ρ : Operand → Value) (w' : World), Sees ρ → Ext w w' → (∀ t, outB ops n t = true → ρ (.tmp t) = a0.tmps.getD t undef) → (∀ j d, predB ops x j d = true → D j (ρ (.tmp d)) w') →
      match ops[x]? with | some o => ∃ v, (∀ W, (execOp ρ o).run P W = .ok (.value v) W) ∧ D x v w' | none => False)
    (hrest : ∀ (vs : List Value) (w' : World), vs.length = n → (∀ i v, vs[i]? = some v → D i v w') → Ext w w' →
      match ops[n]? with
      | some o => ∃ w'', (execOp (Act.mk (putAll (headDsts ops n) vs a0.tmps) a0.defers).eval o).run P w' = .ok .skip w'' ∧ wpList P ops Q (ops.toList.drop (n + 1)) ⟨putAll (headDsts ops n) vs a0.tmps, a0.defers⟩ w''
      | none => False) :
    (Code.region id ops true).wp P Q a0 w := by
  refine wp_region_any hm ?_
  have hcnt : (List.range n).countP (fun i => !(Array.replicate ops.size false).getD i false) = n := by
    rw [List.countP_eq_length.2]
    · simp
    · intro i _
      rw [getD_replicate_false]
      rfl
  have hbr : ∀ {ρ : Operand → Value} {i : Nat} {o : Oper} {w' : World}, ops[i]? = some o → (∀ e ∈ o.after, Region.binds .any e = true → ∀ d, dstAt ops e.on = some d → D e.on (ρ (.tmp d)) w') → ∀ j d, predB ops i j d = true → D j (ρ (.tmp d)) w' := fun {ρ i o w'} ho hpre j d hjd => by
    unfold predB at hjd
    rw [ho] at hjd
    simp only [Bool.and_eq_true, decide_eq_true_eq] at hjd
    obtain ⟨e, he, hb⟩ := Array.any_eq_true'.1 hjd.1
    simp only [Bool.and_eq_true, decide_eq_true_eq] at hb
    obtain ⟨hb1, rfl⟩ := hb
    exact hpre e he hb1 d hjd.2
  have hbo : ∀ {ρ : Operand → Value}, (∀ t, (∀ j, j < n → dstAt ops j ≠ some t) → ρ (.tmp t) = a0.tmps.getD t undef) → ∀ t, outB ops n t = true → ρ (.tmp t) = a0.tmps.getD t undef := fun {ρ} hout t ht => hout t fun j hj => by
    have := List.all_eq_true.1 ht j (List.mem_range.2 hj)
    simpa using this
  have h := wpAny_head1 (P := P) (ops := ops) (Q := Q) (n := n) (x := x) (a0 := a0) (w0 := w) (D := D) hx hs hc hn hq hq1 hq2 hd hstab
    (fun i hi hix o ho ρ w' hS hxx hout hpre => by
      have h := hstep.get i hi hix ρ w' hS hxx (hbo hout) (hbr ho hpre)
      rw [ho] at h
      exact h)
    (fun o ho ρ w' hS hxx hout hpre => by
      have h := hidle ρ w' hS hxx (hbo hout) (hbr ho hpre)
      rw [ho] at h
      exact h)
    (fun o d ho hdx => by
      rw [ho, hdx] at hlast
      exact hlast)
    (fun a w' hinv => by
      obtain ⟨vs, h1, h2, rfl⟩ := hinv_frame hd hinv hn
      have h := hrest vs w' h1 h2 hinv.ext
      split at h
      · rename_i o ho
        obtain ⟨w'', h3, h4⟩ := h
        exact ⟨o, w'', ho, h3, h4⟩
      · exact h.elim)
    n (Array.replicate ops.size false) a0 w.drew
    ⟨by simp, fun j oj _ hl => absurd hl (by rw [getD_replicate_false]; simp), fun t h1 h2 => by simp [h2]⟩ hcnt
    ⟨rfl, rfl, fun _ _ => rfl, fun i d _ hl => absurd hl (by rw [getD_replicate_false]; simp), (Ext.refl w).drew⟩
  rw [show n + (ops.size - n) = ops.size by omega] at h
  exact h
end
end Go.Proofs.Ytkkldciofndedaa

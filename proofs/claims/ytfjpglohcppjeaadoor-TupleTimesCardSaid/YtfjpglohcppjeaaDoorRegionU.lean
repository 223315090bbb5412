/- The rule for every region that draws its order: one obligation an operation; guards; writers in a forced order, with a state J k of the world behind the k-th writer. -/
import Derived.Test.YtfjpglohcppjeaaDoorRegion
namespace Go.Proofs.YtfjpglohcppjeaaDoor
open Go.RowKit
set_option linter.unusedVariables false
set_option linter.unusedSimpArgs false

/-- what one operation does, its operands seen through ρ -/
def DoesU (P : Program) (o : Oper) (ρ : Operand → Value) (w : World) (post : Value → World → Prop) : Prop :=
  match (execOp ρ o).run P w with
  | .ok (.value v) w' => post v w'
  | .ok .skip w' => post undef w'
  | .ok (.enter f args) w' => Calls P f args w' fun e w'' => ∃ v, e = .returned v ∧ post v w''
  | _ => False
theorem DoesU.wp {P : Program} {o : Oper} {a : Act} {w : World} {post : Value → World → Prop} {next : Act → World → Prop} {Q : Exit → Act → World → Prop}
    (h : DoesU P o a.eval w post) (hn : ∀ v w', post v w' → next (a.put o.dst v) w') : o.wp P a w next Q := by
  unfold Oper.wp
  unfold DoesU at h
  split at h
  · rename_i v w' e
    rw [e]; exact hn _ _ h
  · rename_i w' e
    rw [e]; exact hn _ _ h
  · rename_i f args w' e
    rw [e]
    exact Calls.mono h (by rintro e w'' ⟨v, rfl, hp⟩; exact hn v w'' hp)
  · exact h.elim
theorem DoesU.value {P : Program} {o : Oper} {ρ : Operand → Value} {w w' : World} {post : Value → World → Prop} {v : Value} (h : (execOp ρ o).run P w = .ok (.value v) w') (hp : post v w') : DoesU P o ρ w post := by
  unfold DoesU; rw [h]; exact hp
theorem DoesU.skip {P : Program} {o : Oper} {ρ : Operand → Value} {w w' : World} {post : Value → World → Prop} (h : (execOp ρ o).run P w = .ok .skip w') (hp : post undef w') : DoesU P o ρ w post := by
  unfold DoesU; rw [h]; exact hp
theorem DoesU.call {P : Program} {o : Oper} {ρ : Operand → Value} {w w' : World} {post : Value → World → Prop} {f : FuncId} {args : Array Value} (h : (execOp ρ o).run P w = .ok (.enter f args) w')
    (hp : Calls P f args w' fun e w'' => ∃ v, e = .returned v ∧ post v w'') : DoesU P o ρ w post := by
  unfold DoesU; rw [h]; exact hp
theorem DoesU.mono {P : Program} {o : Oper} {ρ : Operand → Value} {w : World} {p q : Value → World → Prop} (h : DoesU P o ρ w p) (hpq : ∀ v w', p v w' → q v w') : DoesU P o ρ w q := by
  unfold DoesU at h ⊢
  split at h
  · exact hpq _ _ h
  · exact hpq _ _ h
  · exact Calls.mono h (by rintro e w'' ⟨v, rfl, hp⟩; exact ⟨v, rfl, hpq v w'' hp⟩)
  · exact h.elim

def maskOf (o : Oper) (M : Nat → Nat) : Nat := o.after.toList.foldl (fun m e => if Region.binds .any e then m ||| ((1 <<< e.on) ||| M e.on) else m) 0
def ancGo : List Oper → List Nat → List Nat
  | [], acc => acc
  | o :: os, acc => ancGo os (acc ++ [maskOf o fun k => acc.getD k 0])
def okAnc (ops : Array Oper) (L : List Nat) : Bool := (List.range ops.size).all fun i => match ops[i]? with
  | some o => decide (L.getD i 0 = maskOf o fun k => L.getD k 0) && o.after.all (fun e => !Region.binds .any e || decide (e.on < i))
  | none => true
def isAnc (L : List Nat) (i j : Nat) : Bool := (L.getD i 0).testBit j

theorem foldl_mask (M : Nat → Nat) (j : Nat) : ∀ (l : List Edge) (m : Nat), (l.foldl (fun m e => if Region.binds .any e then m ||| ((1 <<< e.on) ||| M e.on) else m) m).testBit j = true →
    m.testBit j = true ∨ ∃ e ∈ l, Region.binds .any e = true ∧ (e.on = j ∨ (M e.on).testBit j = true)
  | [], m, h => .inl h
  | e :: l, m, h => by
    rw [List.foldl_cons] at h
    rcases foldl_mask M j l _ h with h1 | ⟨e', h1, h2⟩
    · by_cases hb : Region.binds .any e = true
      · rw [if_pos hb, Nat.testBit_or, Nat.testBit_or] at h1
        simp only [Bool.or_eq_true] at h1
        rcases h1 with h1 | h1 | h1
        · exact .inl h1
        · refine .inr ⟨e, by simp, hb, .inl ?_⟩
          rw [Nat.one_shiftLeft, Nat.testBit_two_pow] at h1
          simpa using h1
        · exact .inr ⟨e, by simp, hb, .inr h1⟩
      · rw [if_neg hb] at h1
        exact .inl h1
    · exact .inr ⟨e', List.mem_cons_of_mem _ h1, h2⟩
theorem okAnc_spec {ops : Array Oper} {L : List Nat} (h : okAnc ops L = true) {i j : Nat} {o : Oper} (ho : ops[i]? = some o) (hj : isAnc L i j = true) :
    ∃ e ∈ o.after, Region.binds .any e = true ∧ (e.on = j ∨ isAnc L e.on j = true) := by
  have h1 := List.all_eq_true.1 h i (List.mem_range.2 (Array.getElem?_eq_some_iff.1 ho).1)
  rw [ho] at h1
  simp only [Bool.and_eq_true, decide_eq_true_eq] at h1
  unfold isAnc at hj
  rw [h1.1] at hj
  rcases foldl_mask (fun k => L.getD k 0) j o.after.toList 0 hj with h2 | ⟨e, h2, h3⟩
  · simp at h2
  · exact ⟨e, by simpa using h2, h3⟩
theorem okAnc_back {ops : Array Oper} {L : List Nat} (h : okAnc ops L = true) {i : Nat} {o : Oper} (ho : ops[i]? = some o) : ∀ e ∈ o.after, Region.binds .any e = true → e.on < i := by
  intro e he hb
  have h1 := List.all_eq_true.1 h i (List.mem_range.2 (Array.getElem?_eq_some_iff.1 ho).1)
  rw [ho] at h1
  simp only [Bool.and_eq_true] at h1
  have := Array.all_eq_true'.1 h1.2 e he
  simpa [hb] using this

def ClosedU (ops : Array Oper) (listed : Array Bool) : Prop := ∀ j oj, ops[j]? = some oj → listed.getD j false = true → ∀ e ∈ oj.after, Region.binds .any e = true → listed.getD e.on false = true
theorem anc_listed {ops : Array Oper} {L : List Nat} {listed : Array Bool} (h : okAnc ops L = true) (hs : listed.size = ops.size) (hc : ClosedU ops listed) :
    ∀ (n i : Nat), i ≤ n → listed.getD i false = true → ∀ j, isAnc L i j = true → listed.getD j false = true := by
  intro n
  induction n with
  | zero =>
    intro i hi hl j hj
    obtain ⟨o, ho⟩ : ∃ o, ops[i]? = some o := ⟨_, Array.getElem?_eq_getElem (by
      rcases Nat.lt_or_ge i listed.size with g | g
      · omega
      · simp [Array.getElem?_eq_none g] at hl)⟩
    obtain ⟨e, he, hb, _⟩ := okAnc_spec h ho hj
    have := okAnc_back h ho e he hb
    omega
  | succ n ih =>
    intro i hi hl j hj
    obtain ⟨o, ho⟩ : ∃ o, ops[i]? = some o := ⟨_, Array.getElem?_eq_getElem (by
      rcases Nat.lt_or_ge i listed.size with g | g
      · omega
      · simp [Array.getElem?_eq_none g] at hl)⟩
    obtain ⟨e, he, hb, hor⟩ := okAnc_spec h ho hj
    have hlt := okAnc_back h ho e he hb
    have hel := hc i o ho hl e he hb
    rcases hor with rfl | hor
    · exact hel
    · exact ih e.on (by omega) hel j hor
theorem anc_ready {ops : Array Oper} {L : List Nat} {listed : Array Bool} (h : okAnc ops L = true) (hs : listed.size = ops.size) (hc : ClosedU ops listed) {i : Nat} (hi : i ∈ Region.ready .any ops listed) {j : Nat} (hj : isAnc L i j = true) :
    listed.getD j false = true := by
  obtain ⟨_, o, ho, hall⟩ := mem_ready.1 hi
  obtain ⟨e, he, hb, hor⟩ := okAnc_spec h ho hj
  have hel := hall e he hb
  rcases hor with rfl | hor
  · exact hel
  · exact anc_listed h hs hc e.on e.on (Nat.le_refl _) hel j hor

def dstOk (ops : Array Oper) (size : Nat) : Bool := (List.range ops.size).all fun i => match dstAt ops i with
  | some d => decide (d < size) && (List.range ops.size).all (fun j => decide (j = i) || decide (dstAt ops j ≠ some d))
  | none => true
theorem dstAt_lt {ops : Array Oper} {i d : Nat} (h : dstAt ops i = some d) : i < ops.size := by
  unfold dstAt at h
  rcases Nat.lt_or_ge i ops.size with g | g
  · exact g
  · rw [Array.getElem?_eq_none g] at h; cases h
theorem dstOk_spec {ops : Array Oper} {size i d : Nat} (h : dstOk ops size = true) (hd : dstAt ops i = some d) : d < size ∧ ∀ j, j ≠ i → dstAt ops j ≠ some d := by
  have h1 := List.all_eq_true.1 h i (List.mem_range.2 (dstAt_lt hd))
  rw [hd] at h1
  simp only [Bool.and_eq_true, decide_eq_true_eq] at h1
  refine ⟨h1.1, fun j hne hj => ?_⟩
  have := List.all_eq_true.1 h1.2 j (List.mem_range.2 (dstAt_lt hj))
  simp [hne] at this
  exact this hj

/-- the guard's word -/
def GSay (ops : Array Oper) (ρ : Operand → Value) (o : Oper) (yes no : Prop) : Prop :=
  match o.guard with
  | none => yes
  | some (g, b) => match dstAt ops g with
    | some d => ∃ c : Bool, ρ (.tmp d) = .bool c ∧ ((c = b → yes) ∧ (c ≠ b → no))
    | none => False
theorem GSay.none {ops : Array Oper} {ρ : Operand → Value} {o : Oper} {yes no : Prop} (hg : o.guard = Option.none) (h : yes) : GSay ops ρ o yes no := by unfold GSay; rw [hg]; exact h
theorem GSay.on {ops : Array Oper} {ρ : Operand → Value} {o : Oper} {yes no : Prop} {g d : Nat} {b : Bool} (hg : o.guard = some (g, b)) (hd : dstAt ops g = some d) (hv : ρ (.tmp d) = .bool b) (h : yes) : GSay ops ρ o yes no := by
  unfold GSay; rw [hg]; simp only [hd]; exact ⟨b, hv, fun _ => h, fun hn => absurd rfl hn⟩
theorem GSay.off {ops : Array Oper} {ρ : Operand → Value} {o : Oper} {yes no : Prop} {g d : Nat} {b c : Bool} (hg : o.guard = some (g, b)) (hd : dstAt ops g = some d) (hv : ρ (.tmp d) = .bool c) (hc : c ≠ b) (h : no) : GSay ops ρ o yes no := by
  unfold GSay; rw [hg]; simp only [hd]; exact ⟨c, hv, fun hn => absurd hn hc, fun _ => h⟩
theorem GSay.wanted {ops : Array Oper} {a : Act} {o : Oper} {yes no : Prop} (h : GSay ops a.eval o yes no) : (Region.wanted o (yielded ops a.tmps) = true → yes) ∧ (Region.wanted o (yielded ops a.tmps) = false → no) := by
  unfold GSay at h
  unfold Region.wanted
  cases hg : o.guard with
  | none => rw [hg] at h; exact ⟨fun _ => h, fun hh => by cases hh⟩
  | some gb =>
    obtain ⟨g, b⟩ := gb
    rw [hg] at h
    simp only at h ⊢
    split at h
    · rename_i d hd
      obtain ⟨c, hv, h1, h2⟩ := h
      have hv' : a.tmps.getD d undef = .bool c := hv
      have hy : yielded ops a.tmps g = some c := by
        unfold yielded
        have hd' : (ops[g]?).bind (·.dst) = some d := hd
        rw [hd']
        simp only [Option.bind_some]
        rcases Nat.lt_or_ge d a.tmps.size with hlt | hge
        · rw [Array.getD_eq_getD_getElem?, Array.getElem?_eq_getElem hlt, Option.getD_some] at hv'
          rw [Array.getElem?_eq_getElem hlt, hv']
        · rw [Array.getD_eq_getD_getElem?, Array.getElem?_eq_none hge] at hv'
          cases hv'
      rw [hy]
      refine ⟨fun e => h1 (by simpa using e), fun e => h2 (by simpa using e)⟩
    · exact h.elim

section
variable {P : Program} {ops : Array Oper} {Q : Exit → Act → World → Prop} {L : List Nat} {Z : List Nat} {J : Nat → World → Prop} {a0 : Act} {D : Nat → Value → (Tmp → Value) → World → Prop}

def predU (ops : Array Oper) (L : List Nat) (i j d : Nat) : Bool := isAnc L i j && decide (dstAt ops j = some d)
def slotsOf (a : Act) : Tmp → Value := fun t => a.tmps.getD t undef
def seenBy (ρ : Operand → Value) : Tmp → Value := fun t => ρ (.tmp t)
/-- D i sees the slots of i's ancestors alone -/
def LocalU (ops : Array Oper) (L : List Nat) (D : Nat → Value → (Tmp → Value) → World → Prop) : Prop :=
  ∀ i v σ σ' W, (∀ j d, predU ops L i j d = true → σ d = σ' d) → D i v σ W → D i v σ' W
structure UInv (ops : Array Oper) (Z : List Nat) (J : Nat → World → Prop) (a0 : Act) (D : Nat → Value → (Tmp → Value) → World → Prop) (listed : Array Bool) (a : Act) (w : World) : Prop where
  size : listed.size = ops.size
  closed : ClosedU ops listed
  defers : a.defers = a0.defers
  tsize : a.tmps.size = a0.tmps.size
  out : ∀ t, (∀ i, listed.getD i false = true → dstAt ops i ≠ some t) → a.tmps.getD t undef = a0.tmps.getD t undef
  held : ∀ i d, listed.getD i false = true → dstAt ops i = some d → D i (a.tmps.getD d undef) (slotsOf a) w
  heldN : ∀ i, i ∈ Z → listed.getD i false = true → dstAt ops i = none → D i undef (slotsOf a) w
  state : ∃ k, k ≤ Z.length ∧ J k w ∧ ∀ (m z : Nat), Z[m]? = some z → (listed.getD z false = true ↔ m < k)

/-- slot t is, at operation i, as it was when the region began -/
def outU (ops : Array Oper) (L : List Nat) (i t : Nat) : Bool := (List.range ops.size).all fun j => decide (dstAt ops j ≠ some t) || decide (j = i) || isAnc L j i
/-- operation j has run, ahead of i, into slot d -/
def predN (ops : Array Oper) (L Z : List Nat) (i j : Nat) : Bool := isAnc L i j && (decide (dstAt ops j = none) && Z.contains j)
/-- i runs behind the first lo writers and ahead of all from the hi-th on -/
def betweenU (L Z : List Nat) (i lo hi : Nat) : Bool :=
  decide (lo ≤ Z.length) && (List.range Z.length).all fun m => match Z[m]? with
    | some z => (decide (lo ≤ m) || isAnc L i z) && (decide (m < hi) || isAnc L z i)
    | none => true
def StepU (P : Program) (ops : Array Oper) (L Z : List Nat) (J : Nat → World → Prop) (a0 : Act) (D : Nat → Value → (Tmp → Value) → World → Prop) (i : Nat) : Prop :=
  ∀ (ρ : Operand → Value) (W : World) (k : Nat), Sees ρ → J k W → k ≤ Z.length → (∀ lo hi, betweenU L Z i lo hi = true → lo ≤ k ∧ k ≤ hi) → (∀ t, outU ops L i t = true → ρ (.tmp t) = a0.tmps.getD t undef) →
    (∀ j d, predU ops L i j d = true → D j (ρ (.tmp d)) (seenBy ρ) W) → (∀ j, predN ops L Z i j = true → D j undef (seenBy ρ) W) →
    match ops[i]? with | some o => GSay ops ρ o (DoesU P o ρ W fun v W' => D i v (seenBy ρ) W' ∧ Ext W W') (D i undef (seenBy ρ) W) | none => False
def StepZ (P : Program) (ops : Array Oper) (L Z : List Nat) (J : Nat → World → Prop) (a0 : Act) (D : Nat → Value → (Tmp → Value) → World → Prop) (m z : Nat) : Prop :=
  ∀ (ρ : Operand → Value) (W : World), Sees ρ → J m W → (∀ t, outU ops L z t = true → ρ (.tmp t) = a0.tmps.getD t undef) →
    (∀ j d, predU ops L z j d = true → D j (ρ (.tmp d)) (seenBy ρ) W) → (∀ j, predN ops L Z z j = true → D j undef (seenBy ρ) W) →
    match ops[z]? with | some o => o.guard = none ∧ DoesU P o ρ W fun v W' => D z (if o.dst = none then undef else v) (seenBy ρ) W' ∧ J (m + 1) W' ∧ ∀ j u σ, j ≠ z → D j u σ W → D j u σ W' | none => False

theorem getD_set_true' {listed : Array Bool} {i : Nat} (hi : i < listed.size) : (listed.setIfInBounds i true).getD i false = true := by simp [hi]
theorem put_get {a : Act} {t : Nat} {v : Value} (dst : Option Tmp) (h : dst ≠ some t) : (a.put dst v).tmps.getD t undef = a.tmps.getD t undef := by
  cases dst with
  | none => rfl
  | some d =>
    have : d ≠ t := fun e => h (by rw [e])
    simp [Act.put, this]
theorem put_size {a : Act} {v : Value} (dst : Option Tmp) : (a.put dst v).tmps.size = a.tmps.size := by cases dst <;> simp [Act.put]
theorem put_defers {a : Act} {v : Value} (dst : Option Tmp) : (a.put dst v).defers = a.defers := by cases dst <;> rfl

/-- the frame's part behind one operation -/
theorem UInv.step {listed : Array Bool} {a : Act} {w w' : World} {i : Nat} {o : Oper} {v : Value} (hloc : LocalU ops L D) (hL : okAnc ops L = true) (hd : dstOk ops a0.tmps.size = true) (inv : UInv ops Z J a0 D listed a w) (hi : i ∈ Region.ready .any ops listed)
    (ho : ops[i]? = some o) (hv : (o.dst ≠ none → D i v (slotsOf a) w') ∧ (o.dst = none → i ∈ Z → D i undef (slotsOf a) w')) (hst : ∀ j u σ, j ≠ i → D j u σ w → D j u σ w')
    (hk : ∃ k, k ≤ Z.length ∧ J k w' ∧ ∀ (m z : Nat), Z[m]? = some z → ((listed.setIfInBounds i true).getD z false = true ↔ m < k)) : UInv ops Z J a0 D (listed.setIfInBounds i true) (a.put o.dst v) w' := by
  obtain ⟨hiu, oi, hoi, hall⟩ := mem_ready.1 hi
  have hie : oi = o := Option.some.inj (hoi.symm.trans ho)
  subst hie
  have hisz : i < ops.size := (Array.getElem?_eq_some_iff.1 hoi).1
  have hil : i < listed.size := by rw [inv.size]; exact hisz
  have hul := getD_both hiu
  have hdst : dstAt ops i = oi.dst := by simp [dstAt, hoi]
  have hmono : ∀ k, listed.getD k false = true → (listed.setIfInBounds i true).getD k false = true := fun k hk => by
    by_cases h : i = k
    · subst h; exact getD_set_true' hil
    · rw [getD_set_ne false h]; exact hk
  have hag : ∀ j, (j = i ∨ listed.getD j false = true) → ∀ j' d, predU ops L j j' d = true → slotsOf a d = slotsOf (a.put oi.dst v) d := fun j hj j' d hp => by
    unfold predU at hp
    simp only [Bool.and_eq_true, decide_eq_true_eq] at hp
    have hl' : listed.getD j' false = true := by
      rcases hj with rfl | hj
      · exact anc_ready hL inv.size inv.closed hi hp.1
      · exact anc_listed hL inv.size inv.closed j j (Nat.le_refl _) hj j' hp.1
    have hne : oi.dst ≠ some d := fun e => by
      have h1 := (dstOk_spec hd (by rw [hdst]; exact e)).2 j'
      by_cases h2 : j' = i
      · subst h2; rw [hl'] at hul; cases hul
      · exact h1 h2 hp.2
    exact (put_get _ hne).symm
  refine ⟨by simp [inv.size], fun j oj hj hl e he hb => ?_, by rw [put_defers]; exact inv.defers, by rw [put_size]; exact inv.tsize, fun t ht => ?_, fun j d hl hjd => ?_, fun j hjZ hl hjd => ?_, hk⟩
  · by_cases hij : i = j
    · subst hij
      have : oj = oi := Option.some.inj (hj.symm.trans hoi)
      subst this
      exact hmono _ (hall e he hb)
    · rw [getD_set_ne false hij] at hl
      exact hmono _ (inv.closed j oj hj hl e he hb)
  · have h1 : oi.dst ≠ some t := by rw [← hdst]; exact ht i (getD_set_true' hil)
    rw [put_get _ h1]
    exact inv.out t fun j hj => ht j (hmono j hj)
  · by_cases hij : i = j
    · subst hij
      rw [hdst] at hjd
      have hlt := (dstOk_spec hd (by rw [hdst]; exact hjd)).1
      rw [hjd]
      have h : d < a.tmps.size := by rw [inv.tsize]; exact hlt
      have e : (a.put (some d) v).tmps.getD d undef = v := by simp [Act.put, h]
      rw [e, ← hjd]
      exact hloc i v _ _ w' (hag i (.inl rfl)) (hv.1 (by rw [hjd]; simp))
    · rw [getD_set_ne false hij] at hl
      have hne : oi.dst ≠ some d := fun e => (dstOk_spec hd (by rw [hdst]; exact e)).2 j (fun e => hij e.symm) hjd
      rw [put_get _ hne]
      exact hloc j _ _ _ w' (hag j (.inr hl)) (hst j _ _ (fun e => hij e.symm) (inv.held j d hl hjd))
  · by_cases hij : i = j
    · subst hij
      exact hloc i _ _ _ w' (hag i (.inl rfl)) (hv.2 (by rw [← hdst]; exact hjd) hjZ)
    · rw [getD_set_ne false hij] at hl
      exact hloc j _ _ _ w' (hag j (.inr hl)) (hst j _ _ (fun e => hij e.symm) (inv.heldN j hjZ hl hjd))

theorem UInv.outs {listed : Array Bool} {a : Act} {w : World} {i : Nat} (hL : okAnc ops L = true) (inv : UInv ops Z J a0 D listed a w) (hi : i ∈ Region.ready .any ops listed) :
    (∀ t, outU ops L i t = true → a.eval (.tmp t) = a0.tmps.getD t undef) ∧ (∀ j d, predU ops L i j d = true → D j (a.eval (.tmp d)) (seenBy a.eval) w) ∧ (∀ j, predN ops L Z i j = true → D j undef (seenBy a.eval) w) := by
  refine ⟨fun t ht => inv.out t fun j hj hd => ?_, fun j d hjd => ?_, fun j hjd => ?_⟩
  · have h1 := List.all_eq_true.1 ht j (List.mem_range.2 (dstAt_lt hd))
    have hui := getD_both (mem_ready.1 hi).1
    simp only [Bool.or_eq_true, decide_eq_true_eq] at h1
    rcases h1 with (h1 | h1) | h1
    · exact h1 hd
    · subst h1; rw [hj] at hui; cases hui
    · have := anc_listed hL inv.size inv.closed j j (Nat.le_refl _) hj i h1
      rw [this] at hui; cases hui
  · unfold predU at hjd
    simp only [Bool.and_eq_true, decide_eq_true_eq] at hjd
    exact inv.held j d (anc_ready hL inv.size inv.closed hi hjd.1) hjd.2
  · unfold predN at hjd
    simp only [Bool.and_eq_true, decide_eq_true_eq] at hjd
    exact inv.heldN j (by simpa using hjd.2.2) (anc_ready hL inv.size inv.closed hi hjd.1) hjd.2.1

theorem wpAny_U (hloc : LocalU ops L D) (hL : okAnc ops L = true) (hd : dstOk ops a0.tmps.size = true) (hZ : Z.Nodup) (hchain : ∀ (m z : Nat), Z[m]? = some z → ∀ (m' z' : Nat), m' < m → Z[m']? = some z' → isAnc L z z' = true)
    (hJ : ∀ k w w', J k w → Ext w w' → J k w') (hstab : ∀ i v σ w w', D i v σ w → Ext w w' → D i v σ w')
    (hstep : ∀ i, i < ops.size → i ∉ Z → StepU P ops L Z J a0 D i) (hz : ∀ (m z : Nat), Z[m]? = some z → StepZ P ops L Z J a0 D m z)
    (hrest : ∀ (a : Act) (w : World) (listed : Array Bool), (∀ i, i < ops.size → listed.getD i false = true) → UInv ops Z J a0 D listed a w → Q .normal a w) :
    ∀ (m : Nat) (listed : Array Bool) (a : Act) (w : World), (List.range ops.size).countP (fun i => !listed.getD i false) = m → UInv ops Z J a0 D listed a w → wpAny P .any ops Q m listed a w := by
  intro m
  induction m with
  | zero =>
    intro listed a w hcnt inv
    have hall : ∀ i, i < ops.size → listed.getD i false = true := fun i hi => by
      have := List.countP_eq_zero.1 hcnt i (List.mem_range.2 hi)
      simpa using this
    refine ⟨?_, hrest a w listed hall inv⟩
    cases hr : Region.ready .any ops listed with
    | nil => rfl
    | cons x xs =>
      have hx : x ∈ Region.ready .any ops listed := by rw [hr]; simp
      obtain ⟨h1, o, ho, _⟩ := mem_ready.1 hx
      have := hall x (Array.getElem?_eq_some_iff.1 ho).1
      rw [getD_both h1] at this
      cases this
  | succ m ih =>
    intro listed a w hcnt inv
    have hun : ∀ i, i < ops.size → listed.getD i false = false → listed.getD i true = false := fun i hi h => getD_in (by rw [inv.size]; exact hi) h
    refine ⟨fun h0 => ?_, fun i hi => ?_⟩
    · exfalso
      have hex : ∃ i, i < ops.size ∧ listed.getD i false = false := by
        have : 0 < (List.range ops.size).countP (fun i => !listed.getD i false) := by omega
        obtain ⟨i, hi, hu⟩ := List.countP_pos_iff.1 this
        exact ⟨i, List.mem_range.1 hi, by simpa using hu⟩
      have hleast : ∀ k, ∀ i, i < ops.size → listed.getD i false = false → i ≤ k → ∃ j, j ∈ Region.ready .any ops listed := by
        intro k
        induction k using Nat.strongRecOn with
        | _ k ihk =>
          intro i hi hu hik
          by_cases hlow : ∃ j, j < i ∧ listed.getD j false = false
          · obtain ⟨j, hj, hju⟩ := hlow
            exact ihk j (by omega) j (by omega) hju (Nat.le_refl _)
          · obtain ⟨o, ho⟩ : ∃ o, ops[i]? = some o := ⟨_, Array.getElem?_eq_getElem hi⟩
            refine ⟨i, mem_ready.2 ⟨hun i hi hu, o, ho, fun e he hb => ?_⟩⟩
            have hlt := okAnc_back hL ho e he hb
            cases hv : listed.getD e.on false with
            | true => rfl
            | false => exact (hlow ⟨e.on, hlt, hv⟩).elim
      obtain ⟨i, hi, hu⟩ := hex
      obtain ⟨j, hj⟩ := hleast i i hi hu (Nat.le_refl _)
      rw [h0] at hj
      cases hj
    · obtain ⟨hiu, o, ho, hall⟩ := mem_ready.1 hi
      have hisz : i < ops.size := (Array.getElem?_eq_some_iff.1 ho).1
      have hil : i < listed.size := by rw [inv.size]; exact hisz
      have hul := getD_both hiu
      have hcnt' : (List.range ops.size).countP (fun j => !(listed.setIfInBounds i true).getD j false) = m := by
        have hc' := countP_set ops.size (fun j => !listed.getD j false) (fun j => !(listed.setIfInBounds i true).getD j false) i hisz (by show (!listed.getD i false) = true; rw [hul]; rfl)
          (by show (!(listed.setIfInBounds i true).getD i false) = false; rw [getD_set_true' hil]; rfl)
          (fun j hj => by show (!(listed.setIfInBounds i true).getD j false) = (!listed.getD j false); rw [getD_set_ne false (fun e => hj e.symm)])
        omega
      obtain ⟨hout, hpred, hpredN⟩ := inv.outs hL hi
      obtain ⟨k, hkl, hJk, hkz⟩ := inv.state
      refine wpOp_step ho fun K' hK => ?_
      by_cases hmem : i ∈ Z
      · obtain ⟨n, hn⟩ := List.mem_iff_getElem?.1 hmem
        have hkn : k = n := by
          have h1 : ¬ n < k := fun h => by
            have := (hkz n i hn).2 h
            rw [hul] at this; cases this
          have h2 : ¬ k < n := fun h => by
            have hlt : k < Z.length := by
              have := (List.getElem?_eq_some_iff.1 hn).1; omega
            have hz' : Z[k]? = some Z[k] := List.getElem?_eq_getElem hlt
            have h3 := hchain n i hn k _ h hz'
            have h4 := anc_ready hL inv.size inv.closed hi h3
            have := (hkz k _ hz').1 h4
            omega
          omega
        subst hkn
        have h := hz k i hn a.eval w (sees_act a) hJk hout hpred hpredN
        rw [ho] at h
        obtain ⟨hg, h⟩ := h
        rw [if_pos (by simp [Region.wanted, hg])]
        refine h.wp fun v w' hv => hK _ _ (ih _ _ w' hcnt' (inv.step hloc hL hd hi ho ⟨fun hn => by have := hv.1; rwa [if_neg hn] at this, fun hn _ => by have := hv.1; rwa [if_pos hn] at this⟩ (fun j u σ hne hD => hv.2.2 j u σ hne hD) ⟨k + 1, ?_, hv.2.1, fun m' z' hz' => ?_⟩))
        · have := (List.getElem?_eq_some_iff.1 hn).1; omega
        · by_cases hzi : i = z'
          · subst hzi
            have : m' = k := by
              have h1 := (List.getElem?_eq_some_iff.1 hz').1
              have h2 := (List.getElem?_eq_some_iff.1 hn).1
              exact (List.getElem?_inj h1 hZ).1 (hz'.trans hn.symm)
            subst this
            simp [getD_set_true' hil]
          · rw [getD_set_ne false hzi, hkz m' z' hz']
            have : m' ≠ k := fun e => hzi (by subst e; exact Option.some.inj (hn.symm.trans hz'))
            omega
      · have hb : ∀ lo hi', betweenU L Z i lo hi' = true → lo ≤ k ∧ k ≤ hi' := fun lo hi' hbt => by
          have hbm : ∀ (m' z' : Nat), Z[m']? = some z' → (lo ≤ m' ∨ isAnc L i z' = true) ∧ (m' < hi' ∨ isAnc L z' i = true) := fun m' z' hz' => by
            unfold betweenU at hbt
            rw [Bool.and_eq_true] at hbt
            have h1 := List.all_eq_true.1 hbt.2 m' (List.mem_range.2 (List.getElem?_eq_some_iff.1 hz').1)
            rw [hz'] at h1
            simpa using h1
          refine ⟨?_, ?_⟩
          · rcases Nat.lt_or_ge k lo with hlt | hge
            · rcases Nat.lt_or_ge k Z.length with hkz1 | hkz1
              · have hz' : Z[k]? = some Z[k] := List.getElem?_eq_getElem hkz1
                rcases (hbm k _ hz').1 with h1 | h1
                · omega
                · have := (hkz k _ hz').1 (anc_ready hL inv.size inv.closed hi h1)
                  omega
              · have hb2 := hbt
                unfold betweenU at hb2
                rw [Bool.and_eq_true, decide_eq_true_eq] at hb2
                omega
            · exact hge
          · rcases Nat.lt_or_ge hi' k with hlt | hge
            · have hz' : Z[hi']? = some (Z[hi']'(by omega)) := List.getElem?_eq_getElem (by omega)
              have h2 := (hkz hi' _ hz').2 hlt
              rcases (hbm hi' _ hz').2 with h1 | h1
              · omega
              · have := anc_listed hL inv.size inv.closed _ _ (Nat.le_refl _) h2 i h1
                rw [hul] at this; cases this
            · exact hge
        have h := hstep i hisz hmem a.eval w k (sees_act a) hJk hkl hb hout hpred hpredN
        rw [ho] at h
        have hw := GSay.wanted h
        have hkz' : ∀ (m z : Nat), Z[m]? = some z → ((listed.setIfInBounds i true).getD z false = true ↔ m < k) := fun m z hz' => by
          have hne : i ≠ z := fun e => hmem (by rw [e]; exact List.mem_of_getElem? hz')
          rw [getD_set_ne false hne]
          exact hkz m z hz'
        split
        · rename_i hwt
          exact (hw.1 hwt).wp fun v w' hv => hK _ _ (ih _ _ w' hcnt' (inv.step hloc hL hd hi ho ⟨fun _ => hv.1, fun _ hz => absurd hz hmem⟩ (fun j u σ _ hD => hstab j u σ w w' hD hv.2) ⟨k, hkl, hJ k w w' hJk hv.2, hkz'⟩))
        · rename_i hwt
          exact hK _ _ (ih _ _ w hcnt' (inv.step hloc hL hd hi ho ⟨fun _ => hw.2 (by simpa using hwt), fun _ hz => absurd hz hmem⟩ (fun j u _ _ hD => hD) ⟨k, hkl, hJk, hkz'⟩))
def idxU (ops : Array Oper) : List Nat := (List.range ops.size).filter fun i => (dstAt ops i).isSome
def dstsU (ops : Array Oper) : List Tmp := (idxU ops).map fun i => (dstAt ops i).getD 0
theorem idxU_get {k i : Nat} (hk : (idxU ops)[k]? = some i) : ∃ d, dstAt ops i = some d ∧ (dstsU ops)[k]? = some d := by
  obtain ⟨_, h2⟩ := List.mem_filter.1 (List.mem_of_getElem? hk)
  obtain ⟨d, hd⟩ := Option.isSome_iff_exists.1 h2
  exact ⟨d, hd, by simp [dstsU, hk, hd]⟩
theorem dstsU_nodup {size : Nat} (hd : dstOk ops size = true) : (dstsU ops).Nodup := by
  unfold dstsU
  rw [List.Nodup, List.pairwise_map]
  refine List.Pairwise.imp_of_mem ?_ ((List.nodup_range (n := ops.size)).filter _)
  intro i j hi hj hne he
  obtain ⟨d, h1⟩ := Option.isSome_iff_exists.1 (List.mem_filter.1 hi).2
  obtain ⟨d', h2⟩ := Option.isSome_iff_exists.1 (List.mem_filter.1 hj).2
  rw [h1, h2] at he
  exact (dstOk_spec hd h2).2 i hne (by rw [h1]; exact congrArg some he)

theorem uinv_frame (hd : dstOk ops a0.tmps.size = true) {listed : Array Bool} {a : Act} {w : World} (hall : ∀ i, i < ops.size → listed.getD i false = true) (h : UInv ops Z J a0 D listed a w) :
    ∃ vs : List Value, vs.length = (idxU ops).length ∧ (∀ (k : Nat) i v, (idxU ops)[k]? = some i → vs[k]? = some v → D i v (slotsOf a) w) ∧ a = ⟨putAll (dstsU ops) vs a0.tmps, a0.defers⟩ ∧ (∀ (k : Nat) d v, (dstsU ops)[k]? = some d → vs[k]? = some v → slotsOf a d = v) := by
  have hlen : (dstsU ops).length = (idxU ops).length := by simp [dstsU]
  refine ⟨(dstsU ops).map fun d => a.tmps.getD d undef, by simp [hlen], fun k i v hk hv => ?_, ?_, fun k d v hk hv => ?_⟩
  · obtain ⟨d, h1, h2⟩ := idxU_get hk
    rw [List.getElem?_map, h2] at hv
    simp only [Option.map_some, Option.some.injEq] at hv
    rw [← hv]
    exact h.held i d (hall i (dstAt_lt h1)) h1
  · have hb : ∀ d ∈ dstsU ops, d < a0.tmps.size := fun d hd' => by
      obtain ⟨k, hk, he⟩ := List.mem_iff_getElem.1 hd'
      obtain ⟨d', h1, h2⟩ := idxU_get (List.getElem?_eq_getElem (show k < (idxU ops).length by omega))
      rw [List.getElem?_eq_getElem hk] at h2
      have : d' = d := (Option.some.inj h2).symm.trans he
      rw [← this]; exact (dstOk_spec hd h1).1
    obtain ⟨h1, h2, h3⟩ := putAll_getD (dstsU ops) ((dstsU ops).map fun d => a.tmps.getD d undef) a0.tmps (by simp) (dstsU_nodup hd) hb
    have e : a.tmps = putAll (dstsU ops) ((dstsU ops).map fun d => a.tmps.getD d undef) a0.tmps := by
      refine arr_ext (by rw [h1, h.tsize]) fun k => ?_
      by_cases hk : k ∈ dstsU ops
      · obtain ⟨i, hi, he⟩ := List.mem_iff_getElem.1 hk
        exact (h3 i k _ (by rw [List.getElem?_eq_getElem hi, he]) (by rw [List.getElem?_map, List.getElem?_eq_getElem hi, he]; rfl)).symm
      · rw [h2 k hk]
        refine h.out k fun i _ hdi => hk ?_
        have hm : i ∈ idxU ops := List.mem_filter.2 ⟨List.mem_range.2 (dstAt_lt hdi), by rw [hdi]; rfl⟩
        have : k = (dstAt ops i).getD 0 := by rw [hdi]; rfl
        rw [this]
        exact List.mem_map_of_mem hm
    cases a with
    | mk t df =>
      have h4 : df = a0.defers := h.defers
      subst h4
      have h5 : t = _ := e
      exact congrArg (fun x => Act.mk x a0.defers) h5
  · rw [List.getElem?_map, hk] at hv
    exact Option.some.inj hv

def chainU (size : Nat) (L Z : List Nat) : Bool := (List.range Z.length).all fun m => match Z[m]? with
  | some z => decide (z < size) && (List.range m).all fun m' => match Z[m']? with | some z' => isAnc L z z' | none => true
  | none => true
theorem chainU_spec {size : Nat} {m z : Nat} (h : chainU size L Z = true) (hz : Z[m]? = some z) : z < size ∧ ∀ (m' z' : Nat), m' < m → Z[m']? = some z' → isAnc L z z' = true := by
  have h1 := List.all_eq_true.1 h m (List.mem_range.2 (List.getElem?_eq_some_iff.1 hz).1)
  rw [hz] at h1
  simp only [Bool.and_eq_true, decide_eq_true_eq] at h1
  refine ⟨h1.1, fun m' z' hlt h' => ?_⟩
  have h2 := List.all_eq_true.1 h1.2 m' (List.mem_range.2 hlt)
  rw [h'] at h2
  exact h2

/-- THE RULE. L: the operations' ancestors (masks); Z: the writers, in their forced order; J k: the world's state behind k writers; D i v σ w: what is known of operation i's value (σ: the slots of its ancestors). -/
theorem wp_region_U {id : Nat} {w : World} (hm : P.follows .mixedOrders = true) (L Z : List Nat) (J : Nat → World → Prop) (D : Nat → Value → (Tmp → Value) → World → Prop)
    (hL : okAnc ops L = true) (hd : dstOk ops a0.tmps.size = true) (hZ : Z.Nodup) (hchain : chainU ops.size L Z = true)
    (hloc : LocalU ops L D) (hJ0 : J 0 w.drew) (hJ : ∀ k w w', J k w → Ext w w' → J k w') (hstab : ∀ i v σ w w', D i v σ w → Ext w w' → D i v σ w')
    (hstep : AllTo (fun i => i ∉ Z → StepU P ops L Z J a0 D i) ops.size) (hz : AllTo (fun m => match Z[m]? with | some z => StepZ P ops L Z J a0 D m z | none => True) Z.length)
    (hrest : ∀ (vs : List Value) (w' : World) (σ : Tmp → Value), vs.length = (idxU ops).length → (∀ (k : Nat) d v, (dstsU ops)[k]? = some d → vs[k]? = some v → σ d = v) →
      (∀ (k : Nat) i v, (idxU ops)[k]? = some i → vs[k]? = some v → D i v σ w') → (∀ i, i ∈ Z → dstAt ops i = none → D i undef σ w') → J Z.length w' → Q .normal ⟨putAll (dstsU ops) vs a0.tmps, a0.defers⟩ w') :
    (Code.region id ops true).wp P Q a0 w := by
  refine wp_region_any hm ?_
  refine wpAny_U (hloc := hloc) (L := L) (Z := Z) (J := J) (a0 := a0) (D := D) hL hd hZ (fun m z h m' z' hlt h' => (chainU_spec hchain h).2 m' z' hlt h') hJ hstab (fun i hi hz => hstep.get i hi hz) (fun m z h => ?_) (fun a w' listed hall inv => ?_) ops.size (Array.replicate ops.size false) a0 w.drew ?_ ?_
  · have h1 := hz.get m (List.getElem?_eq_some_iff.1 h).1
    rw [h] at h1
    exact h1
  · obtain ⟨vs, h1, h2, hfr, hs⟩ := uinv_frame hd hall inv
    obtain ⟨k, hk, hJk, hkz⟩ := inv.state
    have : k = Z.length := by
      rcases Nat.lt_or_ge k Z.length with h | h
      · have hz' : Z[k]? = some Z[k] := List.getElem?_eq_getElem h
        have := (hkz k _ hz').1 (hall _ (chainU_spec hchain hz').1)
        omega
      · omega
    subst this
    have hN : ∀ i, i ∈ Z → dstAt ops i = none → D i undef (slotsOf a) w' := fun i hi hn => by
      obtain ⟨m, hm⟩ := List.mem_iff_getElem?.1 hi
      exact inv.heldN i hi (hall i (chainU_spec hchain hm).1) hn
    have hr := hrest vs w' (slotsOf a) h1 hs h2 hN hJk
    rw [hfr]
    exact hr
  · rw [List.countP_eq_length.2]
    · simp
    · intro i _
      rw [getD_replicate_false]
      rfl
  · exact ⟨by simp, fun j oj _ hl => absurd hl (by rw [getD_replicate_false]; simp), rfl, rfl, fun _ _ => rfl, fun i d hl => absurd hl (by rw [getD_replicate_false]; simp), fun i _ hl => absurd hl (by rw [getD_replicate_false]; simp),
      0, Nat.zero_le _, hJ0, fun m z _ => ⟨fun hl => absurd hl (by rw [getD_replicate_false]; simp), fun h => absurd h (Nat.not_lt_zero _)⟩⟩
end

section
variable {P : Program} {ops : Array Oper} {Q : Exit → Act → World → Prop} {L : List Nat} {a0 : Act}
/-- without writers -/
def StepE (P : Program) (ops : Array Oper) (L : List Nat) (w : World) (a0 : Act) (D : Nat → Value → World → Prop) (i : Nat) : Prop :=
  ∀ (ρ : Operand → Value) (W : World), Sees ρ → Ext w W → (∀ t, outU ops L i t = true → ρ (.tmp t) = a0.tmps.getD t undef) → (∀ j d, predU ops L i j d = true → D j (ρ (.tmp d)) W) →
    match ops[i]? with | some o => GSay ops ρ o (DoesU P o ρ W fun v W' => D i v W' ∧ Ext W W') (D i undef W) | none => False
theorem wp_region_E {id : Nat} {w : World} (hm : P.follows .mixedOrders = true) (L : List Nat) (D : Nat → Value → World → Prop)
    (hL : okAnc ops L = true) (hd : dstOk ops a0.tmps.size = true) (hstab : ∀ i v w w', D i v w → Ext w w' → D i v w')
    (hstep : AllTo (StepE P ops L w a0 D) ops.size)
    (hrest : ∀ (vs : List Value) (w' : World), vs.length = (idxU ops).length → (∀ (k : Nat) i v, (idxU ops)[k]? = some i → vs[k]? = some v → D i v w') → Ext w w' →
      Q .normal ⟨putAll (dstsU ops) vs a0.tmps, a0.defers⟩ w') :
    (Code.region id ops true).wp P Q a0 w := by
  have hs : ∀ n, AllTo (StepE P ops L w a0 D) n → AllTo (fun i => i ∉ ([] : List Nat) → StepU P ops L [] (fun _ W => Ext w W) a0 (fun i v _ W => D i v W) i) n := fun n => by
    induction n with
    | zero => intro _; trivial
    | succ n ih => exact fun h => ⟨ih h.1, fun _ ρ W k hS hJ _ _ ho hp _ => h.2 ρ W hS hJ ho hp⟩
  exact wp_region_U hm L [] (fun _ W => Ext w W) (fun i v _ W => D i v W) hL hd List.nodup_nil rfl (fun _ _ _ _ _ _ h => h) ((Ext.refl w).drew) (fun _ _ _ h hx => h.trans hx) (fun i v _ w w' h hx => hstab i v w w' h hx) (hs _ hstep) trivial
    (fun vs w' _ h1 _ h2 _ h4 => hrest vs w' h1 h2 h4)
end
end Go.Proofs.YtfjpglohcppjeaaDoor

/- Entries: parts of memory that a call owns, apart from each other; the rule for every region, whether it draws its order or not: one obligation an operation, each over the entries that it touches alone. -/
import Derived.Test.YtfjpglohcppjeaaDoorUpd
namespace Go.Proofs.YtfjpglohcppjeaaDoor
open Go.RowKit
set_option linter.unusedVariables false
set_option linter.unusedSimpArgs false

structure Ent where
  fp : List Nat
  holds : World → Prop
/-- it looks at its own blocks alone -/
def Ent.loc (e : Ent) : Prop := ∀ W W' : World, (∀ k ∈ e.fp, W'.heap[k]? = W.heap[k]?) → e.holds W → e.holds W'
structure Ent.ok (w0 : World) (bor : List Nat) (W : World) (e : Ent) : Prop where
  holds : e.holds W
  loc : e.loc
  own : ∀ k ∈ e.fp, (k ∈ bor ∨ w0.heap.size ≤ k) ∧ k < W.heap.size
def Ent.apart (a b : Ent) : Prop := ∀ k ∈ a.fp, k ∉ b.fp
theorem Ent.apart.symm {a b : Ent} (h : a.apart b) : b.apart a := fun k hk ha => h k ha hk
/-- what a call's world holds: the first world w0 (but for the lent blocks bor), and the entries L -/
structure St (w0 : World) (bor : List Nat) (L : List Ent) (W : World) : Prop where
  upd : Upd bor w0 W
  ok : ∀ e ∈ L, e.ok w0 bor W
  apart : L.Pairwise Ent.apart
/-- what one operation does to memory: blocks of S, new blocks; it leaves the entries N -/
structure EffV (S : List Nat) (W W' : World) (N : List Ent) : Prop where
  upd : Upd S W W'
  ok : ∀ e ∈ N, e.holds W' ∧ e.loc ∧ ∀ k ∈ e.fp, (k ∈ S ∨ W.heap.size ≤ k) ∧ k < W'.heap.size
  apart : N.Pairwise Ent.apart

theorem Ent.ok.keep {w0 W W' : World} {bor S : List Nat} {e : Ent} (h : e.ok w0 bor W) (hu : Upd S W W') (hS : ∀ k ∈ e.fp, k ∉ S) : e.ok w0 bor W' :=
  ⟨h.loc W W' (fun k hk => hu.block k (h.own k hk).2 (hS k hk)) h.holds, h.loc, fun k hk => ⟨(h.own k hk).1, Nat.lt_of_lt_of_le (h.own k hk).2 hu.size⟩⟩
theorem Upd.join {bor S : List Nat} {a b c : World} (h : Upd bor a b) (k : Upd S b c) (hS : ∀ i ∈ S, i ∈ bor ∨ a.heap.size ≤ i) : Upd bor a c :=
  ⟨k.os.trans h.os, k.tape.trans h.tape, k.output.trans h.output, Nat.le_trans h.size k.size, fun i hi hn => (k.block i (Nat.lt_of_lt_of_le hi h.size) (fun hm => by
    rcases hS i hm with h1 | h1
    · exact hn h1
    · omega)).trans (h.block i hi hn)⟩

def atV (l : List (List Nat)) (i : Nat) : List Nat := l.getD i []
section
variable {P : Program} {ops : Array Oper} {Q : Exit → Act → World → Prop} {L : List Nat} {a0 : Act} {w0 : World} {bor : List Nat} {X0 : List Ent}
  {us cr kl : List (List Nat)} {D : Nat → (Tmp → Value) → (Tmp → Value) → (Nat → Ent) → Prop}

def liveV (m0 : Nat) (cr kl : List (List Nat)) (listed : Array Bool) (q : Nat) : Prop :=
  (q < m0 ∨ ∃ i, listed.getD i false = true ∧ q ∈ atV cr i) ∧ ∀ i, listed.getD i false = true → q ∉ atV kl i
/-- slot d is seen by D i -/
def seesV (ops : Array Oper) (L : List Nat) (i d : Nat) : Bool := decide (dstAt ops i = some d) || (List.range ops.size).any fun j => isAnc L i j && decide (dstAt ops j = some d)
/-- entry q is seen by D i -/
def seesX (m0 n : Nat) (L : List Nat) (cr : List (List Nat)) (i q : Nat) : Bool := decide (q < m0) || (atV cr i).contains q || (List.range n).any fun j => isAnc L i j && (atV cr j).contains q
def LocalV (ops : Array Oper) (m0 : Nat) (L : List Nat) (cr : List (List Nat)) (D : Nat → (Tmp → Value) → (Tmp → Value) → (Nat → Ent) → Prop) : Prop :=
  ∀ i σ σ' β β' X X', (∀ d, seesV ops L i d = true → σ d = σ' d) → (∀ d, seesV ops L i d = true → β d = β' d) → (∀ q, seesX m0 ops.size L cr i q = true → X q = X' q) → D i σ β X → D i σ' β' X'
/-- the entries' flow through the region is sound -/
def flowV (n m0 : Nat) (L : List Nat) (us cr kl : List (List Nat)) : Bool :=
  (List.range n).all fun i =>
    ((atV us i).all fun q => (decide (q < m0) || (List.range n).any fun j => isAnc L i j && (atV cr j).contains q) &&
      (List.range n).all fun j => !((atV kl j).contains q) || decide (j = i) || isAnc L j i) &&
    ((atV kl i).all fun q => (atV us i).contains q) &&
    (decide (atV cr i).Nodup && (atV cr i).all fun q => decide (m0 ≤ q) && (List.range n).all fun j => decide (j = i) || !((atV cr j).contains q)) 
theorem flowV_us {n m0 i q : Nat} (h : flowV n m0 L us cr kl = true) (hi : i < n) (hq : q ∈ atV us i) :
    (q < m0 ∨ ∃ j, isAnc L i j = true ∧ q ∈ atV cr j) ∧ ∀ j, j < n → q ∈ atV kl j → j = i ∨ isAnc L j i = true := by
  have h1 := List.all_eq_true.1 h i (List.mem_range.2 hi)
  simp only [Bool.and_eq_true] at h1
  have h2 := List.all_eq_true.1 h1.1.1 q hq
  simp only [Bool.and_eq_true, Bool.or_eq_true, decide_eq_true_eq] at h2
  refine ⟨h2.1.imp id fun h3 => ?_, fun j hj hk => ?_⟩
  · obtain ⟨j, _, h4⟩ := List.any_eq_true.1 h3
    simp only [Bool.and_eq_true] at h4
    exact ⟨j, h4.1, by simpa using h4.2⟩
  · have h3 := List.all_eq_true.1 h2.2 j (List.mem_range.2 hj)
    simp only [Bool.or_eq_true, decide_eq_true_eq] at h3
    rcases h3 with (h3 | h3) | h3
    · rw [List.contains_iff_mem.2 hk] at h3; cases h3
    · exact .inl h3
    · exact .inr h3
theorem flowV_kl {n m0 i q : Nat} (h : flowV n m0 L us cr kl = true) (hi : i < n) (hq : q ∈ atV kl i) : q ∈ atV us i := by
  have h1 := List.all_eq_true.1 h i (List.mem_range.2 hi)
  simp only [Bool.and_eq_true] at h1
  simpa using List.all_eq_true.1 h1.1.2 q hq
theorem flowV_cr {n m0 i q : Nat} (h : flowV n m0 L us cr kl = true) (hi : i < n) (hq : q ∈ atV cr i) : m0 ≤ q ∧ ∀ j, j < n → j ≠ i → q ∉ atV cr j := by
  have h1 := List.all_eq_true.1 h i (List.mem_range.2 hi)
  simp only [Bool.and_eq_true] at h1
  have h2 := List.all_eq_true.1 h1.2.2 q hq
  simp only [Bool.and_eq_true, decide_eq_true_eq] at h2
  refine ⟨h2.1, fun j hj hne hm => ?_⟩
  have h3 := List.all_eq_true.1 h2.2 j (List.mem_range.2 hj)
  rw [List.contains_iff_mem.2 hm] at h3
  simp [hne] at h3
theorem flowV_nodup {n m0 i : Nat} (h : flowV n m0 L us cr kl = true) (hi : i < n) : (atV cr i).Nodup := by
  have h1 := List.all_eq_true.1 h i (List.mem_range.2 hi)
  simp only [Bool.and_eq_true, decide_eq_true_eq] at h1
  exact h1.2.1

structure VInv (ops : Array Oper) (L : List Nat) (a0 : Act) (w0 : World) (bor : List Nat) (X0 : List Ent) (cr kl : List (List Nat)) (D : Nat → (Tmp → Value) → (Tmp → Value) → (Nat → Ent) → Prop)
    (listed : Array Bool) (a : Act) (w : World) : Prop where
  size : listed.size = ops.size
  closed : ClosedU ops listed
  defers : a.defers = a0.defers
  tsize : a.tmps.size = a0.tmps.size
  out : ∀ t, (∀ i, listed.getD i false = true → dstAt ops i ≠ some t) → a.tmps.getD t undef = a0.tmps.getD t undef
  upd : Upd bor w0 w
  held : ∃ X : Nat → Ent, (∀ i, listed.getD i false = true → D i (slotsOf a) (slotsOf a) X) ∧ (∀ q e, X0[q]? = some e → X q = e) ∧ (∀ q, liveV X0.length cr kl listed q → (X q).ok w0 bor w) ∧
    ∀ q q', liveV X0.length cr kl listed q → liveV X0.length cr kl listed q' → q ≠ q' → (X q).apart (X q')

/-- the guard's word; a guard that stands behind a guard that said no says no -/
def GSayV (ops : Array Oper) (ρ : Operand → Value) (o : Oper) (yes no : Prop) : Prop :=
  match o.guard with
  | none => yes
  | some (g, b) => match dstAt ops g with
    | some d => (∃ c : Bool, ρ (.tmp d) = .bool c ∧ ((c = b → yes) ∧ (c ≠ b → no))) ∨ (ρ (.tmp d) = undef ∧ no)
    | none => False
theorem GSayV.none {ρ : Operand → Value} {o : Oper} {yes no : Prop} (hg : o.guard = Option.none) (h : yes) : GSayV ops ρ o yes no := by unfold GSayV; rw [hg]; exact h
theorem GSayV.on {ρ : Operand → Value} {o : Oper} {yes no : Prop} {g d : Nat} {b : Bool} (hg : o.guard = some (g, b)) (hd : dstAt ops g = some d) (hv : ρ (.tmp d) = .bool b) (h : yes) : GSayV ops ρ o yes no := by
  unfold GSayV; rw [hg]; simp only [hd]; exact .inl ⟨b, hv, fun _ => h, fun hn => absurd rfl hn⟩
theorem GSayV.off {ρ : Operand → Value} {o : Oper} {yes no : Prop} {g d : Nat} {b c : Bool} (hg : o.guard = some (g, b)) (hd : dstAt ops g = some d) (hv : ρ (.tmp d) = .bool c) (hc : c ≠ b) (h : no) : GSayV ops ρ o yes no := by
  unfold GSayV; rw [hg]; simp only [hd]; exact .inl ⟨c, hv, fun hn => absurd hn hc, fun _ => h⟩
theorem GSayV.un {ρ : Operand → Value} {o : Oper} {yes no : Prop} {g d : Nat} {b : Bool} (hg : o.guard = some (g, b)) (hd : dstAt ops g = some d) (hv : ρ (.tmp d) = undef) (h : no) : GSayV ops ρ o yes no := by
  unfold GSayV; rw [hg]; simp only [hd]; exact .inr ⟨hv, h⟩
theorem GSayV.wanted {a : Act} {o : Oper} {yes no : Prop} (h : GSayV ops a.eval o yes no) : (Region.wanted o (yielded ops a.tmps) = true → yes) ∧ (Region.wanted o (yielded ops a.tmps) = false → no) := by
  unfold GSayV at h
  cases hg : o.guard with
  | none => rw [hg] at h; exact GSay.wanted (no := no) (GSay.none hg h)
  | some gb =>
    obtain ⟨g, b⟩ := gb
    rw [hg] at h
    simp only at h
    split at h
    · rename_i d hd
      rcases h with ⟨c, hv, h1, h2⟩ | ⟨hv, h2⟩
      · refine GSay.wanted ?_
        unfold GSay
        rw [hg]
        simp only [hd]
        exact ⟨c, hv, h1, h2⟩
      · have hv' : a.tmps.getD d undef = undef := hv
        have hy : yielded ops a.tmps g = Option.none := by
          unfold yielded
          have hd' : (ops[g]?).bind (·.dst) = some d := hd
          rw [hd']
          simp only [Option.bind_some]
          rcases Nat.lt_or_ge d a.tmps.size with hlt | hge
          · rw [Array.getD_eq_getD_getElem?, Array.getElem?_eq_getElem hlt, Option.getD_some] at hv'
            rw [Array.getElem?_eq_getElem hlt, hv']
            rfl
          · rw [Array.getElem?_eq_none hge]
        have hw : Region.wanted o (yielded ops a.tmps) = false := by
          unfold Region.wanted
          rw [hg]
          simp [hy]
        exact ⟨fun e => absurd e (by rw [hw]; decide), fun _ => h2⟩
    · exact h.elim
structure CtxV (ops : Array Oper) (L : List Nat) (a0 : Act) (w0 : World) (bor : List Nat) (X0 : List Ent) (us : List (List Nat)) (D : Nat → (Tmp → Value) → (Tmp → Value) → (Nat → Ent) → Prop) (i : Nat)
    (ρ : Operand → Value) (β : Tmp → Value) (W : World) (X : Nat → Ent) : Prop where
  sees : Sees ρ
  upd : Upd bor w0 W
  out : ∀ t, outU ops L i t = true → ρ (.tmp t) = a0.tmps.getD t undef
  anc : ∀ j, isAnc L i j = true → D j (seenBy ρ) β X
  init : ∀ q e, X0[q]? = some e → X q = e
  ok : ∀ q, (atV us i).contains q = true → (X q).ok w0 bor W
  ap : ∀ q q', (atV us i).contains q = true → (atV us i).contains q' = true → q ≠ q' → (X q).apart (X q')
/-- what operation i has to leave -/
def PostV (cr kl : List (List Nat)) (D : Nat → (Tmp → Value) → (Tmp → Value) → (Nat → Ent) → Prop) (i : Nat) (dst : Option Tmp) (ρ : Operand → Value) (β : Tmp → Value) (W : World) (X : Nat → Ent) (v : Value) (W' : World) : Prop :=
  ∃ N, N.length = (atV cr i).length ∧ EffV ((atV kl i).flatMap fun q => (X q).fp) W W' N ∧
    ∀ (σ β' : Tmp → Value) (X' : Nat → Ent), (∀ t, dst ≠ some t → σ t = ρ (.tmp t)) → (∀ d, dst = some d → σ d = v) → (∀ t, dst ≠ some t → β' t = β t) → (∀ d, dst = some d → β' d = v) →
      (∀ q, q ∉ atV cr i → X' q = X q) → (atV cr i).map X' = N → D i σ β' X'
def StepV (P : Program) (ops : Array Oper) (L : List Nat) (a0 : Act) (w0 : World) (bor : List Nat) (X0 : List Ent) (us cr kl : List (List Nat)) (D : Nat → (Tmp → Value) → (Tmp → Value) → (Nat → Ent) → Prop) (i : Nat) : Prop :=
  ∀ (ρ : Operand → Value) (β : Tmp → Value) (W : World) (X : Nat → Ent), CtxV ops L a0 w0 bor X0 us D i ρ β W X →
    match ops[i]? with
    | some o => GSayV ops ρ o (DoesU P o ρ W (PostV cr kl D i o.dst ρ β W X))
        (atV cr i = [] ∧ atV kl i = [] ∧ ∀ (σ β' : Tmp → Value), (∀ t, o.dst ≠ some t → σ t = ρ (.tmp t)) → (∀ d, o.dst = some d → σ d = undef) → (∀ t, o.dst ≠ some t → β' t = β t) → (∀ d, o.dst = some d → β' d = undef) → D i σ β' X)
    | none => False

theorem map_surj {l : List Nat} {X : Nat → Ent} {N : List Ent} (hl : l.length = N.length) (hnd : l.Nodup) : ∃ X' : Nat → Ent, (∀ q, q ∉ l → X' q = X q) ∧ l.map X' = N := by
  induction l generalizing N with
  | nil =>
    refine ⟨X, fun _ _ => rfl, ?_⟩
    rcases N with _ | ⟨e, N⟩
    · rfl
    · simp at hl
  | cons x l ih =>
    rcases N with _ | ⟨e, N⟩
    · simp at hl
    · obtain ⟨X', h1, h2⟩ := ih (N := N) (by simpa using hl) (List.nodup_cons.1 hnd).2
      refine ⟨fun q => if q = x then e else X' q, fun q hq => ?_, ?_⟩
      · have hne : q ≠ x := fun h => hq (by simp [h])
        simp only [if_neg hne]
        exact h1 q fun h => hq (by simp [h])
      · rw [List.map_cons, if_pos rfl]
        congr 1
        rw [← h2]
        refine List.map_congr_left fun q hq => ?_
        have hne : q ≠ x := fun h => (List.nodup_cons.1 hnd).1 (by rw [← h]; exact hq)
        simp only [if_neg hne]

theorem pairwise_ne {α : Type} {R : α → α → Prop} (hs : ∀ a b, R a b → R b a) {l : List α} (hp : l.Pairwise R) {a b : α} (ha : a ∈ l) (hb : b ∈ l) (hne : a ≠ b) : R a b := by
  induction l with
  | nil => cases ha
  | cons x l ih =>
    obtain ⟨h1, h2⟩ := List.pairwise_cons.1 hp
    rcases List.mem_cons.1 ha with e | ha
    · rcases List.mem_cons.1 hb with e' | hb
      · exact absurd (e.trans e'.symm) hne
      · rw [e]; exact h1 b hb
    · rcases List.mem_cons.1 hb with e' | hb
      · rw [e']; exact hs _ _ (h1 a ha)
      · exact ih h2 ha hb

theorem live_step {m0 i q : Nat} {listed : Array Bool} (hil : i < listed.size) (hi : listed.getD i false = false) (h : liveV m0 cr kl (listed.setIfInBounds i true) q) :
    (liveV m0 cr kl listed q ∨ q ∈ atV cr i) ∧ q ∉ atV kl i := by
  have hkeep : ∀ k, listed.getD k false = true → (listed.setIfInBounds i true).getD k false = true := fun k hk => by
    by_cases e : i = k
    · subst e; exact getD_set_true' hil
    · rw [getD_set_ne false e]; exact hk
  refine ⟨?_, h.2 i (getD_set_true' hil)⟩
  rcases h.1 with h1 | ⟨j, hj, hq⟩
  · exact .inl ⟨.inl h1, fun j hj => h.2 j (hkeep j hj)⟩
  · by_cases e : i = j
    · subst e; exact .inr hq
    · rw [getD_set_ne false e] at hj
      exact .inl ⟨.inr ⟨j, hj, hq⟩, fun k hk => h.2 k (hkeep k hk)⟩

theorem VInv.step (hL : okAnc ops L = true) (hd : dstOk ops a0.tmps.size = true) (hflow : flowV ops.size X0.length L us cr kl = true) (hloc : LocalV ops X0.length L cr D) {listed : Array Bool} {a : Act} {w : World} {i : Nat}
    (hstep : StepV P ops L a0 w0 bor X0 us cr kl D i) (inv : VInv ops L a0 w0 bor X0 cr kl D listed a w) (hi : i ∈ Region.ready .any ops listed) {K : Act → World → Prop}
    (hK : ∀ a' w', VInv ops L a0 w0 bor X0 cr kl D (listed.setIfInBounds i true) a' w' → K a' w') : wpOp P ops Q i K a w := by
  obtain ⟨hiu, oi, hoi, hall⟩ := mem_ready.1 hi
  have hisz : i < ops.size := (Array.getElem?_eq_some_iff.1 hoi).1
  have hil : i < listed.size := by rw [inv.size]; exact hisz
  have hul := getD_both hiu
  have hdst : dstAt ops i = oi.dst := by simp [dstAt, hoi]
  have hmono : ∀ k, listed.getD k false = true → (listed.setIfInBounds i true).getD k false = true := fun k hk => by
    by_cases h : i = k
    · subst h; exact getD_set_true' hil
    · rw [getD_set_ne false h]; exact hk
  have hback : ∀ k, (listed.setIfInBounds i true).getD k false = true → k = i ∨ listed.getD k false = true := fun k hk => by
    by_cases h : i = k
    · exact .inl h.symm
    · rw [getD_set_ne false h] at hk; exact .inr hk
  have hlt : ∀ k, listed.getD k false = true → k < ops.size := fun k hk => by
    rcases Nat.lt_or_ge k listed.size with g | g
    · rw [← inv.size]; exact g
    · simp [Array.getElem?_eq_none g] at hk
  obtain ⟨X, hD, hX0, hok, hap⟩ := inv.held
  have hout : ∀ t, outU ops L i t = true → a.eval (.tmp t) = a0.tmps.getD t undef := fun t ht => inv.out t fun j hj hd' => by
    have h1 := List.all_eq_true.1 ht j (List.mem_range.2 (dstAt_lt hd'))
    simp only [Bool.or_eq_true, decide_eq_true_eq] at h1
    rcases h1 with (h1 | h1) | h1
    · exact h1 hd'
    · subst h1; rw [hj] at hul; cases hul
    · have := anc_listed hL inv.size inv.closed j j (Nat.le_refl _) hj i h1
      rw [this] at hul; cases hul
  have hus : ∀ q, q ∈ atV us i → liveV X0.length cr kl listed q := fun q hq => by
    obtain ⟨h1, h2⟩ := flowV_us hflow hisz hq
    refine ⟨h1.imp id fun ⟨j, hj, hc⟩ => ⟨j, anc_ready hL inv.size inv.closed hi hj, hc⟩, fun j hj hk => ?_⟩
    rcases h2 j (hlt j hj) hk with rfl | h3
    · rw [hj] at hul; cases hul
    · have := anc_listed hL inv.size inv.closed j j (Nat.le_refl _) hj i h3
      rw [this] at hul; cases hul
  have h := hstep a.eval (slotsOf a) w X ⟨sees_act a, inv.upd, hout, fun j hj => hD j (anc_ready hL inv.size inv.closed hi hj), hX0, fun q hq => hok q (hus q (List.contains_iff_mem.1 hq)), fun q q' hq hq' hne => hap q q' (hus q (List.contains_iff_mem.1 hq)) (hus q' (List.contains_iff_mem.1 hq')) hne⟩
  rw [hoi] at h
  have hw := GSayV.wanted h
  -- the frame behind it
  have hslot : ∀ (v : Value) (t : Tmp), oi.dst ≠ some t → slotsOf (a.put oi.dst v) t = a.eval (.tmp t) := fun v t ht => put_get _ ht
  have hslotd : ∀ (v : Value) (d : Tmp), oi.dst = some d → slotsOf (a.put oi.dst v) d = v := fun v d hd' => by
    have hlt' := (dstOk_spec hd (by rw [hdst]; exact hd')).1
    rw [hd']
    have h : d < a.tmps.size := by rw [inv.tsize]; exact hlt'
    simp [slotsOf, Act.put, h]
  have hsees : ∀ (v : Value) (j : Nat), listed.getD j false = true → ∀ d, seesV ops L j d = true → slotsOf a d = slotsOf (a.put oi.dst v) d := fun v j hj d hs => by
    refine (hslot v d fun e => ?_).symm
    have h1 := (dstOk_spec hd (by rw [hdst]; exact e)).2
    unfold seesV at hs
    simp only [Bool.or_eq_true, decide_eq_true_eq] at hs
    have hcon : ∀ k, listed.getD k false = true → dstAt ops k = some d → False := fun k hk hkd => by
      by_cases hki : k = i
      · subst hki; rw [hk] at hul; cases hul
      · exact h1 k hki hkd
    rcases hs with hs | hs
    · exact hcon j hj hs
    · obtain ⟨k, _, hk⟩ := List.any_eq_true.1 hs
      simp only [Bool.and_eq_true, decide_eq_true_eq] at hk
      exact hcon k (anc_listed hL inv.size inv.closed j j (Nat.le_refl _) hj k hk.1) hk.2
  have hframe : ∀ v, (listed.setIfInBounds i true).size = ops.size ∧ ClosedU ops (listed.setIfInBounds i true) ∧ (a.put oi.dst v).defers = a0.defers ∧ (a.put oi.dst v).tmps.size = a0.tmps.size ∧
      (∀ t, (∀ j, (listed.setIfInBounds i true).getD j false = true → dstAt ops j ≠ some t) → (a.put oi.dst v).tmps.getD t undef = a0.tmps.getD t undef) := fun v => by
    refine ⟨by simp [inv.size], fun j oj hj hl e he hb => ?_, by rw [put_defers]; exact inv.defers, by rw [put_size]; exact inv.tsize, fun t ht => ?_⟩
    · rcases hback j hl with rfl | hl
      · have : oj = oi := Option.some.inj (hj.symm.trans hoi)
        subst this
        exact hmono _ (hall e he hb)
      · exact hmono _ (inv.closed j oj hj hl e he hb)
    · have h1 : oi.dst ≠ some t := by rw [← hdst]; exact ht i (getD_set_true' hil)
      rw [put_get _ h1]
      exact inv.out t fun j hj => ht j (hmono j hj)
  refine wpOp_step hoi fun K' hK' => ?_
  split
  · rename_i hwt
    refine (hw.1 hwt).wp fun v w' ⟨N, hlen, he, hN⟩ => hK' _ _ (hK _ _ ?_)
    obtain ⟨f1, f2, f3, f4, f5⟩ := hframe v
    obtain ⟨X', hX1, hX2⟩ := map_surj (X := X) hlen.symm (flowV_nodup hflow hisz)
    have hold : ∀ q, liveV X0.length cr kl listed q → q ∉ atV cr i := fun q hq hc => by
      have h1 := flowV_cr hflow hisz hc
      rcases hq.1 with h2 | ⟨j, hj, h2⟩
      · omega
      · refine h1.2 j (hlt j hj) (fun e => ?_) h2
        subst e; rw [hj] at hul; cases hul
    have hkl : ∀ q, q ∈ atV kl i → liveV X0.length cr kl listed q := fun q hq => hus q (flowV_kl hflow hisz hq)
    have hS : ∀ k, k ∈ ((atV kl i).flatMap fun q => (X q).fp) → k ∈ bor ∨ w0.heap.size ≤ k := fun k hk => by
      obtain ⟨q, hq, hkq⟩ := List.mem_flatMap.1 hk
      exact ((hok q (hkl q hq)).own k hkq).1
    have hfar : ∀ q, liveV X0.length cr kl listed q → q ∉ atV kl i → ∀ k ∈ (X q).fp, k ∉ ((atV kl i).flatMap fun q => (X q).fp) := fun q hq hn k hk hm => by
      obtain ⟨q', hq', hkq⟩ := List.mem_flatMap.1 hm
      exact hap q q' hq (hkl q' hq') (fun e => hn (by rw [e]; exact hq')) k hk hkq
    have hnew : ∀ q, q ∈ atV cr i → X' q ∈ N := fun q hq => by rw [← hX2]; exact List.mem_map_of_mem hq
    have hnw : ∀ q q', liveV X0.length cr kl listed q → q ∉ atV kl i → q' ∈ atV cr i → (X q).apart (X' q') := fun q q' hq hn hq' k hk hk' => by
      have h1 := (he.ok _ (hnew q' hq')).2.2 k hk'
      rcases h1.1 with h2 | h2
      · exact hfar q hq hn k hk h2
      · have h3 := ((hok q hq).own k hk).2
        exact absurd h2 (Nat.not_le.2 h3)
    refine ⟨f1, f2, f3, f4, f5, inv.upd.join he.upd hS, X', fun j hj => ?_, fun q e hq => ?_, fun q hq => ?_, fun q q' hq hq' hne => ?_⟩
    · rcases hback j hj with rfl | hj
      · exact hN _ _ _ (hslot v) (hslotd v) (hslot v) (hslotd v) hX1 hX2
      · refine hloc j _ _ _ _ X X' (hsees v j hj) (hsees v j hj) (fun q hs => (hX1 q fun hc => ?_).symm) (hD j hj)
        have h1 := flowV_cr hflow hisz hc
        have hcon : ∀ k, listed.getD k false = true → q ∈ atV cr k → False := fun k hk hkq => h1.2 k (hlt k hk) (fun e => by subst e; rw [hk] at hul; cases hul) hkq
        unfold seesX at hs
        simp only [Bool.or_eq_true, decide_eq_true_eq] at hs
        rcases hs with (hs | hs) | hs
        · omega
        · exact hcon j hj (by simpa using hs)
        · obtain ⟨k, _, hk⟩ := List.any_eq_true.1 hs
          simp only [Bool.and_eq_true] at hk
          exact hcon k (anc_listed hL inv.size inv.closed j j (Nat.le_refl _) hj k hk.1) (by simpa using hk.2)
    · rw [hX1 q fun hc => ?_]
      · exact hX0 q e hq
      · have h1 := (flowV_cr hflow hisz hc).1
        have h2 := (List.getElem?_eq_some_iff.1 hq).1
        omega
    · obtain ⟨h1, hn⟩ := live_step hil hul hq
      rcases h1 with hl | hc
      · rw [hX1 q (hold q hl)]
        exact (hok q hl).keep he.upd (hfar q hl hn)
      · obtain ⟨g1, g2, g3⟩ := he.ok _ (hnew q hc)
        refine ⟨g1, g2, fun k hk => ⟨?_, (g3 k hk).2⟩⟩
        rcases (g3 k hk).1 with h | h
        · exact hS k h
        · exact .inr (Nat.le_trans inv.upd.size h)
    · obtain ⟨h1, hn⟩ := live_step hil hul hq
      obtain ⟨h1', hn'⟩ := live_step hil hul hq'
      rcases h1 with hl | hc
      · rw [hX1 q (hold q hl)]
        rcases h1' with hl' | hc'
        · rw [hX1 q' (hold q' hl')]; exact hap q q' hl hl' hne
        · exact hnw q q' hl hn hc'
      · rcases h1' with hl' | hc'
        · rw [hX1 q' (hold q' hl')]; exact (hnw q' q hl' hn' hc).symm
        · have hp : (atV cr i).Pairwise fun q q' => (X' q).apart (X' q') := by
            have h := he.apart
            rw [← hX2, List.pairwise_map] at h
            exact h
          exact pairwise_ne (fun _ _ h => h.symm) hp hc hc' hne
  · rename_i hwt
    obtain ⟨h1, h2, h3⟩ := hw.2 (by simpa using hwt)
    obtain ⟨f1, f2, f3, f4, f5⟩ := hframe undef
    refine hK' _ _ (hK _ _ ⟨f1, f2, f3, f4, f5, inv.upd, X, fun j hj => ?_, hX0, fun q hq => ?_, fun q q' hq hq' hne => ?_⟩)
    · rcases hback j hj with rfl | hj
      · exact h3 _ _ (hslot undef) (hslotd undef) (hslot undef) (hslotd undef)
      · exact hloc j _ _ _ _ X X (hsees undef j hj) (hsees undef j hj) (fun _ _ => rfl) (hD j hj)
    · rcases (live_step hil hul hq).1 with hl | hl
      · exact hok q hl
      · rw [h1] at hl; cases hl
    · rcases (live_step hil hul hq).1 with hl | hl
      · rcases (live_step hil hul hq').1 with hl' | hl'
        · exact hap q q' hl hl' hne
        · rw [h1] at hl'; cases hl'
      · rw [h1] at hl; cases hl

theorem vinv_frame (hd : dstOk ops a0.tmps.size = true) {listed : Array Bool} {a : Act} {w : World} (h : VInv ops L a0 w0 bor X0 cr kl D listed a w) :
    a = ⟨putAll (dstsU ops) ((dstsU ops).map (slotsOf a)) a0.tmps, a0.defers⟩ := by
  have hb : ∀ d ∈ dstsU ops, d < a0.tmps.size := fun d hd' => by
    obtain ⟨k, hk, he⟩ := List.mem_iff_getElem.1 hd'
    have hlen : (dstsU ops).length = (idxU ops).length := by simp [dstsU]
    obtain ⟨d', h1, h2⟩ := idxU_get (List.getElem?_eq_getElem (show k < (idxU ops).length by omega))
    rw [List.getElem?_eq_getElem hk] at h2
    have : d' = d := (Option.some.inj h2).symm.trans he
    rw [← this]; exact (dstOk_spec hd h1).1
  obtain ⟨h1, h2, h3⟩ := putAll_getD (dstsU ops) ((dstsU ops).map (slotsOf a)) a0.tmps (by simp) (dstsU_nodup hd) hb
  have e : a.tmps = putAll (dstsU ops) ((dstsU ops).map (slotsOf a)) a0.tmps := by
    refine arr_ext (by rw [h1, h.tsize]) fun k => ?_
    by_cases hk : k ∈ dstsU ops
    · obtain ⟨i, hi, he⟩ := List.mem_iff_getElem.1 hk
      exact (h3 i k _ (by rw [List.getElem?_eq_getElem hi, he]) (by rw [List.getElem?_map, List.getElem?_eq_getElem hi, he]; rfl)).symm
    · rw [h2 k hk]
      refine h.out k fun i _ hdi => hk ?_
      have hm : i ∈ idxU ops := List.mem_filter.2 ⟨List.mem_range.2 (dstAt_lt hdi), by rw [hdi]; rfl⟩
      have : k = (dstAt ops i).getD 0 := by rw [hdi]; rfl
      rw [this]
      exact List.mem_map_of_mem hm
  cases a with
  | mk t df =>
    have h4 : df = a0.defers := h.defers
    subst h4
    have h5 : t = _ := e
    exact congrArg (fun x => Act.mk x a0.defers) h5

def finV (n m0 : Nat) (cr kl : List (List Nat)) (fin : List Nat) : Bool :=
  decide fin.Nodup && fin.all fun q => (decide (q < m0) || (List.range n).any fun i => (atV cr i).contains q) && (List.range n).all fun i => !(atV kl i).contains q
theorem fin_live {n m0 q : Nat} {fin : List Nat} {listed : Array Bool} (h : finV n m0 cr kl fin = true) (hs : listed.size = n) (hall : ∀ i, i < n → listed.getD i false = true) (hq : q ∈ fin) : liveV m0 cr kl listed q := by
  unfold finV at h
  rw [Bool.and_eq_true] at h
  have h1 := List.all_eq_true.1 h.2 q hq
  rw [Bool.and_eq_true, Bool.or_eq_true, decide_eq_true_eq] at h1
  refine ⟨h1.1.imp id fun h2 => ?_, fun i hi hk => ?_⟩
  · obtain ⟨i, hi, h3⟩ := List.any_eq_true.1 h2
    exact ⟨i, hall i (List.mem_range.1 hi), List.contains_iff_mem.1 h3⟩
  · have hlt : i < n := by
      rcases Nat.lt_or_ge i listed.size with g | g
      · rw [← hs]; exact g
      · simp [Array.getElem?_eq_none g] at hi
    have h2 := List.all_eq_true.1 h1.2 i (List.mem_range.2 hlt)
    rw [List.contains_iff_mem.2 hk] at h2
    cases h2
theorem vinv_end {fin : List Nat} (hd : dstOk ops a0.tmps.size = true) (hfin : finV ops.size X0.length cr kl fin = true)
    (hrest : ∀ (σ β : Tmp → Value) (X : Nat → Ent) (w' : World), (∀ i, i < ops.size → D i σ β X) → (∀ q e, X0[q]? = some e → X q = e) → St w0 bor (fin.map X) w' → Q .normal ⟨putAll (dstsU ops) ((dstsU ops).map σ) a0.tmps, a0.defers⟩ w')
    {listed : Array Bool} {a : Act} {w : World} (hall : ∀ i, i < ops.size → listed.getD i false = true) (inv : VInv ops L a0 w0 bor X0 cr kl D listed a w) : Q .normal a w := by
  obtain ⟨X, hD, hX0, hok, hap⟩ := inv.held
  have h := hrest (slotsOf a) (slotsOf a) X w (fun i hi => hD i (hall i hi)) hX0 ⟨inv.upd, fun e he => ?_, ?_⟩
  · rw [vinv_frame hd inv]
    rw [← vinv_frame hd inv] at h ⊢
    exact h
  · obtain ⟨q, hq, rfl⟩ := List.mem_map.1 he
    exact hok q (fin_live hfin inv.size hall hq)
  · rw [List.pairwise_map]
    have hn : fin.Nodup := by
      unfold finV at hfin
      rw [Bool.and_eq_true, decide_eq_true_eq] at hfin
      exact hfin.1
    exact List.Pairwise.imp_of_mem (fun ha hb hne => hap _ _ (fin_live hfin inv.size hall ha) (fin_live hfin inv.size hall hb) hne) hn

theorem vinv_start {w : World} (hst : St w0 bor X0 w) : VInv ops L a0 w0 bor X0 cr kl D (Array.replicate ops.size false) a0 w := by
  refine ⟨by simp, fun j oj _ hl => absurd hl (by rw [getD_replicate_false]; simp), rfl, rfl, fun _ _ => rfl, hst.upd, fun q => (X0[q]?).getD ⟨[], fun _ => False⟩, fun i hl => absurd hl (by rw [getD_replicate_false]; simp), fun q e he => by simp [he], fun q hq => ?_, fun q q' hq hq' hne => ?_⟩
  · rcases hq.1 with h | ⟨i, hi, _⟩
    · simp only [List.getElem?_eq_getElem h, Option.getD_some]
      exact hst.ok _ (List.getElem_mem h)
    · rw [getD_replicate_false] at hi; cases hi
  · rcases hq.1 with h | ⟨i, hi, _⟩
    · rcases hq'.1 with h' | ⟨i, hi, _⟩
      · simp only [List.getElem?_eq_getElem h, List.getElem?_eq_getElem h', Option.getD_some]
        rcases Nat.lt_or_gt_of_ne hne with hlt | hgt
        · exact List.pairwise_iff_getElem.1 hst.apart q q' h h' hlt
        · exact (List.pairwise_iff_getElem.1 hst.apart q' q h' h hgt).symm
      · rw [getD_replicate_false] at hi; cases hi
    · rw [getD_replicate_false] at hi; cases hi

theorem wpAny_V (hL : okAnc ops L = true) (hd : dstOk ops a0.tmps.size = true) (hflow : flowV ops.size X0.length L us cr kl = true) (hloc : LocalV ops X0.length L cr D)
    (hstep : ∀ i, i < ops.size → StepV P ops L a0 w0 bor X0 us cr kl D i)
    (hrest : ∀ (a : Act) (w : World) (listed : Array Bool), (∀ i, i < ops.size → listed.getD i false = true) → VInv ops L a0 w0 bor X0 cr kl D listed a w → Q .normal a w) :
    ∀ (m : Nat) (listed : Array Bool) (a : Act) (w : World), (List.range ops.size).countP (fun i => !listed.getD i false) = m → VInv ops L a0 w0 bor X0 cr kl D listed a w → wpAny P .any ops Q m listed a w := by
  intro m
  induction m with
  | zero =>
    intro listed a w hcnt inv
    have hall : ∀ i, i < ops.size → listed.getD i false = true := fun i hi => by
      have := List.countP_eq_zero.1 hcnt i (List.mem_range.2 hi)
      simpa using this
    refine ⟨?_, hrest a w listed hall inv⟩
    cases hr : Region.ready .any ops listed with
    | nil => rfl
    | cons x xs =>
      have hx : x ∈ Region.ready .any ops listed := by rw [hr]; simp
      obtain ⟨h1, o, ho, _⟩ := mem_ready.1 hx
      have := hall x (Array.getElem?_eq_some_iff.1 ho).1
      rw [getD_both h1] at this
      cases this
  | succ m ih =>
    intro listed a w hcnt inv
    have hun : ∀ i, i < ops.size → listed.getD i false = false → listed.getD i true = false := fun i hi h => getD_in (by rw [inv.size]; exact hi) h
    refine ⟨fun h0 => ?_, fun i hi => ?_⟩
    · exfalso
      have hex : ∃ i, i < ops.size ∧ listed.getD i false = false := by
        have : 0 < (List.range ops.size).countP (fun i => !listed.getD i false) := by omega
        obtain ⟨i, hi, hu⟩ := List.countP_pos_iff.1 this
        exact ⟨i, List.mem_range.1 hi, by simpa using hu⟩
      have hleast : ∀ k, ∀ i, i < ops.size → listed.getD i false = false → i ≤ k → ∃ j, j ∈ Region.ready .any ops listed := by
        intro k
        induction k using Nat.strongRecOn with
        | _ k ihk =>
          intro i hi hu hik
          by_cases hlow : ∃ j, j < i ∧ listed.getD j false = false
          · obtain ⟨j, hj, hju⟩ := hlow
            exact ihk j (by omega) j (by omega) hju (Nat.le_refl _)
          · obtain ⟨o, ho⟩ : ∃ o, ops[i]? = some o := ⟨_, Array.getElem?_eq_getElem hi⟩
            refine ⟨i, mem_ready.2 ⟨hun i hi hu, o, ho, fun e he hb => ?_⟩⟩
            have hlt := okAnc_back hL ho e he hb
            cases hv : listed.getD e.on false with
            | true => rfl
            | false => exact (hlow ⟨e.on, hlt, hv⟩).elim
      obtain ⟨i, hi, hu⟩ := hex
      obtain ⟨j, hj⟩ := hleast i i hi hu (Nat.le_refl _)
      rw [h0] at hj
      cases hj
    · obtain ⟨hiu, o, ho, hall⟩ := mem_ready.1 hi
      have hisz : i < ops.size := (Array.getElem?_eq_some_iff.1 ho).1
      have hil : i < listed.size := by rw [inv.size]; exact hisz
      have hul := getD_both hiu
      have hcnt' : (List.range ops.size).countP (fun j => !(listed.setIfInBounds i true).getD j false) = m := by
        have hc' := countP_set ops.size (fun j => !listed.getD j false) (fun j => !(listed.setIfInBounds i true).getD j false) i hisz (by show (!listed.getD i false) = true; rw [hul]; rfl)
          (by show (!(listed.setIfInBounds i true).getD i false) = false; rw [getD_set_true' hil]; rfl)
          (fun j hj => by show (!(listed.setIfInBounds i true).getD j false) = (!listed.getD j false); rw [getD_set_ne false (fun e => hj e.symm)])
        omega
      exact inv.step hL hd hflow hloc (hstep i hisz) hi fun a' w' h => ih _ a' w' hcnt' h

theorem wpOps_V (hL : okAnc ops L = true) (hd : dstOk ops a0.tmps.size = true) (hflow : flowV ops.size X0.length L us cr kl = true) (hloc : LocalV ops X0.length L cr D)
    (hstep : ∀ i, i < ops.size → StepV P ops L a0 w0 bor X0 us cr kl D i)
    (hrest : ∀ (a : Act) (w : World) (listed : Array Bool), (∀ i, i < ops.size → listed.getD i false = true) → VInv ops L a0 w0 bor X0 cr kl D listed a w → Q .normal a w) :
    ∀ (m k : Nat) (listed : Array Bool) (a : Act) (w : World), k + m = ops.size → (∀ j, listed.getD j false = true ↔ j < k) → VInv ops L a0 w0 bor X0 cr kl D listed a w → wpOps P ops Q (List.range' k m) a w := by
  intro m
  induction m with
  | zero =>
    intro k listed a w hk hl inv
    exact hrest a w listed (fun i hi => (hl i).2 (by omega)) inv
  | succ m ih =>
    intro k listed a w hk hl inv
    rw [List.range'_succ, wpOps_cons]
    have hks : k < ops.size := by omega
    have hkl : k < listed.size := by rw [inv.size]; exact hks
    obtain ⟨o, ho⟩ : ∃ o, ops[k]? = some o := ⟨_, Array.getElem?_eq_getElem hks⟩
    have hul : listed.getD k false = false := by
      cases h : listed.getD k false with
      | false => rfl
      | true => have := (hl k).1 h; omega
    refine inv.step hL hd hflow hloc (hstep k hks) (mem_ready.2 ⟨getD_in hkl hul, o, ho, fun e he hb => (hl e.on).2 (okAnc_back hL ho e he hb)⟩) fun a' w' h => ?_
    refine ih (k + 1) _ a' w' (by omega) (fun j => ?_) h
    by_cases e : k = j
    · subst e
      exact ⟨fun _ => by omega, fun _ => getD_set_true' hkl⟩
    · rw [getD_set_ne false e, hl j]
      omega

theorem St.drew {w : World} {X : List Ent} (h : St w0 bor X w) : St w0 bor X w.drew :=
  ⟨h.upd.drew, fun e he => (h.ok e he).keep (Upd.refl [] w).drew (fun _ _ => by simp), h.apart⟩

/-- THE RULE -/
theorem wp_region_V {id : Nat} {dr : Bool} {w : World} (hm : P.follows .mixedOrders = true) (L : List Nat) (us cr kl : List (List Nat)) (D : Nat → (Tmp → Value) → (Tmp → Value) → (Nat → Ent) → Prop) (fin : List Nat)
    (hL : okAnc ops L = true) (hd : dstOk ops a0.tmps.size = true) (hflow : flowV ops.size X0.length L us cr kl = true) (hfin : finV ops.size X0.length cr kl fin = true)
    (hloc : LocalV ops X0.length L cr D) (hst : St w0 bor X0 w) (hstep : AllTo (StepV P ops L a0 w0 bor X0 us cr kl D) ops.size)
    (hrest : ∀ (σ β : Tmp → Value) (X : Nat → Ent) (w' : World), (∀ i, i < ops.size → D i σ β X) → (∀ q e, X0[q]? = some e → X q = e) → St w0 bor (fin.map X) w' →
      ∀ fr, fr = putAll (dstsU ops) ((dstsU ops).map σ) a0.tmps → Q .normal ⟨fr, a0.defers⟩ w') : (Code.region id ops dr).wp P Q a0 w := by
  have hs : ∀ i, i < ops.size → StepV P ops L a0 w0 bor X0 us cr kl D i := fun i hi => hstep.get i hi
  have hr : ∀ (a : Act) (w : World) (listed : Array Bool), (∀ i, i < ops.size → listed.getD i false = true) → VInv ops L a0 w0 bor X0 cr kl D listed a w → Q .normal a w := fun a w listed hall inv => vinv_end hd hfin (fun σ β X w' h1 h2 h3 => hrest σ β X w' h1 h2 h3 _ rfl) hall inv
  cases dr with
  | true =>
    refine wp_region_any hm (wpAny_V hL hd hflow hloc hs hr ops.size (Array.replicate ops.size false) a0 w.drew ?_ (vinv_start hst.drew))
    rw [List.countP_eq_length.2]
    · simp
    · intro i _
      rw [getD_replicate_false]
      rfl
  | false =>
    refine wp_region ?_
    rw [List.range_eq_range']
    exact wpOps_V hL hd hflow hloc hs hr ops.size 0 (Array.replicate ops.size false) a0 w (by omega) (fun j => by rw [getD_replicate_false]; simp) (vinv_start hst)
/-- the same, the frame's parts apart -/
theorem wp_region_W {id : Nat} {dr : Bool} {w : World} {t0 : Array Value} {d0 : List Deferred} (hm : P.follows .mixedOrders = true) (L : List Nat) (us cr kl : List (List Nat)) (D : Nat → (Tmp → Value) → (Tmp → Value) → (Nat → Ent) → Prop) (fin : List Nat)
    (hL : okAnc ops L = true) (hd : dstOk ops t0.size = true) (hflow : flowV ops.size X0.length L us cr kl = true) (hfin : finV ops.size X0.length cr kl fin = true)
    (hloc : LocalV ops X0.length L cr D) (hst : St w0 bor X0 w) (hstep : AllTo (StepV P ops L ⟨t0, d0⟩ w0 bor X0 us cr kl D) ops.size)
    (hrest : ∀ (σ β : Tmp → Value) (X : Nat → Ent) (w' : World), (∀ i, i < ops.size → D i σ β X) → (∀ q e, X0[q]? = some e → X q = e) → St w0 bor (fin.map X) w' →
      ∀ fr, fr = putAll (dstsU ops) ((dstsU ops).map σ) t0 → Q .normal ⟨fr, d0⟩ w') : (Code.region id ops dr).wp P Q ⟨t0, d0⟩ w :=
  wp_region_V (a0 := ⟨t0, d0⟩) hm L us cr kl D fin hL hd hflow hfin hloc hst hstep hrest
end
end Go.Proofs.YtfjpglohcppjeaaDoor

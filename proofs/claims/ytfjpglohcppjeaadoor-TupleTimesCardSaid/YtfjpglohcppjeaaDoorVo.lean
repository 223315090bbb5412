/- Entries of the common kinds; one law for each kind of operation, for the region's rule of XV. -/
import Derived.Test.YtfjpglohcppjeaaDoorV
namespace Go.Proofs.YtfjpglohcppjeaaDoor
open Go.RowKit
set_option linter.unusedVariables false
set_option linter.unusedSimpArgs false

def pb : Value → Nat
  | .pointer (some a) => a.block
  | _ => 0
def sA : Value → Option Addr
  | .slice A _ _ => A
  | _ => none
def sC : Value → Nat
  | .slice _ _ c => c
  | _ => 0
def tg (v : Value) (i : Nat) : Value := match v with
  | .tuple vs => vs.getD i undef
  | .agg vs => vs.getD i undef
  | _ => undef

/-- a block known whole -/
def eB (b : Nat) (t : TypeId) (cs : Array Value) : Ent := ⟨[b], fun W => Blk W b t cs⟩
theorem eB_loc (b : Nat) (t : TypeId) (cs : Array Value) : (eB b t cs).loc := fun W W' h hb => (h b (by simp [eB])).trans hb
/-- a row that the call owns -/
def eO (e : TypeId) (sz : Nat) (v : Value) (n : Nat) (xs : List Value) : Ent := ⟨v.ownBlock.toList, fun W => W.ownsRow 0 e sz v n xs⟩
theorem eO_loc (e : TypeId) (sz : Nat) (v : Value) (n : Nat) (xs : List Value) : (eO e sz v n xs).loc := fun W W' hk h => by
  refine ⟨h.1, ?_⟩
  rcases h.2 with hn | ⟨g, cap, cur, rfl, hbg, hgg, rest⟩
  · exact .inl hn
  · exact .inr ⟨g, cap, cur, rfl, hbg, by rw [hk g (by simp [eO, Value.ownBlock])]; exact hgg, rest⟩

theorem St.start (w : World) : St w [] [] w := ⟨Upd.refl _ _, by simp, List.Pairwise.nil⟩
theorem St.ext {w0 W : World} {L : List Ent} (h : St w0 [] L W) : Ext w0 W := h.upd.to_ext
theorem St.get {w0 W : World} {bor : List Nat} {L : List Ent} (h : St w0 bor L W) (i : Nat) {e : Ent} (hi : L[i]? = some e) : e.ok w0 bor W := h.ok e (List.mem_of_getElem? hi)
theorem St.blk {w0 W : World} {bor : List Nat} {L : List Ent} (h : St w0 bor L W) (i : Nat) {b : Nat} {t : TypeId} {cs : Array Value} (hi : L[i]? = some (eB b t cs)) : Blk W b t cs := (h.get i hi).holds
theorem St.own {w0 W : World} {bor : List Nat} {L : List Ent} (h : St w0 bor L W) (i : Nat) {e sz n : Nat} {v : Value} {xs : List Value} (hi : L[i]? = some (eO e sz v n xs)) : W.ownsRow w0.heap.size e sz v n xs ∨ ∃ k, v.ownBlock = some k ∧ k ∈ bor := by
  have hk := h.get i hi
  have ho : W.ownsRow 0 e sz v n xs := hk.holds
  rcases ho.2 with hn | ⟨g, cap, cur, rfl, hbg, hgg, rest⟩
  · exact .inl ⟨ho.1, .inl hn⟩
  · rcases (hk.own g (by simp [eO, Value.ownBlock])).1 with h1 | h1
    · exact .inr ⟨g, rfl, h1⟩
    · exact .inl ⟨ho.1, .inr ⟨g, cap, cur, rfl, h1, hgg, rest⟩⟩
theorem St.own' {w0 W : World} {L : List Ent} (h : St w0 [] L W) (i : Nat) {e sz n : Nat} {v : Value} {xs : List Value} (hi : L[i]? = some (eO e sz v n xs)) : W.ownsRow w0.heap.size e sz v n xs := by
  rcases h.own i hi with h | ⟨k, _, hk⟩
  · exact h
  · cases hk
/-- the nil slice is an empty row -/
theorem St.nilrow {w0 W : World} {bor : List Nat} {L : List Ent} (h : St w0 bor L W) (e : TypeId) : St w0 bor (L ++ [eO e 1 (.slice none 0 0) 0 []]) W := by
  refine ⟨h.upd, fun x hx => ?_, ?_⟩
  · rcases List.mem_append.1 hx with hx | hx
    · exact h.ok x hx
    · rw [List.mem_singleton] at hx
      subst hx
      exact ⟨World.ownsRow_nil _ _ _ _, eO_loc _ _ _ _ _, fun k hk => by cases hk⟩
  · rw [List.pairwise_append]
    refine ⟨h.apart, List.pairwise_singleton _ _, fun a _ b hb => ?_⟩
    rw [List.mem_singleton] at hb
    subst hb
    exact fun k _ hk => by cases hk
/-- fewer entries, another order -/
theorem St.pick {w0 W : World} {bor : List Nat} {L : List Ent} (h : St w0 bor L W) (l : List Nat) (hn : l.Nodup) (hlb : (l.all fun i => Nat.blt i L.length) = true) : St w0 bor (l.map fun i => L.getD i ⟨[], fun _ => True⟩) W := by
  have hl : ∀ i ∈ l, i < L.length := fun i hi => by
    have h1 := List.all_eq_true.1 hlb i hi
    simpa using h1
  refine ⟨h.upd, fun e he => ?_, ?_⟩
  · obtain ⟨i, hi, rfl⟩ := List.mem_map.1 he
    rw [List.getD_eq_getElem?_getD, List.getElem?_eq_getElem (hl i hi), Option.getD_some]
    exact h.ok _ (List.getElem_mem _)
  · rw [List.pairwise_map]
    refine List.Pairwise.imp_of_mem (fun {a b} ha hb hne => ?_) hn
    rw [List.getD_eq_getElem?_getD, List.getD_eq_getElem?_getD, List.getElem?_eq_getElem (hl a ha), List.getElem?_eq_getElem (hl b hb), Option.getD_some, Option.getD_some]
    rcases Nat.lt_or_gt_of_ne hne with hlt | hgt
    · exact List.pairwise_iff_getElem.1 h.apart a b _ _ hlt
    · exact (List.pairwise_iff_getElem.1 h.apart b a _ _ hgt).symm

section
variable {P : Program} {ops : Array Oper} {L : List Nat} {a0 : Act} {w0 : World} {bor : List Nat} {X0 : List Ent} {us cr kl : List (List Nat)}
  {D : Nat → (Tmp → Value) → (Tmp → Value) → (Nat → Ent) → Prop} {i : Nat} {o : Oper} {ρ : Operand → Value} {β : Tmp → Value} {W : World} {X : Nat → Ent}

/-- a step that yields a value and leaves memory as it is -/
theorem sv (ho : ops[i]? = some o) (hg : o.guard = none) {d : Tmp} (hd : o.dst = some d) (hc : atV cr i = []) (hk : atV kl i = []) (V : (Tmp → Value) → Value)
    (hD : ∀ σ β X, σ d = V β → D i σ β X) (hV : ∀ β β' : Tmp → Value, (∀ t, t ≠ d → β' t = β t) → V β = V β')
    (h : ∀ ρ β W X, CtxV ops L a0 w0 bor X0 us D i ρ β W X → (execOp ρ o).run P W = .ok (.value (V β)) W) : StepV P ops L a0 w0 bor X0 us cr kl D i := by
  intro ρ β W X c
  rw [ho]
  refine GSayV.none hg (DoesU.value (h ρ β W X c) ⟨[], by rw [hc]; rfl, ⟨Upd.refl _ _, by simp, List.Pairwise.nil⟩, fun σ β' X' hs hv hb hbv hx hN => hD σ β' X' ?_⟩)
  rw [hv d hd]
  exact hV β β' fun t ht => hb t (by rw [hd]; simpa using ht.symm)
/-- the same under a guard that says yes -/
theorem sv_on (ho : ops[i]? = some o) {g dg : Nat} {b : Bool} (hg : o.guard = some (g, b)) (hdg : dstAt ops g = some dg) {d : Tmp} (hd : o.dst = some d) (hc : atV cr i = []) (hk : atV kl i = []) (V : (Tmp → Value) → Value)
    (hD : ∀ σ β X, σ d = V β → D i σ β X) (hV : ∀ β β' : Tmp → Value, (∀ t, t ≠ d → β' t = β t) → V β = V β')
    (hgv : ∀ ρ β W X, CtxV ops L a0 w0 bor X0 us D i ρ β W X → ρ (.tmp dg) = .bool b)
    (h : ∀ ρ β W X, CtxV ops L a0 w0 bor X0 us D i ρ β W X → (execOp ρ o).run P W = .ok (.value (V β)) W) : StepV P ops L a0 w0 bor X0 us cr kl D i := by
  intro ρ β W X c
  rw [ho]
  refine GSayV.on hg hdg (hgv ρ β W X c) (DoesU.value (h ρ β W X c) ⟨[], by rw [hc]; rfl, ⟨Upd.refl _ _, by simp, List.Pairwise.nil⟩, fun σ β' X' hs hv hb hbv hx hN => hD σ β' X' ?_⟩)
  rw [hv d hd]
  exact hV β β' fun t ht => hb t (by rw [hd]; simpa using ht.symm)
/-- under a guard that says no -/
theorem sv_off (ho : ops[i]? = some o) {g dg : Nat} {b b' : Bool} (hg : o.guard = some (g, b)) (hdg : dstAt ops g = some dg) (hne : b' ≠ b) (hc : atV cr i = []) (hk : atV kl i = [])
    (hD : ∀ σ β X, (∀ d, o.dst = some d → σ d = undef) → D i σ β X)
    (hgv : ∀ ρ β W X, CtxV ops L a0 w0 bor X0 us D i ρ β W X → ρ (.tmp dg) = .bool b') : StepV P ops L a0 w0 bor X0 us cr kl D i := by
  intro ρ β W X c
  rw [ho]
  exact GSayV.off hg hdg (hgv ρ β W X c) hne ⟨hc, hk, fun σ β' hs hv hb hbv => hD σ β' X hv⟩
/-- behind a guard that said no -/
theorem sv_un (ho : ops[i]? = some o) {g dg : Nat} {b : Bool} (hg : o.guard = some (g, b)) (hdg : dstAt ops g = some dg) (hc : atV cr i = []) (hk : atV kl i = [])
    (hD : ∀ σ β X, (∀ d, o.dst = some d → σ d = undef) → D i σ β X)
    (hgv : ∀ ρ β W X, CtxV ops L a0 w0 bor X0 us D i ρ β W X → ρ (.tmp dg) = undef) : StepV P ops L a0 w0 bor X0 us cr kl D i := by
  intro ρ β W X c
  rw [ho]
  exact GSayV.un hg hdg (hgv ρ β W X c) ⟨hc, hk, fun σ β' hs hv hb hbv => hD σ β' X hv⟩
/-- any step without a guard -/
theorem sv_any (ho : ops[i]? = some o) (hg : o.guard = none) (h : ∀ ρ β W X, CtxV ops L a0 w0 bor X0 us D i ρ β W X → DoesU P o ρ W (PostV cr kl D i o.dst ρ β W X)) : StepV P ops L a0 w0 bor X0 us cr kl D i := by
  intro ρ β W X c
  rw [ho]
  exact GSayV.none hg (h ρ β W X c)
theorem sv_any_on (ho : ops[i]? = some o) {g dg : Nat} {b : Bool} (hg : o.guard = some (g, b)) (hdg : dstAt ops g = some dg)
    (hgv : ∀ ρ β W X, CtxV ops L a0 w0 bor X0 us D i ρ β W X → ρ (.tmp dg) = .bool b)
    (h : ∀ ρ β W X, CtxV ops L a0 w0 bor X0 us D i ρ β W X → DoesU P o ρ W (PostV cr kl D i o.dst ρ β W X)) : StepV P ops L a0 w0 bor X0 us cr kl D i := by
  intro ρ β W X c
  rw [ho]
  exact GSayV.on hg hdg (hgv ρ β W X c) (h ρ β W X c)

/-- the same, the value free of unknown parts -/
theorem sv0 (ho : ops[i]? = some o) (hg : o.guard = none) {d : Tmp} (hd : o.dst = some d) (hc : atV cr i = []) (hk : atV kl i = []) {V : Value}
    (hD : ∀ σ β X, σ d = V → D i σ β X) (h : ∀ ρ β W X, CtxV ops L a0 w0 bor X0 us D i ρ β W X → (execOp ρ o).run P W = .ok (.value V) W) : StepV P ops L a0 w0 bor X0 us cr kl D i :=
  sv ho hg hd hc hk (fun _ => V) hD (fun _ _ _ => rfl) h
theorem sv0_on (ho : ops[i]? = some o) {g dg : Nat} {b : Bool} (hg : o.guard = some (g, b)) (hdg : dstAt ops g = some dg) {d : Tmp} (hd : o.dst = some d) (hc : atV cr i = []) (hk : atV kl i = []) {V : Value}
    (hD : ∀ σ β X, σ d = V → D i σ β X) (hgv : ∀ ρ β W X, CtxV ops L a0 w0 bor X0 us D i ρ β W X → ρ (.tmp dg) = .bool b)
    (h : ∀ ρ β W X, CtxV ops L a0 w0 bor X0 us D i ρ β W X → (execOp ρ o).run P W = .ok (.value V) W) : StepV P ops L a0 w0 bor X0 us cr kl D i :=
  sv_on ho hg hdg hd hc hk (fun _ => V) hD (fun _ _ _ => rfl) hgv h
theorem CtxV.blk {q b t : Nat} {cs : Array Value} (cx : CtxV ops L a0 w0 bor X0 us D i ρ β W X) (hX : X q = eB b t cs) (hu : (atV us i).contains q = true) : Blk W b t cs := by
  have h := (cx.ok q hu).holds
  rw [hX] at h; exact h
theorem CtxV.row {q e sz n : Nat} {v : Value} {xs : List Value} (cx : CtxV ops L a0 w0 bor X0 us D i ρ β W X) (hX : X q = eO e sz v n xs) (hu : (atV us i).contains q = true) : W.ownsRow 0 e sz v n xs := by
  have h := (cx.ok q hu).holds
  rw [hX] at h; exact h
theorem map0 : (#[] : Array Operand).map ρ = #[] := by simp
theorem map1 {x : Operand} {v : Value} (h : ρ x = v) : #[x].map ρ = #[v] := by simp [h]
theorem map2 {x y : Operand} {v u : Value} (h : ρ x = v) (h2 : ρ y = u) : #[x, y].map ρ = #[v, u] := by simp [h, h2]
theorem map3 {x y z : Operand} {v u t : Value} (h : ρ x = v) (h2 : ρ y = u) (h3 : ρ z = t) : #[x, y, z].map ρ = #[v, u, t] := by simp [h, h2, h3]
theorem map4 {x y z a : Operand} {v u t b : Value} (h : ρ x = v) (h2 : ρ y = u) (h3 : ρ z = t) (h4 : ρ a = b) : #[x, y, z, a].map ρ = #[v, u, t, b] := by simp [h, h2, h3, h4]
/- what the operations yield -/
theorem run_move' {x : Operand} {v : Value} (h : o.op = .move x) (hx : ρ x = v) : (execOp ρ o).run P W = .ok (.value v) W := by unfold execOp; rw [h]; simp only [hx]; rfl
theorem run_assign' {x : Operand} {v : Value} (h : o.op = .assign x) (hx : ρ x = v) : (execOp ρ o).run P W = .ok (.value v) W := by unfold execOp; rw [h]; simp only [hx]; rfl
theorem run_pick_t {c a b : Operand} {v : Value} (h : o.op = .pick c a b) (hc : ρ c = .bool true) (ha : ρ a = v) : (execOp ρ o).run P W = .ok (.value v) W := by unfold execOp; rw [h]; simp only [hc, ha]; rfl
theorem run_pick_f {c a b : Operand} {v : Value} (h : o.op = .pick c a b) (hc : ρ c = .bool false) (hb : ρ b = v) : (execOp ρ o).run P W = .ok (.value v) W := by unfold execOp; rw [h]; simp only [hc, hb]; rfl
theorem run_extract' {x : Operand} {k : Nat} {vs : Array Value} {v : Value} (h : o.op = .extract x k) (hx : ρ x = .tuple vs) (hv : vs[k]? = some v) : (execOp ρ o).run P W = .ok (.value v) W := by
  unfold execOp; rw [h]; simp only [hx, Instr.extract, hv]; rfl
/-- is a type's value made of parts? -/
def aggP (P : Program) (t : TypeId) : Option Bool := match P.underlying t with
  | none => none
  | some (.struct _) => some true
  | some (.array _ _) => some true
  | some _ => some false
theorem run_isAgg {t : TypeId} {b : Bool} (h : aggP P t = some b) : (isAgg t).run P W = .ok b W := by
  unfold aggP at h
  cases hu : P.underlying t with
  | none => rw [hu] at h; cases h
  | some d =>
    rw [hu] at h
    unfold isAgg
    simp only [Sem.run_bind, run_underlying hu, Result.andThen_ok]
    cases d <;> simp at h <;> subst h <;> rfl
theorem run_load1 {t : TypeId} {x : Operand} {a : Addr} {v : Value} (h : o.op = .load t x) (ht : aggP P t = some false) (hx : ρ x = .pointer (some a)) (hc : W.cell? a = some v) : (execOp ρ o).run P W = .ok (.value v) W := by
  unfold execOp; rw [h]
  simp only [hx, Instr.loadAt, Instr.sureAddr, loadVar, Sem.run_bind, Sem.run_pure, Result.andThen_ok, run_isAgg ht, load]
  simp [Sem.run, hc]
theorem run_loadCells {b off : Nat} {t : TypeId} {cs : Array Value} (hb : Blk W b t cs) : ∀ (n i : Nat) (acc : Array Value), off + i + n ≤ cs.size →
    (loadCellsFrom ⟨b, off, none⟩ i n acc).run P W = .ok (acc ++ cs.extract (off + i) (off + i + n)) W := by
  intro n
  induction n with
  | zero => intro i acc h; simp [loadCellsFrom]; omega
  | succ n ih =>
    intro i acc h
    have hlt : off + i < cs.size := by omega
    have hc : W.cell? ((⟨b, off, none⟩ : Addr).add i) = some cs[off + i] := by rw [Addr.add_lit, hb.cell, Array.getElem?_eq_getElem hlt]
    unfold loadCellsFrom
    simp only [Sem.run_bind, load, Sem.run, hc, Result.andThen_ok]
    rw [ih (i + 1) (acc.push cs[off + i]) (by omega)]
    congr 1
    rw [Array.push_eq_append, Array.append_assoc]
    congr 1
    apply Array.ext'
    simp only [Array.toList_append, Array.toList_extract, List.extract_eq_take_drop]
    have e1 : off + (i + 1) = off + i + 1 := by omega
    rw [e1, show off + i + 1 + n - (off + i + 1) = n by omega, show off + i + (n + 1) - (off + i) = n + 1 by omega]
    rw [List.drop_eq_getElem_cons (i := off + i) (by simpa using hlt)]
    rfl
def szP (P : Program) (t : TypeId) : Option Nat := (P.info? t).map (·.size)
theorem run_size {t : TypeId} {n : Nat} (h : szP P t = some n) : (sizeOf t).run P W = .ok n W := by
  unfold szP at h
  cases hi : P.info? t with
  | none => rw [hi] at h; cases h
  | some i =>
    rw [hi] at h
    have h2 : i.size = n := Option.some.inj h
    rw [run_sizeOf _ hi]
    unfold Program.cellsOf
    rw [hi]
    simp [h2]
theorem run_loadB {t t' : TypeId} {x : Operand} {b off n : Nat} {cs cs' : Array Value} (h : o.op = .load t x) (ht : aggP P t = some true) (hn : szP P t = some n) (hx : ρ x = .pointer (some ⟨b, off, none⟩)) (hb : Blk W b t' cs)
    (hle : off + n ≤ cs.size) (hcs : ((cs.toList.drop off).take n).toArray = cs') : (execOp ρ o).run P W = .ok (.value (.agg cs')) W := by
  replace hcs : cs.extract off (off + n) = cs' := by
    rw [← hcs]
    apply Array.ext'
    simp [List.extract_eq_take_drop]
  unfold execOp; rw [h]
  simp only [hx, Instr.loadAt, Instr.sureAddr, loadVar, Sem.run_bind, Sem.run_pure, Result.andThen_ok, run_isAgg ht, if_true, run_size hn, loadCells]
  rw [run_loadCells hb n 0 #[] (by omega)]
  simp only [Result.andThen_ok, Nat.add_zero, hcs]
  simp

/-- the parts of a value, laid from off on -/
def putC (cs : Array Value) (off : Nat) : List Value → Array Value
  | [] => cs
  | v :: l => putC (cs.setIfInBounds off v) (off + 1) l
theorem run_storeCells {b : Nat} {t : TypeId} : ∀ (vs : List Value) (off i : Nat) (cs : Array Value) (W : World), Blk W b t cs → off + i + vs.length ≤ cs.size → (∀ v ∈ vs, v.oneCell' = true) →
    ∃ W', (storeCells ⟨b, off, none⟩ vs i).run P W = .ok () W' ∧ Upd [b] W W' ∧ Blk W' b t (putC cs (off + i) vs) := by
  intro vs
  induction vs with
  | nil => intro off i cs W hb _ _; exact ⟨W, rfl, Upd.refl _ _, hb⟩
  | cons v vs ih =>
    intro off i cs W hb hle h1
    simp only [List.length_cons] at hle
    have hlt : off + i < cs.size := by omega
    have hc : W.cell? ⟨b, off + i, none⟩ = some cs[off + i] := by rw [hb.cell, Array.getElem?_eq_getElem hlt]
    have hfz : W.frozen? ⟨b, off + i, none⟩ = false := hb.frozen _
    obtain ⟨W', h2, h3, h4⟩ := ih off (i + 1) (cs.setIfInBounds (off + i) v) (W.setCell ⟨b, off + i, none⟩ v) (hb.set_ _ _) (by rw [Array.size_setIfInBounds]; omega) (fun x hx => h1 x (by simp [hx]))
    refine ⟨W', ?_, ((Upd.refl [b] W).set (.inl (by simp)) v).trans h3, h4⟩
    unfold storeCells
    have hv := h1 v (by simp)
    have hst : (store ((⟨b, off, none⟩ : Addr).add i) v).run P W = .ok () (W.setCell ⟨b, off + i, none⟩ v) := by
      rw [Addr.add_lit]
      unfold store
      cases v <;> first | (simp [Value.oneCell'] at hv; done) | (simp [Sem.run, hc, hfz])
    simp only [Sem.run_bind, hst, Result.andThen_ok, h2]
theorem run_store' {t t' : TypeId} {x y : Operand} {b off n : Nat} {v : Value} {cs : Array Value} (h : o.op = .store t x y) (hx : ρ x = .pointer (some ⟨b, off, none⟩)) (hy : ρ y = v) (hz : szP P t = some n) (hn : v.cells.size = n)
    (h1 : ∀ u ∈ v.cells.toList, u.oneCell' = true) (hb : Blk W b t' cs) (hle : off + n ≤ cs.size) : ∃ W', (execOp ρ o).run P W = .ok .skip W' ∧ Upd [b] W W' ∧ Blk W' b t' (putC cs off v.cells.toList) := by
  obtain ⟨W', h2, h3, h4⟩ := run_storeCells (P := P) v.cells.toList off 0 cs W hb (by simp [hn]; exact hle) h1
  refine ⟨W', ?_, h3, by simpa using h4⟩
  unfold execOp; rw [h]
  simp only [hx, hy, Instr.storeAt, Instr.sureAddr, storeVar, Sem.run_bind, Sem.run_pure, Result.andThen_ok, run_size hz, hn, ne_eq, not_true_eq_false, if_false]
  rw [h2]
  rfl
/-- a store into a block known whole -/
theorem dv_store {t t' : TypeId} {x y : Operand} {b off n q q' : Nat} {v : Value} {cs cs' : Array Value} (h : o.op = .store t x y) (hx : ρ x = .pointer (some ⟨b, off, none⟩)) (hy : ρ y = v) (hz : szP P t = some n) (hn : v.cells.size = n)
    (h1 : v.cells.toList.all Value.oneCell' = true) (c : CtxV ops L a0 w0 bor X0 us D i ρ β W X) (hX : X q = eB b t' cs) (hu : (atV us i).contains q = true) (hle : off + n ≤ cs.size) (hcs : putC cs off v.cells.toList = cs') (hd : o.dst = none)
    (hc : atV cr i = [q']) (hk : atV kl i = [q]) (hD : ∀ (σ β' : Tmp → Value) (X' : Nat → Ent), (∀ t, σ t = ρ (.tmp t)) → (∀ t, β' t = β t) → X' q' = eB b t' cs' → D i σ β' X') : DoesU P o ρ W (PostV cr kl D i o.dst ρ β W X) := by
  have hok := c.ok q hu
  rw [hX] at hok
  have hb : Blk W b t' cs := hok.holds
  obtain ⟨W', h2, h3, h4⟩ := run_store' (P := P) h hx hy hz hn (fun u hu => List.all_eq_true.1 h1 u hu) hb hle
  rw [hcs] at h4
  refine DoesU.skip h2 ⟨[eB b t' cs'], by rw [hc]; rfl, ⟨?_, fun e he => ?_, List.pairwise_singleton _ _⟩, fun σ β' X' hs hv hb' hbv hx' hN => hD σ β' X' (fun t => hs t (by rw [hd]; simp)) (fun t => hb' t (by rw [hd]; simp)) ?_⟩
  · rw [hk]
    simp only [List.flatMap_cons, List.flatMap_nil, List.append_nil, hX]
    exact h3
  · rw [List.mem_singleton] at he
    subst he
    refine ⟨h4, eB_loc _ _ _, fun k hk' => ?_⟩
    have hkb : k = b := by simpa [eB] using hk'
    subst hkb
    refine ⟨.inl ?_, h4.lt⟩
    rw [hk]
    simp [hX, eB]
  · rw [hc] at hN
    exact (List.cons.inj hN).1
def zeroP (P : Program) (t : TypeId) : Option (Array Value) := ((P.info? t).bind (·.zero)).map (·.cells)
theorem post_new {d : Tmp} {q t : Nat} {v : Value} {cs : Array Value} (hd : o.dst = some d) (hc : atV cr i = [q]) (hv : v = .pointer (some ⟨W.heap.size, 0, none⟩))
    (hD : ∀ (σ β' : Tmp → Value) (X' : Nat → Ent), (∀ t, t ≠ d → σ t = ρ (.tmp t)) → (∀ t, t ≠ d → β' t = β t) → σ d = .pointer (some ⟨pb (β' d), 0, none⟩) → X' q = eB (pb (β' d)) t cs → D i σ β' X') :
    PostV cr kl D i o.dst ρ β W X v (W.alloc (.cells cs t)) := by
  refine ⟨[eB W.heap.size t cs], by rw [hc]; rfl, ⟨(Upd.refl _ _).alloc _, fun e he => ?_, List.pairwise_singleton _ _⟩, fun σ β' X' hs hv' hb hbv hx hN => hD σ β' X' (fun t ht => hs t (by rw [hd]; simpa using ht.symm)) (fun t ht => hb t (by rw [hd]; simpa using ht.symm)) ?_ ?_⟩
  · rw [List.mem_singleton] at he
    subst he
    refine ⟨Blk.new _ _ _, eB_loc _ _ _, fun k hk => ?_⟩
    have hkb : k = W.heap.size := by simpa [eB] using hk
    subst hkb
    exact ⟨.inr (Nat.le_refl _), by simp⟩
  · rw [hv' d hd, hbv d hd, hv]; rfl
  · rw [hbv d hd, hv]
    rw [hc] at hN
    exact (List.cons.inj hN).1
theorem dv_alloc {t : TypeId} {d : Tmp} {q : Nat} {cs : Array Value} (h : o.op = .alloc t) (hz : zeroP P t = some cs) (hd : o.dst = some d) (hc : atV cr i = [q])
    (hD : ∀ (σ β' : Tmp → Value) (X' : Nat → Ent), (∀ t, t ≠ d → σ t = ρ (.tmp t)) → (∀ t, t ≠ d → β' t = β t) → σ d = .pointer (some ⟨pb (β' d), 0, none⟩) → X' q = eB (pb (β' d)) t cs → D i σ β' X') :
    DoesU P o ρ W (PostV cr kl D i o.dst ρ β W X) := by
  unfold zeroP at hz
  cases hi : P.info? t with
  | none => rw [hi] at hz; cases hz
  | some inf =>
    rw [hi] at hz
    simp only [Option.bind_some] at hz
    cases hzv : inf.zero with
    | none => rw [hzv] at hz; cases hz
    | some z =>
      rw [hzv] at hz
      have hcs : z.cells = cs := Option.some.inj hz
      refine DoesU.value (v := .pointer (some ⟨W.heap.size, 0, none⟩)) (w' := W.alloc (.cells cs t)) ?_ (post_new hd hc rfl hD)
      unfold execOp; rw [h]
      have h0 : (zeroValue t).run P W = .ok z W := by
        unfold zeroValue
        simp only [Sem.run_bind, run_typeInfo _ hi, Result.andThen_ok, hzv, Sem.run_pure]
      simp only [Instr.alloc, Sem.run_bind, h0, Result.andThen_ok, newVar, newRow, newObj, hcs, Sem.run_pure]
      rfl
theorem dv_box {t : TypeId} {x : Operand} {v : Value} {d : Tmp} {q : Nat} {cs : Array Value} (h : o.op = .box t x) (hx : ρ x = v) (hcs : v.cells = cs) (hd : o.dst = some d) (hc : atV cr i = [q])
    (hD : ∀ (σ β' : Tmp → Value) (X' : Nat → Ent), (∀ t, t ≠ d → σ t = ρ (.tmp t)) → (∀ t, t ≠ d → β' t = β t) → σ d = .pointer (some ⟨pb (β' d), 0, none⟩) → X' q = eB (pb (β' d)) t cs → D i σ β' X') :
    DoesU P o ρ W (PostV cr kl D i o.dst ρ β W X) := by
  refine DoesU.value (v := .pointer (some ⟨W.heap.size, 0, none⟩)) (w' := W.alloc (.cells cs t)) ?_ (post_new hd hc rfl hD)
  unfold execOp; rw [h]
  simp only [hx, Instr.box, newVar, newRow, newObj, Sem.run_bind, hcs, Sem.run_pure]
  rfl
/-- the address of a part -/
def fieldP (P : Program) (t : TypeId) (f : Nat) : Option Nat := match P.underlying t with
  | some (.struct fs) => match fs[f]? with
    | some fd => match szP P fd.type with
      | some (n + 1) => some fd.offset
      | _ => none
    | none => none
  | _ => none
theorem run_fieldAddr' {t : TypeId} {x : Operand} {f b off k n : Nat} (h : o.op = .fieldAddr t x f) (hf : fieldP P t f = some k) (hx : ρ x = .pointer (some ⟨b, off, none⟩)) (hn : off + k = n) :
    (execOp ρ o).run P W = .ok (.value (.pointer (some ⟨b, n, none⟩))) W := by
  unfold fieldP at hf
  split at hf
  · rename_i fs hu
    split at hf
    · rename_i fd hfd
      split at hf
      · rename_i m hm
        injection hf with hf
        unfold execOp; rw [h]
        simp only [hx, Instr.fieldAt, Instr.sureAddr, Sem.run_bind, run_underlying hu, Result.andThen_ok, hfd, Sem.run_pure, fieldPlace, run_size hm, Nat.add_one_ne_zero, if_false]
        simp [Addr.add_lit, hf, hn]
      · cases hf
    · cases hf
  · cases hf
/-- a call -/
def callP (P : Program) (f : FuncId) : Bool := match P.funcs[f]? with
  | some fn => fn.body.isSome && !(fn.name == "runtime.NumGoroutine")
  | none => false
theorem run_callF {c : Call} {f : FuncId} {args : Array Value} (h : o.op = .call c) (hs : Sees ρ) (hcal : c.callee = .value (.func f)) (hf : callP P f = true) (ha : c.args.map ρ = args) : (execOp ρ o).run P W = .ok (.enter f args) W := by
  unfold callP at hf
  split at hf
  · rename_i fn hfn
    simp only [Bool.and_eq_true, Bool.not_eq_true'] at hf
    have hb : fn.body.isNone = false := by
      cases hh : fn.body with
      | none => rw [hh] at hf; simp at hf
      | some _ => rfl
    unfold execOp; rw [h]
    simp only [resolve, hcal, hs.func, Deferred.ofValue, ha, Sem.run_bind, Sem.run_pure, Result.andThen_ok, invoke, callFunc, program, Sem.run, hfn, hf.2, hb]
    simp
  · cases hf

/-- behind a call that made new memory at most -/
theorem post_call {v : Value} {W' : World} (N : List Ent) (hk : atV kl i = []) (hl : N.length = (atV cr i).length) (hx : Ext W W') (hok : ∀ e ∈ N, e.holds W' ∧ e.loc ∧ ∀ k ∈ e.fp, W.heap.size ≤ k ∧ k < W'.heap.size) (hap : N.Pairwise Ent.apart)
    (hD : ∀ (σ β' : Tmp → Value) (X' : Nat → Ent), (∀ t, o.dst ≠ some t → σ t = ρ (.tmp t)) → (∀ t, o.dst ≠ some t → β' t = β t) → (∀ d, o.dst = some d → σ d = v ∧ β' d = v) → (atV cr i).map X' = N → D i σ β' X') : PostV cr kl D i o.dst ρ β W X v W' :=
  ⟨N, hl, ⟨Upd.of_ext hx, fun e he => ⟨(hok e he).1, (hok e he).2.1, fun k hk' => ⟨.inr ((hok e he).2.2 k hk').1, ((hok e he).2.2 k hk').2⟩⟩, hap⟩, fun σ β' X' hs hv hb hbv _ hN => hD σ β' X' hs hb (fun d hd => ⟨hv d hd, hbv d hd⟩) hN⟩
theorem eO_new {W' : World} {e sz n : Nat} {v : Value} {xs : List Value} (h : W'.ownsRow W.heap.size e sz v n xs) : (eO e sz v n xs).holds W' ∧ (eO e sz v n xs).loc ∧ ∀ k ∈ (eO e sz v n xs).fp, W.heap.size ≤ k ∧ k < W'.heap.size := by
  refine ⟨⟨h.1, ?_⟩, eO_loc _ _ _ _ _, fun k hk => ?_⟩
  · rcases h.2 with hn | ⟨g, cap, cur, rfl, hbg, hgg, rest⟩
    · exact .inl hn
    · exact .inr ⟨g, cap, cur, rfl, Nat.zero_le _, hgg, rest⟩
  · have h1 : v.ownBlock = some k := by simpa [eO] using hk
    exact h.lt k h1
theorem own0_block {W' : World} {e sz n : Nat} {v : Value} {xs : List Value} (h : W'.ownsRow 0 e sz v n xs) : ∀ k, v.ownBlock = some k → k < W'.heap.size := fun k hk => (h.lt k hk).2
theorem one_new {e : Ent} {W' : World} (h : e.holds W' ∧ e.loc ∧ ∀ k ∈ e.fp, W.heap.size ≤ k ∧ k < W'.heap.size) : ∀ e' ∈ [e], e'.holds W' ∧ e'.loc ∧ ∀ k ∈ e'.fp, W.heap.size ≤ k ∧ k < W'.heap.size := by
  intro e' he
  rw [List.mem_singleton] at he
  subst he; exact h
theorem eown_cap {e base n c : Nat} {A : Option Addr} {xs : List Value} (h : W.ownsRow base e 1 (.slice A n c) n xs) : n ≤ c := by
  rcases h.2 with ⟨hv, _⟩ | ⟨g, cap, cur, hv, _, _, hc, _⟩
  · injection hv with h1 h2 h3; omega
  · injection hv with h1 h2 h3; omega
/-- behind a call that changed one block -/
theorem post_mut {v : Value} {W' : World} {B t q q' : Nat} {cs cs' : Array Value} (hX : X q = eB B t cs) (hc : atV cr i = [q']) (hk : atV kl i = [q]) (hu : Upd [B] W W') (hb : Blk W' B t cs')
    (hD : ∀ (σ β' : Tmp → Value) (X' : Nat → Ent), (∀ t, o.dst ≠ some t → σ t = ρ (.tmp t)) → (∀ t, o.dst ≠ some t → β' t = β t) → (∀ d, o.dst = some d → σ d = v ∧ β' d = v) → X' q' = eB B t cs' → D i σ β' X') : PostV cr kl D i o.dst ρ β W X v W' := by
  refine ⟨[eB B t cs'], by rw [hc]; rfl, ⟨?_, fun e he => ?_, List.pairwise_singleton _ _⟩, fun σ β' X' hs hv hb' hbv hx' hN => hD σ β' X' hs hb' (fun d hd => ⟨hv d hd, hbv d hd⟩) ?_⟩
  · rw [hk]
    simp only [List.flatMap_cons, List.flatMap_nil, List.append_nil, hX]
    exact hu
  · rw [List.mem_singleton] at he
    subst he
    refine ⟨hb, eB_loc _ _ _, fun k hk' => ?_⟩
    have hkb : k = B := by simpa [eB] using hk'
    subst hkb
    refine ⟨.inl ?_, hb.lt⟩
    rw [hk]
    simp [hX, eB]
  · rw [hc] at hN
    exact (List.cons.inj hN).1
/-- append onto a row of the call's own, elements of one cell -/
theorem dv_append {s x : Operand} {t ty : TypeId} {d : Tmp} {q q' : Nat} (ho : o.op = .call { callee := .builtin .append, args := #[s, x], argTypes := #[t, t] }) (hty : ty = t)
    {e : TypeId} {inf : TypeInfo} {z : Value} {bytes : Nat} (ht : P.underlying t = some (.slice e)) (hi : P.info? e = some inf) (hz : inf.zero = some z)
    (hsize : inf.size = 1) (hby : inf.bytes = bytes) (hzs : z.cells.size = 1) {v : Value} {n : Nat} {xs : List Value} (hs : ρ s = v) (c : CtxV ops L a0 w0 bor X0 us D i ρ β W X) (hX : X q = eO e 1 v n xs) (hu : (atV us i).contains q = true)
    {A : Option Addr} {m cp : Nat} {news : List Value} (hx : ρ x = .slice A m cp) (hl : news.length = m) (hA : At W A news) (h1 : ∀ u ∈ news, u.oneCell' = true)
    (h63 : n + m ≤ maxLen) (hbytes : (n + m) * bytes ≤ 140737488355328) (hd : o.dst = some d) (hc : atV cr i = [q']) (hk : atV kl i = [q]) {nm : Nat} {xs' : List Value} (hnm : n + m = nm) (hxs : xs ++ news = xs')
    (hD : ∀ (σ β' : Tmp → Value) (X' : Nat → Ent), (∀ t, t ≠ d → σ t = ρ (.tmp t)) → (∀ t, t ≠ d → β' t = β t) → σ d = .slice (sA (β' d)) nm (sC (β' d)) → X' q' = eO e 1 (.slice (sA (β' d)) nm (sC (β' d))) nm xs' → D i σ β' X') :
    DoesU P o ρ W (PostV cr kl D i o.dst ρ β W X) := by
  have hok := c.ok q hu
  rw [hX] at hok
  have hown : W.ownsRow 0 e 1 v n xs := hok.holds
  refine does_append s x t ho 0 e inf z bytes ht hi hz hsize hby hzs v n xs hs hown A m cp news hx hl hA h1 h63 hbytes (Nat.zero_le _) fun v' W' hown' hg hat => ?_
  subst hnm; subst hxs
  obtain ⟨A', c', rfl, _⟩ := own_form hown'
  have hin : ∀ k, (v.ownBlock = some k) → k ∈ ((atV kl i).flatMap fun q => (X q).fp) := fun k hk' => by
    rw [hk]
    simp only [List.flatMap_cons, List.flatMap_nil, List.append_nil, hX]
    simp [eO, hk']
  refine ⟨[eO e 1 (.slice A' (n + m) c') (n + m) (xs ++ news)], by rw [hc]; rfl, ⟨(Upd.refl _ W).grown hg fun k hk' => .inl (hin k hk'), fun e' he => ?_, List.pairwise_singleton _ _⟩, fun σ β' X' hs' hv hb hbv hx' hN => hD σ β' X' (fun t ht => hs' t (by rw [hd]; simpa using ht.symm)) (fun t ht => hb t (by rw [hd]; simpa using ht.symm)) ?_ ?_⟩
  · rw [List.mem_singleton] at he
    subst he
    refine ⟨hown', eO_loc _ _ _ _ _, fun k hk' => ?_⟩
    have h2 : (Value.slice A' (n + m) c').ownBlock = some k := by simpa [eO] using hk'
    refine ⟨?_, own0_block hown' k h2⟩
    rcases hat with h3 | h3
    · exact .inl (hin k (h3.symm.trans h2))
    · right
      rw [h3] at h2
      injection h2 with h2
      omega
  · rw [hv d hd, hbv d hd]; rfl
  · rw [hbv d hd]
    rw [hc] at hN
    exact (List.cons.inj hN).1
/-- an empty row: 'append([]T{}, ..)', 'append([]T(nil), ..)' -/
theorem eO_nil (e : TypeId) (cp : Nat) : (eO e 1 (.slice none 0 0) 0 []).fp = [] := rfl
theorem eO_lit {t : TypeId} {W : World} : (eO t 1 (.slice (some ⟨W.heap.size, 0, none⟩) 0 0) 0 []).holds (W.alloc (.cells #[] t)) := own_lit0 rfl (Nat.zero_le _)
/-- []T{x, ..}, elements of one cell -/
theorem dv_lit {t e : TypeId} {n : Nat} {parts : Array (Nat × Operand)} {d : Tmp} {q : Nat} {xs : List Value} (h : o.op = .buildSlice t n parts) (hrun : (execOp ρ o).run P W = .ok (.value (.slice (some ⟨W.heap.size, 0, none⟩) n n)) (W.alloc (.cells xs.toArray e)))
    (hn : xs.length = n) (hm : n ≤ maxLen) (hd : o.dst = some d) (hc : atV cr i = [q])
    (hD : ∀ (σ β' : Tmp → Value) (X' : Nat → Ent), (∀ t, t ≠ d → σ t = ρ (.tmp t)) → (∀ t, t ≠ d → β' t = β t) → σ d = .slice (sA (β' d)) n n → X' q = eO e 1 (.slice (sA (β' d)) n n) n xs → D i σ β' X') :
    DoesU P o ρ W (PostV cr kl D i o.dst ρ β W X) := by
  have hb : Blk (W.alloc (.cells xs.toArray e)) W.heap.size e xs.toArray := Blk.new _ _ _
  have ho : (W.alloc (.cells xs.toArray e)).ownsRow W.heap.size e 1 (.slice (some ⟨W.heap.size, 0, none⟩) n n) n xs := own_of_block hb (Nat.le_refl _) hn hm
  refine DoesU.value hrun ⟨[eO e 1 (.slice (some ⟨W.heap.size, 0, none⟩) n n) n xs], by rw [hc]; rfl, ⟨(Upd.refl _ _).alloc _, fun e' he => ?_, List.pairwise_singleton _ _⟩, fun σ β' X' hs' hv hb hbv hx' hN => hD σ β' X' (fun t ht => hs' t (by rw [hd]; simpa using ht.symm)) (fun t ht => hb t (by rw [hd]; simpa using ht.symm)) ?_ ?_⟩
  · rw [List.mem_singleton] at he
    subst he
    obtain ⟨h1, h2, h3⟩ := eO_new ho
    exact ⟨h1, h2, fun k hk => ⟨.inr (h3 k hk).1, (h3 k hk).2⟩⟩
  · rw [hv d hd, hbv d hd]; rfl
  · rw [hbv d hd]
    rw [hc] at hN
    exact (List.cons.inj hN).1
theorem run_nilCheck {x : Operand} {a : Addr} (h : o.op = .nilCheck x) (hx : ρ x = .pointer (some a)) : (execOp ρ o).run P W = .ok (.value (.pointer (some a))) W := by
  unfold execOp; rw [h]; simp only [hx]; rfl
/- integers -/
def intBin : BinOp → IntKind → Int → Int → Option Value
  | .add, k, a, b => some (.int k (k.wrap (a + b)))
  | .sub, k, a, b => some (.int k (k.wrap (a - b)))
  | .mul, k, a, b => some (.int k (k.wrap (a * b)))
  | .eql, _, a, b => some (.bool (a == b))
  | .neq, _, a, b => some (.bool (a != b))
  | .lss, _, a, b => some (.bool (decide (a < b)))
  | .leq, _, a, b => some (.bool (decide (a ≤ b)))
  | .gtr, _, a, b => some (.bool (decide (b < a)))
  | .geq, _, a, b => some (.bool (decide (b ≤ a)))
  | _, _, _, _ => none
theorem run_bin {op : BinOp} {t t' : TypeId} {x y : Operand} {k : IntKind} {a b : Int} {v : Value} (h : o.op = .binOp op t x y t') (hx : ρ x = .int k a) (hy : ρ y = .int k b) (hv : intBin op k a b = some v) : (execOp ρ o).run P W = .ok (.value v) W := by
  unfold execOp; rw [h]
  cases op <;> simp only [intBin, Option.some.injEq, reduceCtorEq] at hv <;> subst hv <;> simp [hx, hy, eqGuard, binOp, Op.intArith, Op.intCmp]
theorem run_not {t : TypeId} {x : Operand} {b b' : Bool} (h : o.op = .unOp .not t x) (hx : ρ x = .bool b) (hb : (!b) = b') : (execOp ρ o).run P W = .ok (.value (.bool b')) W := by
  subst hb
  unfold execOp; rw [h]
  simp [hx, Op.unary]
theorem run_len_s {x : Operand} {t : TypeId} {s : ByteArray} (h : o.op = .call { callee := .builtin .len, args := #[x], argTypes := #[t] }) (ht : P.underlying t = some .string) (hx : ρ x = .string s) : (execOp ρ o).run P W = .ok (.value (.int .i64 s.size)) W := by
  unfold execOp; rw [h]
  simp [hx, resolve, invoke, builtin, Builtin.len_, run_underlying ht, goInt]
theorem run_len_l {x : Operand} {t e : TypeId} {A : Option Addr} {n c : Nat} (h : o.op = .call { callee := .builtin .len, args := #[x], argTypes := #[t] }) (ht : P.underlying t = some (.slice e)) (hx : ρ x = .slice A n c) : (execOp ρ o).run P W = .ok (.value (.int .i64 n)) W := by
  unfold execOp; rw [h]
  simp [hx, resolve, invoke, builtin, Builtin.len_, run_underlying ht, goInt]
/-- parts of a string -/
theorem run_slice_lo {t : TypeId} {x y : Operand} {s : ByteArray} {k : IntKind} {j : Int} {l : Nat} (h : o.op = .slice t x (some y) none none) (ht : P.underlying t = some .string) (hx : ρ x = .string s) (hy : ρ y = .int k j) (hj : j = (l : Int)) (hl : l ≤ s.size) :
    (execOp ρ o).run P W = .ok (.value (.string (s.extract l s.size))) W := by
  subst hj
  unfold execOp; rw [h]
  have h1 : (0 : Int) ≤ (l : Int) ∧ (l : Int) ≤ ((s.size : Nat) : Int) := ⟨by omega, by omega⟩
  simp only [hx, hy, Option.map_some, Option.map_none, Instr.sliceAt, Instr.slice, Sem.run_bind, run_underlying ht, Result.andThen_ok, Instr.sliceBounds, Instr.sliceBound, asIntOf, Sem.run_pure, h1, and_self, if_true]
  simp [h1, Instr.slice, Instr.sliceBounds, Instr.sliceBound, asIntOf, run_underlying ht, hl]
theorem run_slice_hi {t : TypeId} {x y : Operand} {s : ByteArray} {k : IntKind} {j : Int} {l : Nat} (h : o.op = .slice t x none (some y) none) (ht : P.underlying t = some .string) (hx : ρ x = .string s) (hy : ρ y = .int k j) (hj : j = (l : Int)) (hl : l ≤ s.size) :
    (execOp ρ o).run P W = .ok (.value (.string (s.extract 0 l))) W := by
  subst hj
  unfold execOp; rw [h]
  have h1 : (0 : Int) ≤ (l : Int) ∧ (l : Int) ≤ ((s.size : Nat) : Int) := ⟨by omega, by omega⟩
  simp only [hx, hy, Option.map_some, Option.map_none, Instr.sliceAt, Instr.slice, Sem.run_bind, run_underlying ht, Result.andThen_ok, Instr.sliceBounds, Instr.sliceBound, asIntOf, Sem.run_pure, h1, and_self, if_true]
  simp [h1, Instr.slice, Instr.sliceBounds, Instr.sliceBound, asIntOf, run_underlying ht, hl]
theorem run_slice_lh {t : TypeId} {x y y' : Operand} {s : ByteArray} {k k' : IntKind} {j j' : Int} {l m : Nat} (h : o.op = .slice t x (some y) (some y') none) (ht : P.underlying t = some .string) (hx : ρ x = .string s) (hy : ρ y = .int k j) (hy' : ρ y' = .int k' j') (hj : j = (l : Int)) (hj' : j' = (m : Int)) (hl : l ≤ m) (hm : m ≤ s.size) :
    (execOp ρ o).run P W = .ok (.value (.string (s.extract l m))) W := by
  subst hj; subst hj'
  unfold execOp; rw [h]
  have h1 : (0 : Int) ≤ (m : Int) ∧ (m : Int) ≤ ((s.size : Nat) : Int) := ⟨by omega, by omega⟩
  have h2 : (0 : Int) ≤ (l : Int) ∧ (l : Int) ≤ ((m : Nat) : Int) := ⟨by omega, by omega⟩
  simp only [hx, hy, hy', Option.map_some, Option.map_none, Instr.sliceAt, Instr.slice, Sem.run_bind, run_underlying ht, Result.andThen_ok, Instr.sliceBounds, Instr.sliceBound, asIntOf, Sem.run_pure, h1, h2, and_self, if_true]
  simp [h1, h2, Instr.slice, Instr.sliceBounds, Instr.sliceBound, asIntOf, run_underlying ht, hl, hm]
theorem run_convI {t t' : TypeId} {x : Operand} {k k' : IntKind} {n z : Int} (h : o.op = .convert t t' x) (ht : (P.underlying t).isSome = true) (ht' : P.underlying t' = some (.int k')) (hx : ρ x = .int k n) (hz : k'.wrap n = z) : (execOp ρ o).run P W = .ok (.value (.int k' z)) W := by
  subst hz
  obtain ⟨d, hd⟩ := Option.isSome_iff_exists.1 ht
  unfold execOp; rw [h]
  simp [hx, convert, run_underlying hd, run_underlying ht', Conv.intToInt]
/-- the address of a slice -/
def ad (A : Option Addr) : Addr := A.getD ⟨0, 0, none⟩
theorem At.cellAd {A : Option Addr} {xs : List Value} (h : At W A xs) {j : Nat} {u : Value} (hj : xs[j]? = some u) : W.cell? ((ad A).add j) = some u := by
  obtain ⟨a, rfl, _, hc⟩ := h j u hj
  exact hc
theorem run_indexSl {x y : Operand} {t e : TypeId} {A : Option Addr} {n c m : Nat} {k : IntKind} {j : Int} {xs : List Value} (h : o.op = .indexAddr t x y) (ht : P.underlying t = some (.slice e)) (hz : szP P e = some 1) (hx : ρ x = .slice A n c) (hy : ρ y = .int k j)
    (hj : j = (m : Int)) (hm : m < n) (hA : At W A xs) (hl : xs.length = n) : (execOp ρ o).run P W = .ok (.value (.pointer (some ((ad A).add m)))) W := by
  subst hj
  obtain ⟨a, rfl, _, _⟩ := hA.get (k := m) (by omega)
  unfold execOp; rw [h]
  have h1 : (0 : Int) ≤ (m : Int) ∧ (m : Int) < (n : Int) := ⟨by omega, by omega⟩
  simp only [hx, hy, Instr.indexAt, asIntOf, Sem.run_bind, Sem.run_pure, Result.andThen_ok, run_underlying ht, h1, and_self, if_true, run_size hz]
  simp [ad]
theorem run_streq {t t' : TypeId} {x y : Operand} {a b : ByteArray} (h : o.op = .binOp .eql t x y t') (hx : ρ x = .string a) (hy : ρ y = .string b) : (execOp ρ o).run P W = .ok (.value (.bool (a.toList == b.toList))) W := by
  unfold execOp; rw [h]
  simp [hx, hy, eqGuard, binOp, Op.stringOp]
theorem run_strne {t t' : TypeId} {x y : Operand} {a b : ByteArray} (h : o.op = .binOp .neq t x y t') (hx : ρ x = .string a) (hy : ρ y = .string b) : (execOp ρ o).run P W = .ok (.value (.bool (!(a.toList == b.toList)))) W := by
  unfold execOp; rw [h]
  simp [hx, hy, eqGuard, binOp, Op.stringOp]
theorem run_strcat {t t' : TypeId} {x y : Operand} {a b : ByteArray} (h : o.op = .binOp .add t x y t') (hx : ρ x = .string a) (hy : ρ y = .string b) (hs : a.size + b.size ≤ 9223372036854775807) : (execOp ρ o).run P W = .ok (.value (.string (a ++ b))) W := by
  unfold execOp; rw [h]
  have h2 : ¬ ((a.size + b.size : Nat) : Int) > IntKind.i64.max := by
    have : IntKind.i64.max = 9223372036854775807 := by decide
    rw [this]; omega
  simp only [hx, hy, eqGuard, binOp, Op.stringOp, if_neg h2]
  simp
/-- a call that makes new memory at most and answers a value free of unknown parts -/
theorem sv_call (ho : ops[i]? = some o) (hg : o.guard = none) {d : Tmp} (hd : o.dst = some d) (hc : atV cr i = []) (hk : atV kl i = []) {V : Value} (hD : ∀ σ β X, σ d = V → D i σ β X)
    (h : ∀ ρ β W X, CtxV ops L a0 w0 bor X0 us D i ρ β W X → ∃ f args, (execOp ρ o).run P W = .ok (.enter f args) W ∧ Calls P f args W fun e W' => e = .returned V ∧ Ext W W') : StepV P ops L a0 w0 bor X0 us cr kl D i :=
  sv_any ho hg fun ρ β W X cx => let ⟨_, _, h1, h2⟩ := h ρ β W X cx
    DoesU.call h1 (h2.mono fun _ _ ⟨he, hx⟩ => ⟨V, he, post_call [] hk (by rw [hc]; rfl) hx (by simp) List.Pairwise.nil (fun σ β' X' _ _ hv _ => hD σ β' X' (hv d hd).1)⟩)
theorem sv_call_on (ho : ops[i]? = some o) {g dg : Nat} {b : Bool} (hg : o.guard = some (g, b)) (hdg : dstAt ops g = some dg) {d : Tmp} (hd : o.dst = some d) (hc : atV cr i = []) (hk : atV kl i = []) {V : Value} (hD : ∀ σ β X, σ d = V → D i σ β X)
    (hgv : ∀ ρ β W X, CtxV ops L a0 w0 bor X0 us D i ρ β W X → ρ (.tmp dg) = .bool b)
    (h : ∀ ρ β W X, CtxV ops L a0 w0 bor X0 us D i ρ β W X → ∃ f args, (execOp ρ o).run P W = .ok (.enter f args) W ∧ Calls P f args W fun e W' => e = .returned V ∧ Ext W W') : StepV P ops L a0 w0 bor X0 us cr kl D i :=
  sv_any_on ho hg hdg hgv fun ρ β W X cx => let ⟨_, _, h1, h2⟩ := h ρ β W X cx
    DoesU.call h1 (h2.mono fun _ _ ⟨he, hx⟩ => ⟨V, he, post_call [] hk (by rw [hc]; rfl) hx (by simp) List.Pairwise.nil (fun σ β' X' _ _ hv _ => hD σ β' X' (hv d hd).1)⟩)
theorem lq {i n : Nat} (h : Nat.ble (i + 1) n = true := by rfl) : i < n := Nat.le_of_ble_eq_true h
end

/- control -/
theorem then_normal {next : Act → World → Prop} {Q : Exit → Act → World → Prop} {a : Act} {w : World} (h : next a w) : Exit.then next Q .normal a w := h
theorem then_exit {next : Act → World → Prop} {Q : Exit → Act → World → Prop} {a : Act} {w : World} {id : Nat} (h : Q (.exit id) a w) : Exit.then next Q (.exit id) a w := h
theorem then_ret {next : Act → World → Prop} {Q : Exit → Act → World → Prop} {a : Act} {w : World} (h : Q .ret a w) : Exit.then next Q .ret a w := h
theorem blk_normal {id : Nat} {Q : Exit → Act → World → Prop} {a : Act} {w : World} (h : Q .normal a w) : Exit.inBlock id Q .normal a w := h
theorem blk_ret {id : Nat} {Q : Exit → Act → World → Prop} {a : Act} {w : World} (h : Q .ret a w) : Exit.inBlock id Q .ret a w := h
theorem blk_eq {id : Nat} {Q : Exit → Act → World → Prop} {a : Act} {w : World} (h : Q .normal a w) : Exit.inBlock id Q (.exit id) a w := by simp only [Exit.inBlock, if_true]; exact h
theorem blk_ne {id id' : Nat} {Q : Exit → Act → World → Prop} {a : Act} {w : World} (hne : id' ≠ id) (h : Q (.exit id') a w) : Exit.inBlock id Q (.exit id') a w := by simp only [Exit.inBlock, if_neg hne]; exact h
theorem wp_loopN {P : Program} {Q : Exit → Act → World → Prop} {a : Act} {w : World} {c : Code} (I : Nat → Act → World → Prop) (n0 : Nat) (h₀ : I n0 a w)
    (round : ∀ n a w, I n a w → c.wp P (Exit.then (fun a' w' => ∃ m, m < n ∧ I m a' w') Q) a w) : (Code.loop c).wp P Q a w := by
  intro b k cs
  have key : ∀ n a w, I n a w → ∃ e a' w', Q e a' w' ∧ Arrives P (lone (b.at a (.code c :: .inLoop c :: k)) cs w) b k cs e a' w' := by
    intro n
    induction n using Nat.strongRecOn with
    | _ n ih =>
      intro a w hI
      obtain ⟨e, a₁, w₁, hq, harr⟩ := round n a w hI b (.inLoop c :: k) cs
      cases e with
      | normal =>
        obtain ⟨m, hlt, hI₁⟩ := hq
        obtain ⟨e₂, a₂, w₂, hq₂, harr₂⟩ := ih m hlt a₁ w₁ hI₁
        exact ⟨e₂, a₂, w₂, hq₂, .of_steps (Steps.trans harr (.one step_inLoop)) harr₂⟩
      | exit id => exact ⟨_, a₁, w₁, hq, .pass (x := .inLoop c) rfl (fun _ _ => .inl (by simp)) harr⟩
      | goto l => exact ⟨_, a₁, w₁, hq, .pass (x := .inLoop c) rfl (fun _ _ => .inl (by simp)) harr⟩
      | ret => exact ⟨_, a₁, w₁, hq, .pass (x := .inLoop c) rfl (fun _ _ => .inl (by simp)) harr⟩
      | panic ch => exact ⟨_, a₁, w₁, hq, .pass (x := .inLoop c) rfl (fun _ _ => .inl (by simp)) harr⟩
      | outgrown => exact ⟨_, a₁, w₁, hq, .pass (x := .inLoop c) rfl (fun _ _ => .inl (by simp)) harr⟩
  obtain ⟨e, a', w', hq, harr⟩ := key n0 a w h₀
  exact ⟨e, a', w', hq, .of_steps (.one step_loop) harr⟩
/- short forms, for printed texts -/
theorem ed {σ : Tmp → Value} (d : Tmp) {v : Value} (h : σ d = v) : σ d = v := h
theorem exq {X : Nat → Ent} (q : Nat) {e : Ent} (h : X q = e) : X q = e := h
theorem zM : (∀ {α β : Type} {f : α → β} {a : α} {l : List α}, (a :: l).map f = f a :: l.map f) ∧ (∀ {α β : Type} {f : α → β}, ([] : List α).map f = []) := ⟨rfl, rfl⟩
theorem zP : (∀ {α β : Type} {f : α → β} {a : α} {l : List α}, (a :: l).map f = f a :: l.map f) ∧ (∀ {α β : Type} {f : α → β}, ([] : List α).map f = []) ∧ (∀ {d : Tmp} {v : Value} {ds : List Tmp} {vs : List Value} {t : Array Value}, putAll (d :: ds) (v :: vs) t = putAll ds vs (t.setIfInBounds d v)) ∧ (∀ {t : Array Value}, putAll [] [] t = t) ∧
    (∀ {l : List Value} {i : Nat} {v : Value}, l.toArray.setIfInBounds i v = (l.set i v).toArray) ∧ (∀ {x : Value} {l : List Value} {i : Nat} {v : Value}, (x :: l).set (i + 1) v = x :: l.set i v) ∧ (∀ {x : Value} {l : List Value} {v : Value}, (x :: l).set 0 v = v :: l) :=
  ⟨rfl, rfl, rfl, rfl, by simp, rfl, rfl⟩
section
variable {P : Program} {ops : Array Oper} {L : List Nat} {a0 : Act} {w0 : World} {bor : List Nat} {X0 : List Ent} {us cr kl : List (List Nat)}
  {D : Nat → (Tmp → Value) → (Tmp → Value) → (Nat → Ent) → Prop} {i : Nat} {o : Oper}
theorem s0 (ho : ops[i]? = some o) {d : Tmp} {V : Value} (h : ∀ {ρ : Operand → Value} {β : Tmp → Value} {W : World} {X : Nat → Ent}, CtxV ops L a0 w0 bor X0 us D i ρ β W X → (execOp ρ o).run P W = .ok (.value V) W)
    (hg : o.guard = none := by rfl) (hd : o.dst = some d := by rfl) (hc : atV cr i = [] := by rfl) (hk : atV kl i = [] := by rfl) (hD : ∀ σ β X, σ d = V → D i σ β X := by exact fun _ _ _ h => h) : StepV P ops L a0 w0 bor X0 us cr kl D i :=
  sv0 ho hg hd hc hk hD fun _ _ _ _ cx => h cx
theorem s4 (ho : ops[i]? = some o) {d : Tmp} {V : Value} (hD : ∀ σ β X, σ d = V → D i σ β X) (h : ∀ {ρ : Operand → Value} {β : Tmp → Value} {W : World} {X : Nat → Ent}, CtxV ops L a0 w0 bor X0 us D i ρ β W X → (execOp ρ o).run P W = .ok (.value V) W)
    (hg : o.guard = none := by rfl) (hd : o.dst = some d := by rfl) (hc : atV cr i = [] := by rfl) (hk : atV kl i = [] := by rfl) : StepV P ops L a0 w0 bor X0 us cr kl D i :=
  sv0 ho hg hd hc hk hD fun _ _ _ _ cx => h cx
theorem s5 (ho : ops[i]? = some o) {g dg : Nat} {b : Bool} {d : Tmp} {V : Value} (hD : ∀ σ β X, σ d = V → D i σ β X) (hgv : ∀ {ρ : Operand → Value} {β : Tmp → Value} {W : World} {X : Nat → Ent}, CtxV ops L a0 w0 bor X0 us D i ρ β W X → ρ (.tmp dg) = .bool b)
    (h : ∀ {ρ : Operand → Value} {β : Tmp → Value} {W : World} {X : Nat → Ent}, CtxV ops L a0 w0 bor X0 us D i ρ β W X → (execOp ρ o).run P W = .ok (.value V) W)
    (hg : o.guard = some (g, b) := by rfl) (hdg : dstAt ops g = some dg := by rfl) (hd : o.dst = some d := by rfl) (hc : atV cr i = [] := by rfl) (hk : atV kl i = [] := by rfl) : StepV P ops L a0 w0 bor X0 us cr kl D i :=
  sv0_on ho hg hdg hd hc hk hD (fun _ _ _ _ cx => hgv cx) fun _ _ _ _ cx => h cx
theorem s1 (ho : ops[i]? = some o) {g dg : Nat} {b : Bool} {d : Tmp} {V : Value} (hgv : ∀ {ρ : Operand → Value} {β : Tmp → Value} {W : World} {X : Nat → Ent}, CtxV ops L a0 w0 bor X0 us D i ρ β W X → ρ (.tmp dg) = .bool b)
    (h : ∀ {ρ : Operand → Value} {β : Tmp → Value} {W : World} {X : Nat → Ent}, CtxV ops L a0 w0 bor X0 us D i ρ β W X → (execOp ρ o).run P W = .ok (.value V) W)
    (hg : o.guard = some (g, b) := by rfl) (hdg : dstAt ops g = some dg := by rfl) (hd : o.dst = some d := by rfl) (hc : atV cr i = [] := by rfl) (hk : atV kl i = [] := by rfl) (hD : ∀ σ β X, σ d = V → D i σ β X := by exact fun _ _ _ h => h) : StepV P ops L a0 w0 bor X0 us cr kl D i :=
  sv0_on ho hg hdg hd hc hk hD (fun _ _ _ _ cx => hgv cx) fun _ _ _ _ cx => h cx
theorem s2 (ho : ops[i]? = some o) {g dg : Nat} {b b' : Bool} (hgv : ∀ {ρ : Operand → Value} {β : Tmp → Value} {W : World} {X : Nat → Ent}, CtxV ops L a0 w0 bor X0 us D i ρ β W X → ρ (.tmp dg) = .bool b')
    (hg : o.guard = some (g, b) := by rfl) (hdg : dstAt ops g = some dg := by rfl) (hne : b' ≠ b := by decide) (hc : atV cr i = [] := by rfl) (hk : atV kl i = [] := by rfl) (hD : ∀ σ β X, (∀ d, o.dst = some d → σ d = undef) → D i σ β X := by first | exact fun _ _ _ h => h _ rfl | exact fun _ _ _ _ => trivial) : StepV P ops L a0 w0 bor X0 us cr kl D i :=
  sv_off ho hg hdg hne hc hk hD fun _ _ _ _ cx => hgv cx
theorem s3 (ho : ops[i]? = some o) {g dg : Nat} {b : Bool} (hgv : ∀ {ρ : Operand → Value} {β : Tmp → Value} {W : World} {X : Nat → Ent}, CtxV ops L a0 w0 bor X0 us D i ρ β W X → ρ (.tmp dg) = undef)
    (hg : o.guard = some (g, b) := by rfl) (hdg : dstAt ops g = some dg := by rfl) (hc : atV cr i = [] := by rfl) (hk : atV kl i = [] := by rfl) (hD : ∀ σ β X, (∀ d, o.dst = some d → σ d = undef) → D i σ β X := by first | exact fun _ _ _ h => h _ rfl | exact fun _ _ _ _ => trivial) : StepV P ops L a0 w0 bor X0 us cr kl D i :=
  sv_un ho hg hdg hc hk hD fun _ _ _ _ cx => hgv cx
theorem mo {k : Tmp} {d : Tmp} (ho : ops[i]? = some o) (h : o.op = .move (.tmp k) := by rfl) (hg : o.guard = none := by rfl) (hd : o.dst = some d := by rfl) (hc : atV cr i = [] := by rfl) (hk : atV kl i = [] := by rfl) (hu : outU ops L i k = true := by rfl)
    (hD : ∀ σ β X, σ d = a0.tmps.getD k undef → D i σ β X := by exact fun _ _ _ h => h) : StepV P ops L a0 w0 bor X0 us cr kl D i :=
  sv0 ho hg hd hc hk hD fun _ _ _ _ cx => run_move' h (cx.out k hu)
end
theorem wp_region_X {P : Program} {ops : Array Oper} {Q : Exit → Act → World → Prop} {w0 : World} {bor : List Nat} {X0 : List Ent} {id : Nat} {dr : Bool} {w : World} {t0 : Array Value} {d0 : List Deferred} (L : List Nat) (us cr kl : List (List Nat)) (D : Nat → (Tmp → Value) → (Tmp → Value) → (Nat → Ent) → Prop) (fin : List Nat) (ds : List Tmp)
    (hst : St w0 bor X0 w) (hloc : LocalV ops X0.length L cr D) (hstep : AllTo (StepV P ops L ⟨t0, d0⟩ w0 bor X0 us cr kl D) ops.size)
    (hrest : ∀ (σ β : Tmp → Value) (X : Nat → Ent) (w' : World), (∀ i, i < ops.size → D i σ β X) → (∀ q e, X0[q]? = some e → X q = e) → St w0 bor (fin.map X) w' → ∀ fr, fr = putAll ds (ds.map σ) t0 → Q .normal ⟨fr, d0⟩ w')
    (hm : P.follows .mixedOrders = true := by kernel_rfl) (hL : okAnc ops L = true := by kernel_rfl) (hd : dstOk ops t0.size = true := by kernel_rfl) (hflow : flowV ops.size X0.length L us cr kl = true := by kernel_rfl) (hfin : finV ops.size X0.length cr kl fin = true := by kernel_rfl) (hds : dstsU ops = ds := by kernel_rfl) :
    (Code.region id ops dr).wp P Q ⟨t0, d0⟩ w := by
  subst hds
  exact wp_region_W hm L us cr kl D fin hL hd hflow hfin hloc hst hstep hrest
end Go.Proofs.YtfjpglohcppjeaaDoor

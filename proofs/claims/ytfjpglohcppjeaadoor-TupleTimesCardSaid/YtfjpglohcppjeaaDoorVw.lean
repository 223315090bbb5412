/- Rows of bytes made out of a string: '[]byte(s)'; loads, stores, copy of a string into them, strings of them. -/
import Derived.Test.YtfjpglohcppjeaaDoorVq
import Derived.Laws.IdiomStrings
namespace Go.Proofs.YtfjpglohcppjeaaDoor
open Go.RowKit
set_option linter.unusedVariables false
set_option linter.unusedSimpArgs false

/-- block g is a row whose first cells are the bytes L; no cell of it is frozen -/
def BRow (W : World) (g : Nat) (t : TypeId) (L : List Int) : Prop := ∃ (cur : Array Value) (m : Nat), W.heap[g]? = some (.cells cur t (m, m + 1)) ∧ cur.size = m ∧ L.length ≤ m ∧ ∀ j, j < L.length → cur[j]? = some (.int .u8 (L.getD j 0))
theorem BRow.cell {W : World} {g : Nat} {t : TypeId} {L : List Int} (h : BRow W g t L) {j : Nat} (hj : j < L.length) : W.cell? ⟨g, j, none⟩ = some (.int .u8 (L.getD j 0)) := by
  obtain ⟨cur, m, hh, hm, hl, hc⟩ := h
  rw [cell_of_row W g j cur t _ hh]
  exact hc j hj
theorem BRow.frozen {W : World} {g : Nat} {t : TypeId} {L : List Int} (h : BRow W g t L) {j : Nat} (hj : j < L.length) : W.frozen? ⟨g, j, none⟩ = false := by
  obtain ⟨cur, m, hh, hm, hl, hc⟩ := h
  simp only [World.frozen?, hh]
  have : ¬ m ≤ j := by omega
  simp [this]
theorem BRow.set {W : World} {g : Nat} {t : TypeId} {L : List Int} (h : BRow W g t L) {j : Nat} (hj : j < L.length) (z : Int) : BRow (W.setCell ⟨g, j, none⟩ (.int .u8 z)) g t (L.set j z) := by
  obtain ⟨cur, m, hh, hm, hl, hc⟩ := h
  refine ⟨cur.setIfInBounds j (.int .u8 z), m, by simp [World.setCell, Array.getElem?_modify, hh], by simpa using hm, by simpa using hl, fun i hi => ?_⟩
  rw [List.length_set] at hi
  rw [Array.getElem?_setIfInBounds]
  by_cases e : j = i
  · subst e
    rw [if_pos rfl, if_pos (by omega)]
    simp [hj]
  · rw [if_neg e, hc i hi]
    simp [e]
def eW (g : Nat) (t : TypeId) (L : List Int) : Ent := ⟨[g], fun W => BRow W g t L⟩
theorem eW_loc (g : Nat) (t : TypeId) (L : List Int) : (eW g t L).loc := fun W W' h ⟨cur, m, hh, r⟩ => ⟨cur, m, (h g (by simp [eW])).trans hh, r⟩
def xorI (k : IntKind) (a b : Int) : Int := k.wrap ((BitVec.ofInt k.bits a ^^^ BitVec.ofInt k.bits b).toNat : Int)
def bI (s : ByteArray) : List Int := s.data.toList.map fun b => (b.toNat : Int)
theorem bI_len (s : ByteArray) : (bI s).length = s.size := by rw [bI, List.length_map, Array.length_toList]; rfl
theorem strOfNums_bI (s : ByteArray) : strOfNums (bI s) = s := by
  have : (bI s).map (fun n => UInt8.ofNat n.toNat) = s.data.toList := by
    simp only [bI, List.map_map]
    conv => rhs; rw [← List.map_id s.data.toList]
    apply List.map_congr_left
    intro b _
    simp
  rw [strOfNums, this]
def copL (L M : List Int) : List Int := M ++ L.drop M.length
theorem copL_len {L M : List Int} (h : M.length ≤ L.length) : (copL L M).length = L.length := by simp [copL]; omega
theorem BRow.store {g : Nat} {t : TypeId} {P : Program} : ∀ (M : List Int) (k : Nat) (L : List Int) (W : World), BRow W g t L → k + M.length ≤ L.length →
    ∃ W', (storeCells ⟨g, 0, none⟩ (M.map (Value.int .u8)) k).run P W = .ok () W' ∧ BRow W' g t (L.take k ++ M ++ L.drop (k + M.length)) ∧ Upd [g] W W'
  | [], k, L, W, h, hk => ⟨W, by simp [storeCells], by simpa using h, Upd.refl _ _⟩
  | z :: M, k, L, W, h, hk => by
    simp only [List.length_cons] at hk
    have h1 := h.set (j := k) (by omega) z
    obtain ⟨W', hr, hb, hu⟩ := BRow.store M (k + 1) (L.set k z) _ h1 (by rw [List.length_set]; omega)
    refine ⟨W', ?_, ?_, ?_⟩
    · have hs1 : (Go.store ((⟨g, 0, none⟩ : Addr).add k) (.int .u8 z)).run P W = .ok () (W.setCell ⟨g, k, none⟩ (.int .u8 z)) := by
        rw [Addr.add_lit, Nat.zero_add]
        have c1 := h.cell (j := k) (by omega)
        have f1 := h.frozen (j := k) (by omega)
        unfold Go.store
        simp [Sem.run, c1, f1]
      rw [List.map_cons]
      unfold storeCells
      simp only [Sem.run_bind, hs1, Result.andThen_ok]
      exact hr
    · have e : (L.set k z).take (k + 1) ++ M ++ (L.set k z).drop (k + 1 + M.length) = L.take k ++ z :: M ++ L.drop (k + (z :: M).length) := by
        rw [List.drop_set_of_lt (by omega), List.take_add_one, List.take_set_of_le (Nat.le_refl _)]
        have : (L.set k z)[k]? = some z := List.getElem?_set_self (by omega)
        rw [this]
        simp only [Option.toList_some, List.length_cons, List.append_assoc, List.cons_append, List.nil_append]
        rw [show k + 1 + M.length = k + (M.length + 1) by omega]
      rw [e] at hb
      exact hb
    · exact (Upd.refl [g] W).set (.inl (by simp)) _ |>.trans hu
def sK : Value → Nat
  | .slice _ n c => c - n
  | _ => 0
theorem arr_str {l : List ByteArray} {m : Nat} (h : m < l.length) : ((l.map Value.string).toArray)[m]? = some (.string (l.getD m ByteArray.empty)) := by simp [h]
section
variable {P : Program} {ops : Array Oper} {L : List Nat} {a0 : Act} {w0 : World} {bor : List Nat} {X0 : List Ent} {us cr kl : List (List Nat)}
  {D : Nat → (Tmp → Value) → (Tmp → Value) → (Nat → Ent) → Prop} {i : Nat} {o : Oper} {ρ : Operand → Value} {β : Tmp → Value} {W : World} {X : Nat → Ent}

theorem CtxV.brow {q g t : Nat} {M : List Int} (cx : CtxV ops L a0 w0 bor X0 us D i ρ β W X) (hX : X q = eW g t M) (hu : (atV us i).contains q = true) : BRow W g t M := by
  have h := (cx.ok q hu).holds
  rw [hX] at h; exact h
theorem run_xor {t t' : TypeId} {x y : Operand} {k : IntKind} {a b : Int} (h : o.op = .binOp .xor t x y t') (hx : ρ x = .int k a) (hy : ρ y = .int k b) : (execOp ρ o).run P W = .ok (.value (.int k (xorI k a b))) W := by
  unfold execOp; rw [h]
  simp [hx, hy, eqGuard, binOp, Op.intBits, xorI]
/-- a store into an element of an array that is known as a list -/
theorem dv_storeAr {t t' : TypeId} {x y : Operand} {b m q q' : Nat} {v : Value} {xs xs' : List Value} (h : o.op = .store t x y) (hx : ρ x = .pointer (some ⟨b, m, none⟩)) (hy : ρ y = v) (hz : szP P t = some 1) (hn : v.cells = #[v]) (h1 : v.oneCell' = true)
    (cx : CtxV ops L a0 w0 bor X0 us D i ρ β W X) (hX : X q = eB b t' xs.toArray) (hu : (atV us i).contains q = true) (hm : m < xs.length) (hd : o.dst = none) (hxs : xs.set m v = xs') (hc : atV cr i = [q']) (hk : atV kl i = [q])
    (hD : ∀ (σ β' : Tmp → Value) (X' : Nat → Ent), (∀ t, σ t = ρ (.tmp t)) → (∀ t, β' t = β t) → X' q' = eB b t' xs'.toArray → D i σ β' X') : DoesU P o ρ W (PostV cr kl D i o.dst ρ β W X) := by
  subst hxs
  have hb := cx.blk hX hu
  have hcell : W.cell? ⟨b, m, none⟩ = some xs[m] := by rw [hb.cell]; simp [hm]
  have hfz := hb.frozen m
  have hst := hb.set_ m v
  have e0 : xs.toArray.setIfInBounds m v = (xs.set m v).toArray := by simp
  rw [e0] at hst
  have hrun : (execOp ρ o).run P W = .ok .skip (W.setCell ⟨b, m, none⟩ v) := by
    unfold execOp; rw [h]
    have hsz : v.cells.size = 1 := by rw [hn]; rfl
    simp only [hx, hy, Instr.storeAt, Instr.sureAddr, storeVar, Sem.run_bind, Sem.run_pure, Result.andThen_ok, run_size hz, hsz, ne_eq, not_true_eq_false, if_false]
    have e1 : (storeCells ⟨b, m, none⟩ v.cells.toList 0).run P W = .ok () (W.setCell ⟨b, m, none⟩ v) := by
      rw [hn]
      have hs1 : (Go.store ((⟨b, m, none⟩ : Addr).add 0) v).run P W = .ok () (W.setCell ⟨b, m, none⟩ v) := by
        rw [Addr.add_lit]
        unfold Go.store
        cases v <;> first | (simp [Value.oneCell'] at h1; done) | (simp [Sem.run, hcell, hfz])
      show (storeCells ⟨b, m, none⟩ [v] 0).run P W = _
      unfold storeCells
      simp only [Sem.run_bind, hs1, Result.andThen_ok]
      rfl
    rw [e1]
    rfl
  refine DoesU.skip hrun ⟨[eB b t' (xs.set m v).toArray], by rw [hc]; rfl, ⟨?_, fun e' he => ?_, List.pairwise_singleton _ _⟩, fun σ β' X' hs hv hb' hbv hx' hN => hD σ β' X' (fun t => hs t (by rw [hd]; simp)) (fun t => hb' t (by rw [hd]; simp)) ?_⟩
  · rw [hk]
    simp only [List.flatMap_cons, List.flatMap_nil, List.append_nil, hX]
    exact (Upd.refl _ W).set (.inl (by simp [eB])) v
  · rw [List.mem_singleton] at he
    subst he
    refine ⟨hst, eB_loc _ _ _, fun k hk' => ?_⟩
    have hkb : k = b := by simpa [eB] using hk'
    subst hkb
    refine ⟨.inl ?_, hst.lt⟩
    rw [hk]
    simp [hX, eB]
  · rw [hc] at hN
    exact (List.cons.inj hN).1
/-- '[]byte(s)' -/
theorem dv_convS {t t' e : TypeId} {x : Operand} {s : ByteArray} {d : Tmp} {q : Nat} (h : o.op = .convert t t' x) (ht : P.underlying t = some .string) (ht' : P.underlying t' = some (.slice e)) (he : P.underlying e = some (.int .u8)) (hx : ρ x = .string s) (hd : o.dst = some d) (hc : atV cr i = [q])
    (hD : ∀ (σ β' : Tmp → Value) (X' : Nat → Ent), (∀ t, t ≠ d → σ t = ρ (.tmp t)) → (∀ t, t ≠ d → β' t = β t) → σ d = .slice (some ⟨pb' (β' d), 0, none⟩) s.size (s.size + sK (β' d)) → X' q = eW (pb' (β' d)) e (bI s) → D i σ β' X') :
    DoesU P o ρ W (PostV cr kl D i o.dst ρ β W X) := by
  have hrun := run_bytes_of_string (P := P) W t t' e s ht ht' he
  refine DoesU.value (v := .slice (some ⟨W.heap.size, 0, none⟩) s.size (grownCap W s.size 0 e)) (w' := W.drew.alloc (.cells (bytesRow s (grownCap W s.size 0 e)) e ((bytesRow s (grownCap W s.size 0 e)).size, (bytesRow s (grownCap W s.size 0 e)).size + 1))) (by unfold execOp; rw [h]; simp only [hx, Sem.run_bind, hrun, Result.andThen_ok, Sem.run_pure]) ?_
  refine ⟨[eW W.heap.size e (bI s)], by rw [hc]; rfl, ⟨((Upd.refl _ W).drew).alloc _, fun e' he' => ?_, List.pairwise_singleton _ _⟩, fun σ β' X' hs hv' hb hbv hx' hN => hD σ β' X' (fun t ht => hs t (by rw [hd]; simpa using ht.symm)) (fun t ht => hb t (by rw [hd]; simpa using ht.symm)) ?_ ?_⟩
  · rw [List.mem_singleton] at he'
    subst he'
    refine ⟨⟨bytesRow s (grownCap W s.size 0 e), _, heap_alloc_new W.drew _, rfl, ?_, fun j hj => ?_⟩, eW_loc _ _ _, fun k hk => ?_⟩
    · rw [bI_len, bytesRow, Array.size_append, Array.size_map]
      exact Nat.le_add_right _ _
    · rw [bI_len] at hj
      rw [bytesRow_at s _ j hj]
      have : j < s.data.toList.length := by simpa using hj
      rw [bI, List.getD_eq_getElem?_getD, List.getElem?_eq_getElem (by simpa using hj), Option.getD_some, List.getElem_map, Array.getElem_toList]
    · have hkb : k = W.heap.size := by simpa [eW] using hk
      subst hkb
      exact ⟨.inr (Nat.le_refl _), by rw [World.size_alloc]; exact Nat.lt_succ_self _⟩
  · rw [hv' d hd, hbv d hd]
    have hg : s.size ≤ grownCap W s.size 0 e := grownCap_ge W s.size 0 e
    show Value.slice _ _ _ = Value.slice _ _ _
    congr 1
    show grownCap W s.size 0 e = s.size + (grownCap W s.size 0 e - s.size)
    omega
  · rw [hbv d hd]
    rw [hc] at hN
    exact (List.cons.inj hN).1
/-- b[l:] -/
theorem run_sliceW_lo {t e : TypeId} {x y : Operand} {g n c l : Nat} {k : IntKind} {j : Int} (h : o.op = .slice t x (some y) none none) (ht : P.underlying t = some (.slice e)) (hz : szP P e = some 1)
    (hx : ρ x = .slice (some ⟨g, 0, none⟩) n c) (hy : ρ y = .int k j) (hj : j = (l : Int)) (hl : l < n) (hc : n ≤ c) : (execOp ρ o).run P W = .ok (.value (.slice (some ⟨g, l, none⟩) (n - l) (c - l))) W := by
  rw [run_sliceL_lo h ht hz hx hy hj (by omega), if_neg (by omega)]
  simp [Addr.add_lit]
/-- the address of an element -/
theorem run_indexW {x y : Operand} {t e : TypeId} {g n c m : Nat} {k : IntKind} {j : Int} (h : o.op = .indexAddr t x y) (ht : P.underlying t = some (.slice e)) (hz : szP P e = some 1) (hx : ρ x = .slice (some ⟨g, 0, none⟩) n c) (hy : ρ y = .int k j) (hj : j = (m : Int)) (hm : m < n) :
    (execOp ρ o).run P W = .ok (.value (.pointer (some ⟨g, m, none⟩))) W := by
  subst hj
  unfold execOp; rw [h]
  have h1 : (0 : Int) ≤ (m : Int) ∧ (m : Int) < (n : Int) := ⟨by omega, by omega⟩
  simp only [hx, hy, Instr.indexAt, asIntOf, Sem.run_bind, Sem.run_pure, Result.andThen_ok, run_underlying ht, h1, and_self, if_true, run_size hz]
  simp [Addr.add_lit]
/-- a store into an element -/
theorem dv_storeW {t e : TypeId} {x y : Operand} {g m q q' : Nat} {z : Int} {M M' : List Int} (h : o.op = .store t x y) (hx : ρ x = .pointer (some ⟨g, m, none⟩)) (hy : ρ y = .int .u8 z) (hz : szP P t = some 1)
    (cx : CtxV ops L a0 w0 bor X0 us D i ρ β W X) (hX : X q = eW g e M) (hu : (atV us i).contains q = true) (hm : m < M.length) (hd : o.dst = none) (hM : M.set m z = M')
    (hc : atV cr i = [q']) (hk : atV kl i = [q]) (hD : ∀ (σ β' : Tmp → Value) (X' : Nat → Ent), (∀ t, σ t = ρ (.tmp t)) → (∀ t, β' t = β t) → X' q' = eW g e M' → D i σ β' X') : DoesU P o ρ W (PostV cr kl D i o.dst ρ β W X) := by
  subst hM
  have hb := cx.brow hX hu
  have hrun : (execOp ρ o).run P W = .ok .skip (W.setCell ⟨g, m, none⟩ (.int .u8 z)) := by
    unfold execOp; rw [h]
    have hsz : (Value.int .u8 z).cells.size = 1 := rfl
    simp only [hx, hy, Instr.storeAt, Instr.sureAddr, storeVar, Sem.run_bind, Sem.run_pure, Result.andThen_ok, run_size hz, hsz, ne_eq, not_true_eq_false, if_false]
    have e1 : (storeCells ⟨g, m, none⟩ (Value.int .u8 z).cells.toList 0).run P W = .ok () (W.setCell ⟨g, m, none⟩ (.int .u8 z)) := by
      have hs1 : (store ((⟨g, m, none⟩ : Addr).add 0) (.int .u8 z)).run P W = .ok () (W.setCell ⟨g, m, none⟩ (.int .u8 z)) := by
        rw [Addr.add_lit]
        unfold store
        simp [Sem.run, hb.cell hm, hb.frozen hm]
      show (storeCells ⟨g, m, none⟩ [.int .u8 z] 0).run P W = _
      unfold storeCells
      simp only [Sem.run_bind, hs1, Result.andThen_ok]
      rfl
    rw [e1]
    rfl
  refine DoesU.skip hrun ⟨[eW g e (M.set m z)], by rw [hc]; rfl, ⟨?_, fun e' he => ?_, List.pairwise_singleton _ _⟩, fun σ β' X' hs hv hb' hbv hx' hN => hD σ β' X' (fun t => hs t (by rw [hd]; simp)) (fun t => hb' t (by rw [hd]; simp)) ?_⟩
  · rw [hk]
    simp only [List.flatMap_cons, List.flatMap_nil, List.append_nil, hX]
    exact (Upd.refl _ W).set (.inl (by simp [eW])) _
  · rw [List.mem_singleton] at he
    subst he
    refine ⟨hb.set hm z, eW_loc _ _ _, fun k hk' => ?_⟩
    have hkb : k = g := by simpa [eW] using hk'
    subst hkb
    refine ⟨.inl ?_, ?_⟩
    · rw [hk]; simp [hX, eW]
    · obtain ⟨cur, mm, hh, _⟩ := hb.set hm z
      exact (Array.getElem?_eq_some_iff.1 hh).1
  · rw [hc] at hN
    exact (List.cons.inj hN).1
/-- copy(b, s) of a string that fits -/
theorem dv_copyW {t e u : TypeId} {x y : Operand} {g n c q q' : Nat} {s : ByteArray} {M M' : List Int} (h : o.op = .call { callee := .builtin .copy, args := #[x, y], argTypes := #[t, u] }) (ht : P.underlying t = some (.slice e)) (hz : szP P e = some 1)
    (hx : ρ x = .slice (some ⟨g, 0, none⟩) n c) (hy : ρ y = .string s)
    (cx : CtxV ops L a0 w0 bor X0 us D i ρ β W X) (hX : X q = eW g e M) (hu : (atV us i).contains q = true) (hn : M.length = n) (hs : s.size ≤ n) (hM : copL M (bI s) = M')
    (hc : atV cr i = [q']) (hk : atV kl i = [q]) (hD : ∀ (σ β' : Tmp → Value) (X' : Nat → Ent), (∀ t, o.dst ≠ some t → σ t = ρ (.tmp t)) → (∀ t, o.dst ≠ some t → β' t = β t) → (∀ d, o.dst = some d → σ d = .int .i64 s.size) → X' q' = eW g e M' → D i σ β' X') : DoesU P o ρ W (PostV cr kl D i o.dst ρ β W X) := by
  subst hM
  have hb := cx.brow hX hu
  obtain ⟨W', hr, hb', hup⟩ := BRow.store (P := P) (bI s) 0 M W hb (by rw [bI_len]; omega)
  rw [List.take_zero, List.nil_append, Nat.zero_add] at hb'
  have hlen : M.length ≤ M.length := Nat.le_refl _
  have hmin : Nat.min s.size n = s.size := Nat.min_eq_left hs
  have hrun : (execOp ρ o).run P W = .ok (.value (.int .i64 s.size)) W' := by
    unfold execOp; rw [h]
    cases hq : P.info? e with
    | none => simp [szP, hq] at hz
    | some inf =>
      have htk : List.take s.size (List.map (fun b : UInt8 => Value.int IntKind.u8 (b.toNat : Int)) s.data.toList) = (bI s).map (Value.int .u8) := by
        rw [List.take_of_length_le (by rw [List.length_map, Array.length_toList]; exact Nat.le_refl _), bI, List.map_map]
        rfl
      simp [hx, hy, resolve, invoke, builtin, Builtin.copy_, run_underlying ht, Builtin.lenOf, Builtin.firstCells, sizeOf, typeInfo, hq, hmin]
      rw [htk, hr]
      simp [Result.andThen, goInt]
  refine DoesU.value hrun ⟨[eW g e (copL M (bI s))], by rw [hc]; rfl, ⟨?_, fun e' he => ?_, List.pairwise_singleton _ _⟩, fun σ β' X' hs' hv hb' hbv hx' hN => hD σ β' X' hs' hb' (fun d hd => hv d hd) ?_⟩
  · rw [hk]
    simp only [List.flatMap_cons, List.flatMap_nil, List.append_nil, hX]
    exact hup
  · rw [List.mem_singleton] at he
    subst he
    refine ⟨hb', eW_loc _ _ _, fun k hk' => ?_⟩
    have hkb : k = g := by simpa [eW] using hk'
    subst hkb
    refine ⟨.inl ?_, ?_⟩
    · rw [hk]; simp [hX, eW]
    · obtain ⟨cur, mm, hh, _⟩ := hb'
      exact (Array.getElem?_eq_some_iff.1 hh).1
  · rw [hc] at hN
    exact (List.cons.inj hN).1
/-- string(b[l:]), string(b) -/
theorem run_convW {t t' e e' : TypeId} {x : Operand} {g l n c : Nat} {M : List Int} (h : o.op = .convert t t' x) (ht : P.underlying t = some (.slice e)) (he : P.underlying e = some (.int .u8)) (ht' : P.underlying t' = some .string)
    (hx : ρ x = .slice (some ⟨g, l, none⟩) n c) (hb : BRow W g e' M) (hn : l + n = M.length) : (execOp ρ o).run P W = .ok (.value (.string (strOfNums (M.drop l)))) W := by
  have hr := run_convert_bytes_arg (P := P) (w := W) t e ht he g l n c (M.drop l) (by rw [List.length_drop]; omega) (fun i hi => by
    rw [hb.cell (by omega)]
    simp [List.getElem?_drop]) t' ht'
  unfold execOp; rw [h]
  simp only [hx, Sem.run_bind, hr, Result.andThen_ok, Sem.run_pure]
end
/-- the ways through x meet in R -/
theorem wp_cut {P : Program} {x y : Code} {Q : Exit → Act → World → Prop} {a : Act} {w : World} (R : Act → World → Prop) (hx : x.wp P (Exit.then R Q) a w) (hy : ∀ a' w', R a' w' → y.wp P Q a' w') : (Code.seq x y).wp P Q a w :=
  wp_seq (wp_mono hx fun e a' w' h => by cases e <;> first | exact hy _ _ h | exact h)
end Go.Proofs.YtfjpglohcppjeaaDoor

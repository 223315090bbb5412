/- More laws: min, rows of several cells an element, stores into a row. -/
import Derived.Test.YtfjpglohcppjeaaDoorVp
import Derived.Laws.OwnMore
namespace Go.Proofs.YtfjpglohcppjeaaDoor
open Go.RowKit
set_option linter.unusedVariables false

/-- the block of a slice -/
def pb' : Value → Nat
  | .slice (some a) _ _ => a.block
  | _ => 0
theorem At.of_ownN {w : World} {base : Nat} {e : TypeId} {A : Option Addr} {sz n m c : Nat} {xs : List Value} (h : w.ownsRow base e sz (.slice A n c) m xs) : At w A xs := by
  intro j u hj
  rcases h.2 with ⟨hv, hm⟩ | ⟨g, cap, cur, hv, hb, hh, _⟩
  · have := h.1; subst hm
    have hx : xs = [] := List.eq_nil_of_length_eq_zero (by simpa using this)
    subst hx; simp at hj
  · have hA : A = some ⟨g, 0, none⟩ := by injection hv
    subst hA
    exact ⟨_, rfl, (Array.getElem?_eq_some_iff.1 hh).1, h.cells (g := g) rfl j u hj⟩
theorem At.take_mapI {w : World} {A : Option Addr} {f : Int → Value} {ls : List Int} (h : At w A (ls.map f)) (m : Nat) : At w A ((ls.take m).map f) := by
  rw [List.map_take]; exact h.take m
theorem own_formN {w : World} {base : Nat} {e : TypeId} {v : Value} {sz n : Nat} {xs : List Value} (h : w.ownsRow base e sz v n xs) : ∃ A c, v = .slice A n c := by
  rcases h.2 with ⟨rfl, rfl⟩ | ⟨g, cap, cur, rfl, _⟩
  · exact ⟨_, _, rfl⟩
  · exact ⟨_, _, rfl⟩
theorem eown_capN {w : World} {e base n c sz : Nat} {A : Option Addr} {xs : List Value} (h : w.ownsRow base e sz (.slice A n c) n xs) : n ≤ c := by
  rcases h.2 with ⟨hv, _⟩ | ⟨g, cap, cur, hv, _, _, hc, _⟩
  · injection hv with h1 h2 h3; omega
  · injection hv with h1 h2 h3; omega

section
variable {P : Program} {ops : Array Oper} {L : List Nat} {a0 : Act} {w0 : World} {bor : List Nat} {X0 : List Ent} {us cr kl : List (List Nat)}
  {D : Nat → (Tmp → Value) → (Tmp → Value) → (Nat → Ent) → Prop} {i : Nat} {o : Oper} {ρ : Operand → Value} {β : Tmp → Value} {W : World} {X : Nat → Ent}

theorem run_min2 {x y : Operand} {ts : Array TypeId} {k k' : IntKind} {a b z : Int} (h : o.op = .call { callee := .builtin .min, args := #[x, y], argTypes := ts }) (hx : ρ x = .int k a) (hy : ρ y = .int k' b) (hz : min a b = z) : (execOp ρ o).run P W = .ok (.value (.int k z)) W := by
  subst hz
  unfold execOp; rw [h]
  simp only [resolve, invoke, builtin, List.map_toArray, List.map_cons, List.map_nil, hx, hy, Sem.run_bind, Sem.run_pure, Result.andThen_ok]
  have e : (Builtin.min_ ts o.type #[.int k a, .int k' b]).run P W = .ok (.int k (min a b)) W := by
    unfold Builtin.min_
    show (List.foldlM Builtin.min2 (.int k a) [.int k' b]).run P W = _
    simp only [List.foldlM_cons, List.foldlM_nil, Builtin.min2]
    have h2 : (if b < a then b else a) = min a b := by omega
    rw [h2]
    rfl
  rw [e]
  rfl
/-- a store into an element of a row, elements of one cell -/
theorem dv_storeRow {t e : TypeId} {x y : Operand} {A : Option Addr} {n c m q q' : Nat} {v : Value} {xs : List Value} (h : o.op = .store t x y) (hx : ρ x = .pointer (some ((ad A).add m))) (hy : ρ y = v) (hz : szP P t = some 1) (hn : v.cells = #[v])
    (h1 : v.oneCell' = true) (cx : CtxV ops L a0 w0 bor X0 us D i ρ β W X) (hX : X q = eO e 1 (.slice A n c) n xs) (hu : (atV us i).contains q = true) (hm : m < n) (hd : o.dst = none) {xs' : List Value} (hxs : xs.set m v = xs')
    (hc : atV cr i = [q']) (hk : atV kl i = [q]) (hD : ∀ (σ β' : Tmp → Value) (X' : Nat → Ent), (∀ t, σ t = ρ (.tmp t)) → (∀ t, β' t = β t) → X' q' = eO e 1 (.slice A n c) n xs' → D i σ β' X') : DoesU P o ρ W (PostV cr kl D i o.dst ρ β W X) := by
  subst hxs
  have hok := cx.ok q hu
  rw [hX] at hok
  have hown : W.ownsRow 0 e 1 (.slice A n c) n xs := hok.holds
  obtain ⟨g, rfl⟩ : ∃ g, A = some ⟨g, 0, none⟩ := by
    rcases hown.2 with ⟨hv, hm0⟩ | ⟨g, cap, cur, hv, _⟩
    · omega
    · injection hv with h1 h2 h3; exact ⟨g, h1⟩
  have hlen : xs.length = n := by have := hown.1; omega
  have hcell : W.cell? ⟨g, m, none⟩ = some (xs[m]'(by omega)) := by
    rw [hown.cellAt m (by omega)]
    exact List.getElem?_eq_getElem (by omega)
  have hfz := hown.frozenAt m
  have hst := (hown.stored m v).1
  have hadd : (ad (some ⟨g, 0, none⟩)).add m = ⟨g, m, none⟩ := by rw [ad, Option.getD_some, Addr.add_lit, Nat.zero_add]
  have hrun : (execOp ρ o).run P W = .ok .skip (W.setCell ⟨g, m, none⟩ v) := by
    unfold execOp; rw [h]
    have hsz : v.cells.size = 1 := by rw [hn]; rfl
    simp only [hx, hy, hadd, Instr.storeAt, Instr.sureAddr, storeVar, Sem.run_bind, Sem.run_pure, Result.andThen_ok, run_size hz, hsz, ne_eq, not_true_eq_false, if_false]
    have e1 : (storeCells ⟨g, m, none⟩ v.cells.toList 0).run P W = .ok () (W.setCell ⟨g, m, none⟩ v) := by
      rw [hn]
      have hs1 : (store ((⟨g, m, none⟩ : Addr).add 0) v).run P W = .ok () (W.setCell ⟨g, m, none⟩ v) := by
        rw [Addr.add_lit]
        unfold store
        cases v <;> first | (simp [Value.oneCell'] at h1; done) | (simp [Sem.run, hcell, hfz])
      show (storeCells ⟨g, m, none⟩ [v] 0).run P W = _
      unfold storeCells
      simp only [Sem.run_bind, hs1, Result.andThen_ok]
      rfl
    rw [e1]
    rfl
  refine DoesU.skip hrun ⟨[eO e 1 (.slice (some ⟨g, 0, none⟩) n c) n (xs.set m v)], by rw [hc]; rfl, ⟨?_, fun e' he => ?_, List.pairwise_singleton _ _⟩, fun σ β' X' hs hv hb' hbv hx' hN => hD σ β' X' (fun t => hs t (by rw [hd]; simp)) (fun t => hb' t (by rw [hd]; simp)) ?_⟩
  · rw [hk]
    simp only [List.flatMap_cons, List.flatMap_nil, List.append_nil, hX]
    exact (Upd.refl _ W).set (.inl (by simp [eO, Value.ownBlock])) v
  · rw [List.mem_singleton] at he
    subst he
    refine ⟨hst, eO_loc _ _ _ _ _, fun k hk' => ?_⟩
    have hkb : k = g := by simpa [eO, Value.ownBlock] using hk'
    subst hkb
    refine ⟨.inl ?_, own0_block hst k rfl⟩
    rw [hk]
    simp [hX, eO, Value.ownBlock]
  · rw [hc] at hN
    exact (List.cons.inj hN).1
/-- append onto a row of the call's own, elements of several cells -/
theorem dv_appendN {s x : Operand} {t ty : TypeId} {d : Tmp} {q q' sz : Nat} (ho : o.op = .call { callee := .builtin .append, args := #[s, x], argTypes := #[t, t] }) (hty : ty = t)
    {e : TypeId} {inf : TypeInfo} {z : Value} {bytes : Nat} (ht : P.underlying t = some (.slice e)) (hi : P.info? e = some inf) (hz : inf.zero = some z)
    (hsize : inf.size = sz) (hby : inf.bytes = bytes) (hzs : z.cells.size = sz) (hsz : 0 < sz) {v : Value} {n : Nat} {xs : List Value} (hs : ρ s = v) (cx : CtxV ops L a0 w0 bor X0 us D i ρ β W X) (hX : X q = eO e sz v n xs) (hu : (atV us i).contains q = true)
    {a : Addr} {m cp : Nat} {news : List Value} (hx : ρ x = .slice (some a) m cp) (hl : news.length = m * sz) (hA : At W (some a) news) (h1 : ∀ u ∈ news, u.oneCell' = true)
    (h63 : n + m ≤ maxLen) (hbytes : (n + m) * bytes ≤ 140737488355328) (hd : o.dst = some d) (hc : atV cr i = [q']) (hk : atV kl i = [q]) {nm : Nat} {xs' : List Value} (hnm : n + m = nm) (hxs : xs ++ news = xs')
    (hD : ∀ (σ β' : Tmp → Value) (X' : Nat → Ent), (∀ t, t ≠ d → σ t = ρ (.tmp t)) → (∀ t, t ≠ d → β' t = β t) → σ d = .slice (sA (β' d)) nm (sC (β' d)) → X' q' = eO e sz (.slice (sA (β' d)) nm (sC (β' d))) nm xs' → D i σ β' X') :
    DoesU P o ρ W (PostV cr kl D i o.dst ρ β W X) := by
  have hok := cx.ok q hu
  rw [hX] at hok
  have hown : W.ownsRow 0 e sz v n xs := hok.holds
  obtain ⟨v', W', hrun, hown', hg, _, hat⟩ := run_append_own_at (P := P) W 0 t o.type e inf z sz bytes ht hi hz hsize hby hzs hsz v n xs hown a m cp news hl hA.at_ h1 h63 hbytes (Nat.zero_le _)
  have hr : (execOp ρ o).run P W = .ok (.value v') W' := by
    unfold execOp
    simp only [ho, resolve, invoke, builtin, Sem.run_bind, Sem.run_pure, Result.andThen_ok, List.map_toArray, List.map_cons, List.map_nil, hs, hx, hrun]
  subst hnm; subst hxs
  obtain ⟨A', c', rfl⟩ := own_formN hown'
  have hin : ∀ k, (v.ownBlock = some k) → k ∈ ((atV kl i).flatMap fun q => (X q).fp) := fun k hk' => by
    rw [hk]
    simp only [List.flatMap_cons, List.flatMap_nil, List.append_nil, hX]
    simp [eO, hk']
  refine DoesU.value hr ⟨[eO e sz (.slice A' (n + m) c') (n + m) (xs ++ news)], by rw [hc]; rfl, ⟨(Upd.refl _ W).grown hg fun k hk' => .inl (hin k hk'), fun e' he => ?_, List.pairwise_singleton _ _⟩, fun σ β' X' hs' hv hb hbv hx' hN => hD σ β' X' (fun t ht => hs' t (by rw [hd]; simpa using ht.symm)) (fun t ht => hb t (by rw [hd]; simpa using ht.symm)) ?_ ?_⟩
  · rw [List.mem_singleton] at he
    subst he
    refine ⟨hown', eO_loc _ _ _ _ _, fun k hk' => ?_⟩
    have h2 : (Value.slice A' (n + m) c').ownBlock = some k := by simpa [eO] using hk'
    refine ⟨?_, own0_block hown' k h2⟩
    rcases hat with h3 | h3
    · exact .inl (hin k (h3.symm.trans h2))
    · right
      rw [h3] at h2
      injection h2 with h2
      omega
  · rw [hv d hd, hbv d hd]; rfl
  · rw [hbv d hd]
    rw [hc] at hN
    exact (List.cons.inj hN).1
/-- []T{..}, elements of several cells -/
theorem dv_litN {t e : TypeId} {n sz : Nat} {parts : Array (Nat × Operand)} {d : Tmp} {q : Nat} {xs : List Value} (h : o.op = .buildSlice t n parts) (hrun : (execOp ρ o).run P W = .ok (.value (.slice (some ⟨W.heap.size, 0, none⟩) n n)) (W.alloc (.cells xs.toArray e)))
    (hn : xs.length = n * sz) (hm : n ≤ maxLen) (hd : o.dst = some d) (hc : atV cr i = [q])
    (hD : ∀ (σ β' : Tmp → Value) (X' : Nat → Ent), (∀ t, t ≠ d → σ t = ρ (.tmp t)) → (∀ t, t ≠ d → β' t = β t) → σ d = .slice (some ⟨pb' (β' d), 0, none⟩) n n → X' q = eO e sz (.slice (some ⟨pb' (β' d), 0, none⟩) n n) n xs → D i σ β' X') :
    DoesU P o ρ W (PostV cr kl D i o.dst ρ β W X) := by
  have ho : (W.alloc (.cells xs.toArray e)).ownsRow W.heap.size e sz (.slice (some ⟨W.heap.size, 0, none⟩) n n) n xs := by
    have := World.ownsRow_lit (base := W.heap.size) (e := e) (size := sz) W xs.toArray n (Nat.le_refl _) hm (by simpa using hn)
    simpa using this
  refine DoesU.value hrun ⟨[eO e sz (.slice (some ⟨W.heap.size, 0, none⟩) n n) n xs], by rw [hc]; rfl, ⟨(Upd.refl _ _).alloc _, fun e' he => ?_, List.pairwise_singleton _ _⟩, fun σ β' X' hs' hv hb hbv hx' hN => hD σ β' X' (fun t ht => hs' t (by rw [hd]; simpa using ht.symm)) (fun t ht => hb t (by rw [hd]; simpa using ht.symm)) ?_ ?_⟩
  · rw [List.mem_singleton] at he
    subst he
    obtain ⟨h1, h2, h3⟩ := eO_new ho
    exact ⟨h1, h2, fun k hk => ⟨.inr (h3 k hk).1, (h3 k hk).2⟩⟩
  · rw [hv d hd, hbv d hd]; rfl
  · rw [hbv d hd]
    rw [hc] at hN
    exact (List.cons.inj hN).1
/-- make([]T, n), elements of one cell -/
theorem dv_make {t e : TypeId} {x y : Operand} {k k' : IntKind} {n : Nat} {j j' : Int} {d : Tmp} {q : Nat} {inf : TypeInfo} {z : Value} {bytes : Nat} (h : o.op = .makeSlice t x y) (ht : P.underlying t = some (.slice e)) (hi : P.info? e = some inf) (hz : inf.zero = some z) (hsize : inf.size = 1) (hby : inf.bytes = bytes) (hzs : z.cells = #[z])
    (hx : ρ x = .int k j) (hy : ρ y = .int k' j') (hj : j = (n : Int)) (hj' : j' = (n : Int)) (hn : n ≤ 16777216) (hb : bytes * n ≤ 281474976710656) (hd : o.dst = some d) (hc : atV cr i = [q])
    (hD : ∀ (σ β' : Tmp → Value) (X' : Nat → Ent), (∀ t, t ≠ d → σ t = ρ (.tmp t)) → (∀ t, t ≠ d → β' t = β t) → σ d = .slice (sA (β' d)) n n → X' q = eO e 1 (.slice (sA (β' d)) n n) n (List.replicate n z) → D i σ β' X') :
    DoesU P o ρ W (PostV cr kl D i o.dst ρ β W X) := by
  subst hj; subst hj'; subst hby
  obtain ⟨W', hrun, ho, hg⟩ := run_makeSlice_full (P := P) W W.heap.size t e inf z 1 ht hi hz hsize k k' n (by omega) hb (by simp only [maxLen]; omega) (Nat.le_refl _)
  rw [hzs, toList_madeCells_one, Nat.mul_one] at ho
  have hr : (execOp ρ o).run P W = .ok (.value (.slice (some ⟨W.heap.size, 0, none⟩) n n)) W' := by
    unfold execOp; rw [h]
    simp only [hx, hy, Sem.run_bind, hrun, Result.andThen_ok, Sem.run_pure]
  refine DoesU.value hr ⟨[eO e 1 (.slice (some ⟨W.heap.size, 0, none⟩) n n) n (List.replicate n z)], by rw [hc]; rfl, ⟨(Upd.refl _ W).grown hg (fun k hk => by cases hk), fun e' he => ?_, List.pairwise_singleton _ _⟩, fun σ β' X' hs' hv hb hbv hx' hN => hD σ β' X' (fun t ht => hs' t (by rw [hd]; simpa using ht.symm)) (fun t ht => hb t (by rw [hd]; simpa using ht.symm)) ?_ ?_⟩
  · rw [List.mem_singleton] at he
    subst he
    obtain ⟨h1, h2, h3⟩ := eO_new ho
    exact ⟨h1, h2, fun k hk => ⟨.inr (h3 k hk).1, (h3 k hk).2⟩⟩
  · rw [hv d hd, hbv d hd]; rfl
  · rw [hbv d hd]
    rw [hc] at hN
    exact (List.cons.inj hN).1
/-- string([]byte) of a row of the call's own, the bytes as numbers -/
theorem run_convB {t t' e e' base : TypeId} {x : Operand} {A : Option Addr} {n c : Nat} {bs : List Int} (h : o.op = .convert t t' x) (ht : P.underlying t = some (.slice e)) (he : P.underlying e = some (.int .u8)) (ht' : P.underlying t' = some .string)
    (hx : ρ x = .slice A n c) (hA : W.ownsRow base e' 1 (.slice A n c) n (bs.map (Value.int .u8))) : (execOp ρ o).run P W = .ok (.value (.string (strOfNums bs))) W := by
  have hn : bs.length = n := by have := hA.1; simpa using this
  have hr : (convert t t' (.slice A n c)).run P W = .ok (.string (strOfNums bs)) W := by
    rcases hA.2 with ⟨hv, h0⟩ | ⟨g, cap, cur, hv, _⟩
    · injection hv with h1 h2 h3
      subst h1
      have hb : bs = [] := List.eq_nil_of_length_eq_zero (by omega)
      subst hb
      exact run_convert_bytes_nil W t e ht he n c t' ht'
    · injection hv with h1 h2 h3
      subst h1
      refine run_convert_bytes_arg W t e ht he g 0 n c bs hn (fun i hi => ?_) t' ht'
      rw [Nat.zero_add, hA.cellAt i (by omega)]
      exact getD_u8 (by omega)
  unfold execOp; rw [h]
  simp only [hx, Sem.run_bind, hr, Result.andThen_ok, Sem.run_pure]
/-- behind a call that made the entries N -/
theorem post_st {v : Value} {W' : World} (N : List Ent) (hk : atV kl i = []) (hl : N.length = (atV cr i).length) (h : St W [] N W')
    (hD : ∀ (σ β' : Tmp → Value) (X' : Nat → Ent), (∀ t, o.dst ≠ some t → σ t = ρ (.tmp t)) → (∀ t, o.dst ≠ some t → β' t = β t) → (∀ d, o.dst = some d → σ d = v ∧ β' d = v) → (atV cr i).map X' = N → D i σ β' X') : PostV cr kl D i o.dst ρ β W X v W' :=
  post_call N hk hl h.ext (fun e he => ⟨(h.ok e he).holds, (h.ok e he).loc, fun k hk' => ⟨((h.ok e he).own k hk').1.resolve_left (by simp), ((h.ok e he).own k hk').2⟩⟩) h.apart hD
/-- x[:m] of a slice -/
theorem run_sliceL_hi {t e : TypeId} {x y : Operand} {sz : Nat} {A : Option Addr} {n c m : Nat} {k : IntKind} {j : Int} (h : o.op = .slice t x none (some y) none) (ht : P.underlying t = some (.slice e)) (hz : szP P e = some sz)
    (hx : ρ x = .slice A n c) (hy : ρ y = .int k j) (hj : j = (m : Int)) (hm : m ≤ c) : (execOp ρ o).run P W = .ok (.value (.slice A m c)) W := by
  subst hj
  unfold execOp; rw [h]
  have h1 : (0 : Int) ≤ (m : Int) ∧ (m : Int) ≤ ((c : Nat) : Int) := ⟨by omega, by omega⟩
  have h2 : (if c = 0 then A else A.map (·.add (0 * sz))) = A := by
    split
    · rfl
    · rw [Nat.zero_mul]
      cases A with
      | none => rfl
      | some a => simp [Addr.add]
  simp only [hx, hy, Option.map_some, Option.map_none, Instr.sliceAt, Instr.slice, Sem.run_bind, run_underlying ht, Result.andThen_ok, Instr.sliceBounds, Instr.sliceBound, asIntOf, Sem.run_pure, h1, and_self, if_true, run_size hz]
  simp
  intro _
  cases A with
  | none => rfl
  | some a => simp [Addr.add]
/-- x[l:] of a slice -/
theorem run_sliceL_lo {t e : TypeId} {x y : Operand} {sz : Nat} {A : Option Addr} {n c l : Nat} {k : IntKind} {j : Int} (h : o.op = .slice t x (some y) none none) (ht : P.underlying t = some (.slice e)) (hz : szP P e = some sz)
    (hx : ρ x = .slice A n c) (hy : ρ y = .int k j) (hj : j = (l : Int)) (hl : l ≤ n) : (execOp ρ o).run P W = .ok (.value (.slice (if c = l then A else A.map (·.add (l * sz))) (n - l) (c - l))) W := by
  subst hj
  unfold execOp; rw [h]
  have h1 : (0 : Int) ≤ (l : Int) ∧ (l : Int) ≤ ((n : Nat) : Int) := ⟨by omega, by omega⟩
  simp only [hx, hy, Option.map_some, Option.map_none, Instr.sliceAt, Instr.slice, Sem.run_bind, run_underlying ht, Result.andThen_ok, Instr.sliceBounds, Instr.sliceBound, asIntOf, Sem.run_pure, h1, and_self, if_true, run_size hz]
  simp
end
end Go.Proofs.YtfjpglohcppjeaaDoor

/- More laws: min, rows of several cells an element, stores into a row. -/
import Derived.Test.YtfjpglohcppjeaaDoorVo
import Derived.Laws.OwnMore
namespace Go.Proofs.YtfjpglohcppjeaaDoor
open Go.RowKit
set_option linter.unusedVariables false
set_option linter.unusedSimpArgs false

section
variable {P : Program} {ops : Array Oper} {L : List Nat} {a0 : Act} {w0 : World} {bor : List Nat} {X0 : List Ent} {us cr kl : List (List Nat)}
  {D : Nat → (Tmp → Value) → (Tmp → Value) → (Nat → Ent) → Prop} {i : Nat} {o : Oper} {ρ : Operand → Value} {β : Tmp → Value} {W : World} {X : Nat → Ent}

theorem run_rem {t t' : TypeId} {x y : Operand} {k : IntKind} {a b z : Int} (h : o.op = .binOp .rem t x y t') (hx : ρ x = .int k a) (hy : ρ y = .int k b) (hb : b ≠ 0) (hz : a.tmod b = z) : (execOp ρ o).run P W = .ok (.value (.int k z)) W := by
  subst hz
  unfold execOp; rw [h]
  simp [hx, hy, eqGuard, binOp, Op.intDiv, hb]
theorem run_quo {t t' : TypeId} {x y : Operand} {k : IntKind} {a b z : Int} (h : o.op = .binOp .quo t x y t') (hx : ρ x = .int k a) (hy : ρ y = .int k b) (hb : b ≠ 0) (hz : k.wrap (a.tdiv b) = z) : (execOp ρ o).run P W = .ok (.value (.int k z)) W := by
  subst hz
  unfold execOp; rw [h]
  simp [hx, hy, eqGuard, binOp, Op.intDiv, hb]
theorem run_and {t t' : TypeId} {x y : Operand} {k : IntKind} {a b z : Int} (h : o.op = .binOp .and t x y t') (hx : ρ x = .int k a) (hy : ρ y = .int k b) (hz : k.wrap ((BitVec.ofInt k.bits a &&& BitVec.ofInt k.bits b).toNat : Int) = z) : (execOp ρ o).run P W = .ok (.value (.int k z)) W := by
  subst hz
  unfold execOp; rw [h]
  simp [hx, hy, eqGuard, binOp, Op.intBits]
theorem bits_mask (a : Int) (n : Nat) (hn : n ≤ 62) : IntKind.i64.wrap ((BitVec.ofInt 64 a &&& BitVec.ofInt 64 (2 ^ n - 1)).toNat : Int) = a % 2 ^ n := by
  have h2 : (BitVec.ofInt 64 ((2 : Int) ^ n - 1)).toNat = 2 ^ n - 1 := by
    rw [BitVec.toNat_ofInt]
    have hp : (2 : Int) ^ n = ((2 ^ n : Nat) : Int) := by simp
    have h1 : 1 ≤ 2 ^ n := Nat.one_le_two_pow
    have h3 : 2 ^ n ≤ 2 ^ 62 := Nat.pow_le_pow_right (by omega) hn
    rw [hp]
    have h4 : (2 : Nat) ^ 62 = 4611686018427387904 := by decide
    rw [h4] at h3
    omega
  have h3 : (BitVec.ofInt 64 a &&& BitVec.ofInt 64 (2 ^ n - 1)).toNat = (BitVec.ofInt 64 a).toNat % 2 ^ n := by
    rw [BitVec.toNat_and, h2, Nat.and_two_pow_sub_one_eq_mod]
  rw [h3, BitVec.toNat_ofInt]
  have hd : (2 : Nat) ^ 64 = 2 ^ n * 2 ^ (64 - n) := by rw [← Nat.pow_add]; congr 1; omega
  have hlt : 2 ^ n ≤ 2 ^ 62 := Nat.pow_le_pow_right (by omega) hn
  have h62 : (2 : Nat) ^ 62 = 4611686018427387904 := by decide
  have hpos : 0 < 2 ^ n := Nat.two_pow_pos n
  have e : (((a % ((2 ^ 64 : Nat) : Int)).toNat % 2 ^ n : Nat) : Int) = a % 2 ^ n := by
    have h0 : 0 ≤ a % ((2 ^ 64 : Nat) : Int) := Int.emod_nonneg _ (by decide)
    rw [Int.natCast_emod, Int.toNat_of_nonneg h0, hd]
    push_cast
    exact Int.emod_emod_of_dvd _ (Int.dvd_mul_right _ _)
  rw [e]
  have h5 : 0 ≤ a % 2 ^ n := Int.emod_nonneg _ (by have : (2 : Int) ^ n = ((2 ^ n : Nat) : Int) := by simp
                                                   rw [this]; omega)
  have h6 : a % 2 ^ n < 2 ^ n := Int.emod_lt_of_pos _ (by have : (2 : Int) ^ n = ((2 ^ n : Nat) : Int) := by simp
                                                          rw [this]; omega)
  have h7 : (2 : Int) ^ n = ((2 ^ n : Nat) : Int) := by simp
  refine IntWalk.i64_in _ ⟨by omega, ?_⟩
  rw [h7] at h6 ⊢
  omega
/-- a call of a function value -/
theorem run_callV {c : Call} {x : Operand} {f : FuncId} {first cap args args' : Array Value} (h : o.op = .call c) (hcal : c.callee = .value x) (hx : ρ x = .func (.func f) first cap) (hf : callP P f = true) (ha : c.args.map ρ = args) (hargs : first ++ args ++ cap = args') :
    (execOp ρ o).run P W = .ok (.enter f args') W := by
  subst hargs
  unfold callP at hf
  split at hf
  · rename_i fn hfn
    simp only [Bool.and_eq_true, Bool.not_eq_true'] at hf
    have hb : fn.body.isNone = false := by
      cases hh : fn.body with
      | none => rw [hh] at hf; simp at hf
      | some _ => rfl
    unfold execOp; rw [h]
    simp only [resolve, hcal, hx, Deferred.ofValue, ha, Sem.run_bind, Sem.run_pure, Result.andThen_ok, invoke, callFunc, program, Sem.run, hfn, hf.2, hb]
    simp
  · cases hf
/-- which function a method of a dynamic type is -/
def Meth (P : Program) (t : TypeId) (v : Value) (name : String) (f : FuncId) (rv : Value) : Prop := ∀ W, (method (P.types.size + Made.depth) t v name).run P W = .ok (f, rv) W
theorem run_invoke {c : Call} {x : Operand} {name : String} {t : TypeId} {v rv : Value} {f : FuncId} {args args' : Array Value} (h : o.op = .call c) (hcal : c.callee = .invoke x name) (hx : ρ x = .iface t v) (hm : Meth P t v name f rv) (hf : callP P f = true)
    (ha : c.args.map ρ = args) (hargs : #[rv] ++ args = args') : (execOp ρ o).run P W = .ok (.enter f args') W := by
  subst hargs
  unfold callP at hf
  split at hf
  · rename_i fn hfn
    simp only [Bool.and_eq_true, Bool.not_eq_true'] at hf
    have hb : fn.body.isNone = false := by
      cases hh : fn.body with
      | none => rw [hh] at hf; simp at hf
      | some _ => rfl
    have hex : (#[Value.iface t v] ++ args).extract 1 (#[Value.iface t v] ++ args).size = args := by
      apply Array.ext'
      simp
    unfold execOp; rw [h]
    simp only [resolve, hcal, hx, ha, Sem.run_bind, Sem.run_pure, Result.andThen_ok, invoke]
    have h0 : (#[Value.iface t v] ++ args)[0]? = some (.iface t v) := by exact Array.getElem?_append_left (show 0 < 1 by omega)
    simp only [h0, hex, callMethod, program, Sem.run_bind, Sem.run, Result.andThen_ok, hm W, callFunc, hfn, hf.2, hb]
    simp
  · cases hf
theorem getD_int {ls : List Int} {m : Nat} (h : m < ls.length) : (ls.map (Value.int .i64))[m]? = some (.int .i64 (ls.getD m 0)) := by simp [h]
theorem getD_str {ls : List ByteArray} {m : Nat} (h : m < ls.length) : (ls.map Value.string)[m]? = some (.string (ls.getD m ByteArray.empty)) := by simp [h]
theorem getD_u8 {ls : List Int} {m : Nat} (h : m < ls.length) : (ls.map (Value.int .u8))[m]? = some (.int .u8 (ls.getD m 0)) := by simp [h]
end
def Ret (v : Value) (w : World) (e : Ending) (w' : World) : Prop := e = .returned v ∧ Ext w w'
theorem Ret.of {a b : Value} {w w' : World} (h : a = b) (hx : Ext w w') : Ret b w (.returned a) w' := ⟨by rw [h], hx⟩
theorem Ret.bool {a b : Bool} {w w' : World} (h : a = b) (hx : Ext w w') : Ret (.bool b) w (.returned (.bool a)) w' := ⟨by rw [h], hx⟩
theorem Ret.int {k : IntKind} {a b : Int} {w w' : World} (h : a = b) (hx : Ext w w') : Ret (.int k b) w (.returned (.int k a)) w' := ⟨by rw [h], hx⟩

/-- the block of a slice -/
def pb' : Value → Nat
  | .slice (some a) _ _ => a.block
  | _ => 0
theorem At.of_ownN {w : World} {base : Nat} {e : TypeId} {A : Option Addr} {sz n m c : Nat} {xs : List Value} (h : w.ownsRow base e sz (.slice A n c) m xs) : At w A xs := by
  intro j u hj
  rcases h.2 with ⟨hv, hm⟩ | ⟨g, cap, cur, hv, hb, hh, _⟩
  · have := h.1; subst hm
    have hx : xs = [] := List.eq_nil_of_length_eq_zero (by simpa using this)
    subst hx; simp at hj
  · have hA : A = some ⟨g, 0, none⟩ := by injection hv
    subst hA
    exact ⟨_, rfl, (Array.getElem?_eq_some_iff.1 hh).1, h.cells (g := g) rfl j u hj⟩
theorem At.take_mapI {w : World} {A : Option Addr} {f : Int → Value} {ls : List Int} (h : At w A (ls.map f)) (m : Nat) : At w A ((ls.take m).map f) := by
  rw [List.map_take]; exact h.take m
theorem own_formN {w : World} {base : Nat} {e : TypeId} {v : Value} {sz n : Nat} {xs : List Value} (h : w.ownsRow base e sz v n xs) : ∃ A c, v = .slice A n c := by
  rcases h.2 with ⟨rfl, rfl⟩ | ⟨g, cap, cur, rfl, _⟩
  · exact ⟨_, _, rfl⟩
  · exact ⟨_, _, rfl⟩
theorem eown_capN {w : World} {e base n c sz : Nat} {A : Option Addr} {xs : List Value} (h : w.ownsRow base e sz (.slice A n c) n xs) : n ≤ c := by
  rcases h.2 with ⟨hv, _⟩ | ⟨g, cap, cur, hv, _, _, hc, _⟩
  · injection hv with h1 h2 h3; omega
  · injection hv with h1 h2 h3; omega

section
variable {P : Program} {ops : Array Oper} {L : List Nat} {a0 : Act} {w0 : World} {bor : List Nat} {X0 : List Ent} {us cr kl : List (List Nat)}
  {D : Nat → (Tmp → Value) → (Tmp → Value) → (Nat → Ent) → Prop} {i : Nat} {o : Oper} {ρ : Operand → Value} {β : Tmp → Value} {W : World} {X : Nat → Ent}

theorem run_min2 {x y : Operand} {ts : Array TypeId} {k k' : IntKind} {a b z : Int} (h : o.op = .call { callee := .builtin .min, args := #[x, y], argTypes := ts }) (hx : ρ x = .int k a) (hy : ρ y = .int k' b) (hz : min a b = z) : (execOp ρ o).run P W = .ok (.value (.int k z)) W := by
  subst hz
  unfold execOp; rw [h]
  simp only [resolve, invoke, builtin, List.map_toArray, List.map_cons, List.map_nil, hx, hy, Sem.run_bind, Sem.run_pure, Result.andThen_ok]
  have e : (Builtin.min_ ts o.type #[.int k a, .int k' b]).run P W = .ok (.int k (min a b)) W := by
    unfold Builtin.min_
    show (List.foldlM Builtin.min2 (.int k a) [.int k' b]).run P W = _
    simp only [List.foldlM_cons, List.foldlM_nil, Builtin.min2]
    have h2 : (if b < a then b else a) = min a b := by omega
    rw [h2]
    rfl
  rw [e]
  rfl
/-- a store into an element of a row, elements of one cell -/
theorem dv_storeRow {t e : TypeId} {x y : Operand} {A : Option Addr} {n c m q q' : Nat} {v : Value} {xs : List Value} (h : o.op = .store t x y) (hx : ρ x = .pointer (some ((ad A).add m))) (hy : ρ y = v) (hz : szP P t = some 1) (hn : v.cells = #[v])
    (h1 : v.oneCell' = true) (cx : CtxV ops L a0 w0 bor X0 us D i ρ β W X) (hX : X q = eO e 1 (.slice A n c) n xs) (hu : (atV us i).contains q = true) (hm : m < n) (hd : o.dst = none) {xs' : List Value} (hxs : xs.set m v = xs')
    (hc : atV cr i = [q']) (hk : atV kl i = [q]) (hD : ∀ (σ β' : Tmp → Value) (X' : Nat → Ent), (∀ t, σ t = ρ (.tmp t)) → (∀ t, β' t = β t) → X' q' = eO e 1 (.slice A n c) n xs' → D i σ β' X') : DoesU P o ρ W (PostV cr kl D i o.dst ρ β W X) := by
  subst hxs
  have hok := cx.ok q hu
  rw [hX] at hok
  have hown : W.ownsRow 0 e 1 (.slice A n c) n xs := hok.holds
  obtain ⟨g, rfl⟩ : ∃ g, A = some ⟨g, 0, none⟩ := by
    rcases hown.2 with ⟨hv, hm0⟩ | ⟨g, cap, cur, hv, _⟩
    · omega
    · injection hv with h1 h2 h3; exact ⟨g, h1⟩
  have hlen : xs.length = n := by have := hown.1; omega
  have hcell : W.cell? ⟨g, m, none⟩ = some (xs[m]'(by omega)) := by
    rw [hown.cellAt m (by omega)]
    exact List.getElem?_eq_getElem (by omega)
  have hfz := hown.frozenAt m
  have hst := (hown.stored m v).1
  have hadd : (ad (some ⟨g, 0, none⟩)).add m = ⟨g, m, none⟩ := by rw [ad, Option.getD_some, Addr.add_lit, Nat.zero_add]
  have hrun : (execOp ρ o).run P W = .ok .skip (W.setCell ⟨g, m, none⟩ v) := by
    unfold execOp; rw [h]
    have hsz : v.cells.size = 1 := by rw [hn]; rfl
    simp only [hx, hy, hadd, Instr.storeAt, Instr.sureAddr, storeVar, Sem.run_bind, Sem.run_pure, Result.andThen_ok, run_size hz, hsz, ne_eq, not_true_eq_false, if_false]
    have e1 : (storeCells ⟨g, m, none⟩ v.cells.toList 0).run P W = .ok () (W.setCell ⟨g, m, none⟩ v) := by
      rw [hn]
      have hs1 : (store ((⟨g, m, none⟩ : Addr).add 0) v).run P W = .ok () (W.setCell ⟨g, m, none⟩ v) := by
        rw [Addr.add_lit]
        unfold store
        cases v <;> first | (simp [Value.oneCell'] at h1; done) | (simp [Sem.run, hcell, hfz])
      show (storeCells ⟨g, m, none⟩ [v] 0).run P W = _
      unfold storeCells
      simp only [Sem.run_bind, hs1, Result.andThen_ok]
      rfl
    rw [e1]
    rfl
  refine DoesU.skip hrun ⟨[eO e 1 (.slice (some ⟨g, 0, none⟩) n c) n (xs.set m v)], by rw [hc]; rfl, ⟨?_, fun e' he => ?_, List.pairwise_singleton _ _⟩, fun σ β' X' hs hv hb' hbv hx' hN => hD σ β' X' (fun t => hs t (by rw [hd]; simp)) (fun t => hb' t (by rw [hd]; simp)) ?_⟩
  · rw [hk]
    simp only [List.flatMap_cons, List.flatMap_nil, List.append_nil, hX]
    exact (Upd.refl _ W).set (.inl (by simp [eO, Value.ownBlock])) v
  · rw [List.mem_singleton] at he
    subst he
    refine ⟨hst, eO_loc _ _ _ _ _, fun k hk' => ?_⟩
    have hkb : k = g := by simpa [eO, Value.ownBlock] using hk'
    subst hkb
    refine ⟨.inl ?_, own0_block hst k rfl⟩
    rw [hk]
    simp [hX, eO, Value.ownBlock]
  · rw [hc] at hN
    exact (List.cons.inj hN).1
/-- append onto a row of the call's own, elements of several cells -/
theorem dv_appendN {s x : Operand} {t ty : TypeId} {d : Tmp} {q q' sz : Nat} (ho : o.op = .call { callee := .builtin .append, args := #[s, x], argTypes := #[t, t] }) (hty : ty = t)
    {e : TypeId} {inf : TypeInfo} {z : Value} {bytes : Nat} (ht : P.underlying t = some (.slice e)) (hi : P.info? e = some inf) (hz : inf.zero = some z)
    (hsize : inf.size = sz) (hby : inf.bytes = bytes) (hzs : z.cells.size = sz) (hsz : 0 < sz) {v : Value} {n : Nat} {xs : List Value} (hs : ρ s = v) (cx : CtxV ops L a0 w0 bor X0 us D i ρ β W X) (hX : X q = eO e sz v n xs) (hu : (atV us i).contains q = true)
    {a : Addr} {m cp : Nat} {news : List Value} (hx : ρ x = .slice (some a) m cp) (hl : news.length = m * sz) (hA : At W (some a) news) (h1 : ∀ u ∈ news, u.oneCell' = true)
    (h63 : n + m ≤ maxLen) (hbytes : (n + m) * bytes ≤ 140737488355328) (hd : o.dst = some d) (hc : atV cr i = [q']) (hk : atV kl i = [q]) {nm : Nat} {xs' : List Value} (hnm : n + m = nm) (hxs : xs ++ news = xs')
    (hD : ∀ (σ β' : Tmp → Value) (X' : Nat → Ent), (∀ t, t ≠ d → σ t = ρ (.tmp t)) → (∀ t, t ≠ d → β' t = β t) → σ d = .slice (sA (β' d)) nm (sC (β' d)) → X' q' = eO e sz (.slice (sA (β' d)) nm (sC (β' d))) nm xs' → D i σ β' X') :
    DoesU P o ρ W (PostV cr kl D i o.dst ρ β W X) := by
  have hok := cx.ok q hu
  rw [hX] at hok
  have hown : W.ownsRow 0 e sz v n xs := hok.holds
  obtain ⟨v', W', hrun, hown', hg, _, hat⟩ := run_append_own_at (P := P) W 0 t o.type e inf z sz bytes ht hi hz hsize hby hzs hsz v n xs hown a m cp news hl hA.at_ h1 h63 hbytes (Nat.zero_le _)
  have hr : (execOp ρ o).run P W = .ok (.value v') W' := by
    unfold execOp
    simp only [ho, resolve, invoke, builtin, Sem.run_bind, Sem.run_pure, Result.andThen_ok, List.map_toArray, List.map_cons, List.map_nil, hs, hx, hrun]
  subst hnm; subst hxs
  obtain ⟨A', c', rfl⟩ := own_formN hown'
  have hin : ∀ k, (v.ownBlock = some k) → k ∈ ((atV kl i).flatMap fun q => (X q).fp) := fun k hk' => by
    rw [hk]
    simp only [List.flatMap_cons, List.flatMap_nil, List.append_nil, hX]
    simp [eO, hk']
  refine DoesU.value hr ⟨[eO e sz (.slice A' (n + m) c') (n + m) (xs ++ news)], by rw [hc]; rfl, ⟨(Upd.refl _ W).grown hg fun k hk' => .inl (hin k hk'), fun e' he => ?_, List.pairwise_singleton _ _⟩, fun σ β' X' hs' hv hb hbv hx' hN => hD σ β' X' (fun t ht => hs' t (by rw [hd]; simpa using ht.symm)) (fun t ht => hb t (by rw [hd]; simpa using ht.symm)) ?_ ?_⟩
  · rw [List.mem_singleton] at he
    subst he
    refine ⟨hown', eO_loc _ _ _ _ _, fun k hk' => ?_⟩
    have h2 : (Value.slice A' (n + m) c').ownBlock = some k := by simpa [eO] using hk'
    refine ⟨?_, own0_block hown' k h2⟩
    rcases hat with h3 | h3
    · exact .inl (hin k (h3.symm.trans h2))
    · right
      rw [h3] at h2
      injection h2 with h2
      omega
  · rw [hv d hd, hbv d hd]; rfl
  · rw [hbv d hd]
    rw [hc] at hN
    exact (List.cons.inj hN).1
/-- []T{..}, elements of several cells -/
theorem dv_litN {t e : TypeId} {n sz : Nat} {parts : Array (Nat × Operand)} {d : Tmp} {q : Nat} {xs : List Value} (h : o.op = .buildSlice t n parts) (hrun : (execOp ρ o).run P W = .ok (.value (.slice (some ⟨W.heap.size, 0, none⟩) n n)) (W.alloc (.cells xs.toArray e)))
    (hn : xs.length = n * sz) (hm : n ≤ maxLen) (hd : o.dst = some d) (hc : atV cr i = [q])
    (hD : ∀ (σ β' : Tmp → Value) (X' : Nat → Ent), (∀ t, t ≠ d → σ t = ρ (.tmp t)) → (∀ t, t ≠ d → β' t = β t) → σ d = .slice (some ⟨pb' (β' d), 0, none⟩) n n → X' q = eO e sz (.slice (some ⟨pb' (β' d), 0, none⟩) n n) n xs → D i σ β' X') :
    DoesU P o ρ W (PostV cr kl D i o.dst ρ β W X) := by
  have ho : (W.alloc (.cells xs.toArray e)).ownsRow W.heap.size e sz (.slice (some ⟨W.heap.size, 0, none⟩) n n) n xs := by
    have := World.ownsRow_lit (base := W.heap.size) (e := e) (size := sz) W xs.toArray n (Nat.le_refl _) hm (by simpa using hn)
    simpa using this
  refine DoesU.value hrun ⟨[eO e sz (.slice (some ⟨W.heap.size, 0, none⟩) n n) n xs], by rw [hc]; rfl, ⟨(Upd.refl _ _).alloc _, fun e' he => ?_, List.pairwise_singleton _ _⟩, fun σ β' X' hs' hv hb hbv hx' hN => hD σ β' X' (fun t ht => hs' t (by rw [hd]; simpa using ht.symm)) (fun t ht => hb t (by rw [hd]; simpa using ht.symm)) ?_ ?_⟩
  · rw [List.mem_singleton] at he
    subst he
    obtain ⟨h1, h2, h3⟩ := eO_new ho
    exact ⟨h1, h2, fun k hk => ⟨.inr (h3 k hk).1, (h3 k hk).2⟩⟩
  · rw [hv d hd, hbv d hd]; rfl
  · rw [hbv d hd]
    rw [hc] at hN
    exact (List.cons.inj hN).1
/-- make([]T, n), elements of one cell -/
theorem dv_make {t e : TypeId} {x y : Operand} {k k' : IntKind} {n : Nat} {j j' : Int} {d : Tmp} {q : Nat} {inf : TypeInfo} {z : Value} {bytes : Nat} (h : o.op = .makeSlice t x y) (ht : P.underlying t = some (.slice e)) (hi : P.info? e = some inf) (hz : inf.zero = some z) (hsize : inf.size = 1) (hby : inf.bytes = bytes) (hzs : z.cells = #[z])
    (hx : ρ x = .int k j) (hy : ρ y = .int k' j') (hj : j = (n : Int)) (hj' : j' = (n : Int)) (hn : n ≤ 16777216) (hb : bytes * n ≤ 281474976710656) (hd : o.dst = some d) (hc : atV cr i = [q])
    (hD : ∀ (σ β' : Tmp → Value) (X' : Nat → Ent), (∀ t, t ≠ d → σ t = ρ (.tmp t)) → (∀ t, t ≠ d → β' t = β t) → σ d = .slice (sA (β' d)) n n → X' q = eO e 1 (.slice (sA (β' d)) n n) n (List.replicate n z) → D i σ β' X') :
    DoesU P o ρ W (PostV cr kl D i o.dst ρ β W X) := by
  subst hj; subst hj'; subst hby
  obtain ⟨W', hrun, ho, hg⟩ := run_makeSlice_full (P := P) W W.heap.size t e inf z 1 ht hi hz hsize k k' n (by omega) hb (by simp only [maxLen]; omega) (Nat.le_refl _)
  rw [hzs, toList_madeCells_one, Nat.mul_one] at ho
  have hr : (execOp ρ o).run P W = .ok (.value (.slice (some ⟨W.heap.size, 0, none⟩) n n)) W' := by
    unfold execOp; rw [h]
    simp only [hx, hy, Sem.run_bind, hrun, Result.andThen_ok, Sem.run_pure]
  refine DoesU.value hr ⟨[eO e 1 (.slice (some ⟨W.heap.size, 0, none⟩) n n) n (List.replicate n z)], by rw [hc]; rfl, ⟨(Upd.refl _ W).grown hg (fun k hk => by cases hk), fun e' he => ?_, List.pairwise_singleton _ _⟩, fun σ β' X' hs' hv hb hbv hx' hN => hD σ β' X' (fun t ht => hs' t (by rw [hd]; simpa using ht.symm)) (fun t ht => hb t (by rw [hd]; simpa using ht.symm)) ?_ ?_⟩
  · rw [List.mem_singleton] at he
    subst he
    obtain ⟨h1, h2, h3⟩ := eO_new ho
    exact ⟨h1, h2, fun k hk => ⟨.inr (h3 k hk).1, (h3 k hk).2⟩⟩
  · rw [hv d hd, hbv d hd]; rfl
  · rw [hbv d hd]
    rw [hc] at hN
    exact (List.cons.inj hN).1
/-- string([]byte) of a row of the call's own, the bytes as numbers -/
theorem run_convB {t t' e e' base : TypeId} {x : Operand} {A : Option Addr} {n c : Nat} {bs : List Int} (h : o.op = .convert t t' x) (ht : P.underlying t = some (.slice e)) (he : P.underlying e = some (.int .u8)) (ht' : P.underlying t' = some .string)
    (hx : ρ x = .slice A n c) (hA : W.ownsRow base e' 1 (.slice A n c) n (bs.map (Value.int .u8))) : (execOp ρ o).run P W = .ok (.value (.string (strOfNums bs))) W := by
  have hn : bs.length = n := by have := hA.1; simpa using this
  have hr : (convert t t' (.slice A n c)).run P W = .ok (.string (strOfNums bs)) W := by
    rcases hA.2 with ⟨hv, h0⟩ | ⟨g, cap, cur, hv, _⟩
    · injection hv with h1 h2 h3
      subst h1
      have hb : bs = [] := List.eq_nil_of_length_eq_zero (by omega)
      subst hb
      exact run_convert_bytes_nil W t e ht he n c t' ht'
    · injection hv with h1 h2 h3
      subst h1
      refine run_convert_bytes_arg W t e ht he g 0 n c bs hn (fun i hi => ?_) t' ht'
      rw [Nat.zero_add, hA.cellAt i (by omega)]
      exact getD_u8 (by omega)
  unfold execOp; rw [h]
  simp only [hx, Sem.run_bind, hr, Result.andThen_ok, Sem.run_pure]
/-- behind a call that made the entries N -/
theorem post_st {v : Value} {W' : World} (N : List Ent) (hk : atV kl i = []) (hl : N.length = (atV cr i).length) (h : St W [] N W')
    (hD : ∀ (σ β' : Tmp → Value) (X' : Nat → Ent), (∀ t, o.dst ≠ some t → σ t = ρ (.tmp t)) → (∀ t, o.dst ≠ some t → β' t = β t) → (∀ d, o.dst = some d → σ d = v ∧ β' d = v) → (atV cr i).map X' = N → D i σ β' X') : PostV cr kl D i o.dst ρ β W X v W' :=
  post_call N hk hl h.ext (fun e he => ⟨(h.ok e he).holds, (h.ok e he).loc, fun k hk' => ⟨((h.ok e he).own k hk').1.resolve_left (by simp), ((h.ok e he).own k hk').2⟩⟩) h.apart hD
/-- x[:m] of a slice -/
theorem run_sliceL_hi {t e : TypeId} {x y : Operand} {sz : Nat} {A : Option Addr} {n c m : Nat} {k : IntKind} {j : Int} (h : o.op = .slice t x none (some y) none) (ht : P.underlying t = some (.slice e)) (hz : szP P e = some sz)
    (hx : ρ x = .slice A n c) (hy : ρ y = .int k j) (hj : j = (m : Int)) (hm : m ≤ c) : (execOp ρ o).run P W = .ok (.value (.slice A m c)) W := by
  subst hj
  unfold execOp; rw [h]
  have h1 : (0 : Int) ≤ (m : Int) ∧ (m : Int) ≤ ((c : Nat) : Int) := ⟨by omega, by omega⟩
  have h2 : (if c = 0 then A else A.map (·.add (0 * sz))) = A := by
    split
    · rfl
    · rw [Nat.zero_mul]
      cases A with
      | none => rfl
      | some a => simp [Addr.add]
  simp only [hx, hy, Option.map_some, Option.map_none, Instr.sliceAt, Instr.slice, Sem.run_bind, run_underlying ht, Result.andThen_ok, Instr.sliceBounds, Instr.sliceBound, asIntOf, Sem.run_pure, h1, and_self, if_true, run_size hz]
  simp
  intro _
  cases A with
  | none => rfl
  | some a => simp [Addr.add]
/-- x[l:] of a slice -/
theorem run_sliceL_lo {t e : TypeId} {x y : Operand} {sz : Nat} {A : Option Addr} {n c l : Nat} {k : IntKind} {j : Int} (h : o.op = .slice t x (some y) none none) (ht : P.underlying t = some (.slice e)) (hz : szP P e = some sz)
    (hx : ρ x = .slice A n c) (hy : ρ y = .int k j) (hj : j = (l : Int)) (hl : l ≤ n) : (execOp ρ o).run P W = .ok (.value (.slice (if c = l then A else A.map (·.add (l * sz))) (n - l) (c - l))) W := by
  subst hj
  unfold execOp; rw [h]
  have h1 : (0 : Int) ≤ (l : Int) ∧ (l : Int) ≤ ((n : Nat) : Int) := ⟨by omega, by omega⟩
  simp only [hx, hy, Option.map_some, Option.map_none, Instr.sliceAt, Instr.slice, Sem.run_bind, run_underlying ht, Result.andThen_ok, Instr.sliceBounds, Instr.sliceBound, asIntOf, Sem.run_pure, h1, and_self, if_true, run_size hz]
  simp
end

def mb (c : Bool) (v : Value) : Value := bif c then v else undef
theorem zB : (∀ {a b : Bool}, ((a || b) = true) ↔ (a = true ∨ b = true)) ∧ (∀ {a b : Bool}, ((a && b) = true) ↔ (a = true ∧ b = true)) ∧ (∀ {a b : Bool}, ((a || b) = false) ↔ (a = false ∧ b = false)) ∧ (∀ {a b : Bool}, ((a && b) = false) ↔ (a = false ∨ b = false)) ∧
    (∀ {p : Prop} [Decidable p], (decide p = true) ↔ p) ∧ (∀ {p : Prop} [Decidable p], (decide p = false) ↔ ¬ p) ∧ (∀ {b : Bool}, ((!b) = true) ↔ b = false) ∧ (∀ {b : Bool}, ((!b) = false) ↔ b = true) ∧
    (∀ {a b : Int}, ((a == b) = true) ↔ a = b) ∧ (∀ {a b : Int}, ((a == b) = false) ↔ a ≠ b) ∧ (∀ {a b : Int}, ((a != b) = true) ↔ a ≠ b) ∧ (∀ {a b : Int}, ((a != b) = false) ↔ a = b) := by
  refine ⟨?_, ?_, ?_, fun {a b} => by cases a <;> cases b <;> simp, ?_, ?_, ?_, ?_, ?_, ?_, ?_, ?_⟩ <;> intros <;> simp
theorem mb_t (v : Value) : mb true v = v := rfl
theorem mbv {q : Bool} {v u : Value} (h : u = mb q v) (hq : q = true) : u = v := by rw [h, hq]; rfl
theorem mb_l {c x : Bool} (h : (c && x) = true) : c = true := by cases c <;> simp_all
theorem mb_r {c x : Bool} (h : (c && x) = true) : x = true := by cases c <;> simp_all
theorem GSayV.maybe {ops : Array Oper} {ρ : Operand → Value} {o : Oper} {yes no : Prop} {g d : Nat} {b c x q : Bool} (hg : o.guard = some (g, b)) (hd : dstAt ops g = some d) (hv : ρ (.tmp d) = mb c (.bool x)) (hq : (c && (x == b)) = q) (hy : q = true → yes) (hn : q = false → no) : GSayV ops ρ o yes no := by
  cases c with
  | false =>
    have : q = false := by rw [← hq]; rfl
    exact GSayV.un hg hd hv (hn this)
  | true =>
    by_cases e : x = b
    · subst e
      exact GSayV.on hg hd hv (hy (by rw [← hq]; simp))
    · exact GSayV.off hg hd hv e (hn (by rw [← hq]; cases x <;> cases b <;> simp_all))
section
variable {P : Program} {ops : Array Oper} {L : List Nat} {a0 : Act} {w0 : World} {bor : List Nat} {X0 : List Ent} {us cr kl : List (List Nat)}
  {D : Nat → (Tmp → Value) → (Tmp → Value) → (Nat → Ent) → Prop} {i : Nat} {o : Oper} {ρ : Operand → Value} {W : World}
/-- a step without effect under an undecided guard -/
theorem m0 (ho : ops[i]? = some o) {g dg : Nat} {b c x q : Bool} {d : Tmp} {V : Value} (hD : ∀ σ β X, σ d = mb q V → D i σ β X) (hgv : ∀ {ρ : Operand → Value} {β : Tmp → Value} {W : World} {X : Nat → Ent}, CtxV ops L a0 w0 bor X0 us D i ρ β W X → ρ (.tmp dg) = mb c (.bool x))
    (h : ∀ {ρ : Operand → Value} {β : Tmp → Value} {W : World} {X : Nat → Ent}, CtxV ops L a0 w0 bor X0 us D i ρ β W X → q = true → (execOp ρ o).run P W = .ok (.value V) W)
    (hg : o.guard = some (g, b) := by rfl) (hdg : dstAt ops g = some dg := by rfl) (hd : o.dst = some d := by rfl) (hc : atV cr i = [] := by rfl) (hk : atV kl i = [] := by rfl) (hq : (c && (x == b)) = q := by simp) : StepV P ops L a0 w0 bor X0 us cr kl D i := by
  intro ρ β W X cx
  rw [ho]
  refine GSayV.maybe hg hdg (hgv cx) hq (fun e => DoesU.value (h cx e) ⟨[], by rw [hc]; rfl, ⟨Upd.refl _ _, by simp, List.Pairwise.nil⟩, fun σ β' X' hs hv hb hbv hx hN => hD σ β' X' ?_⟩) fun e => ⟨hc, hk, fun σ β' hs hv hb hbv => hD σ β' X ?_⟩
  · rw [hv d hd, e]; rfl
  · rw [hv d hd, e]; rfl
/-- a call that changes nothing old, under an undecided guard -/
theorem m1 (ho : ops[i]? = some o) {g dg : Nat} {b c x q : Bool} {d : Tmp} {V : Value} (hD : ∀ σ β X, σ d = mb q V → D i σ β X) (hgv : ∀ {ρ : Operand → Value} {β : Tmp → Value} {W : World} {X : Nat → Ent}, CtxV ops L a0 w0 bor X0 us D i ρ β W X → ρ (.tmp dg) = mb c (.bool x))
    (h : ∀ {ρ : Operand → Value} {β : Tmp → Value} {W : World} {X : Nat → Ent}, CtxV ops L a0 w0 bor X0 us D i ρ β W X → q = true → ∃ f args, (execOp ρ o).run P W = .ok (.enter f args) W ∧ Calls P f args W fun e W' => e = .returned V ∧ Ext W W')
    (hg : o.guard = some (g, b) := by rfl) (hdg : dstAt ops g = some dg := by rfl) (hd : o.dst = some d := by rfl) (hc : atV cr i = [] := by rfl) (hk : atV kl i = [] := by rfl) (hq : (c && (x == b)) = q := by simp) : StepV P ops L a0 w0 bor X0 us cr kl D i := by
  intro ρ β W X cx
  rw [ho]
  refine GSayV.maybe hg hdg (hgv cx) hq (fun e => ?_) fun e => ⟨hc, hk, fun σ β' hs hv hb hbv => hD σ β' X (by rw [hv d hd, e]; rfl)⟩
  obtain ⟨f, args, hr, hcall⟩ := h cx e
  refine DoesU.call hr (hcall.mono fun e' W' ⟨he, hx⟩ => ⟨V, he, post_call [] hk (by rw [hc]; rfl) hx (by simp) List.Pairwise.nil fun σ β' X' hs hb hv hN => hD σ β' X' ?_⟩)
  rw [(hv d hd).1, e]; rfl
theorem m2 (ho : ops[i]? = some o) {g dg : Nat} {b x q : Bool} {d : Tmp} {V : Value} (hD : ∀ σ β X, σ d = mb q V → D i σ β X) (hgv : ∀ {ρ : Operand → Value} {β : Tmp → Value} {W : World} {X : Nat → Ent}, CtxV ops L a0 w0 bor X0 us D i ρ β W X → ρ (.tmp dg) = .bool x)
    (h : ∀ {ρ : Operand → Value} {β : Tmp → Value} {W : World} {X : Nat → Ent}, CtxV ops L a0 w0 bor X0 us D i ρ β W X → q = true → (execOp ρ o).run P W = .ok (.value V) W)
    (hg : o.guard = some (g, b) := by rfl) (hdg : dstAt ops g = some dg := by rfl) (hd : o.dst = some d := by rfl) (hc : atV cr i = [] := by rfl) (hk : atV kl i = [] := by rfl) (hq : (x == b) = q := by simp) : StepV P ops L a0 w0 bor X0 us cr kl D i :=
  m0 (c := true) ho hD (fun cx => hgv cx) h hg hdg hd hc hk (by rw [← hq]; simp)
theorem m3 (ho : ops[i]? = some o) {g dg : Nat} {b x q : Bool} {d : Tmp} {V : Value} (hD : ∀ σ β X, σ d = mb q V → D i σ β X) (hgv : ∀ {ρ : Operand → Value} {β : Tmp → Value} {W : World} {X : Nat → Ent}, CtxV ops L a0 w0 bor X0 us D i ρ β W X → ρ (.tmp dg) = .bool x)
    (h : ∀ {ρ : Operand → Value} {β : Tmp → Value} {W : World} {X : Nat → Ent}, CtxV ops L a0 w0 bor X0 us D i ρ β W X → q = true → ∃ f args, (execOp ρ o).run P W = .ok (.enter f args) W ∧ Calls P f args W fun e W' => e = .returned V ∧ Ext W W')
    (hg : o.guard = some (g, b) := by rfl) (hdg : dstAt ops g = some dg := by rfl) (hd : o.dst = some d := by rfl) (hc : atV cr i = [] := by rfl) (hk : atV kl i = [] := by rfl) (hq : (x == b) = q := by simp) : StepV P ops L a0 w0 bor X0 us cr kl D i :=
  m1 (c := true) ho hD (fun cx => hgv cx) h hg hdg hd hc hk (by rw [← hq]; simp)
/-- '&&', '||' -/
theorem run_pick_and {c a b : Operand} {x y q : Bool} (h : o.op = .pick c a b) (hc : ρ c = .bool x) (ha : ρ a = mb q (.bool y)) (hq : x = true → q = true) (hb : ρ b = .bool false) : (execOp ρ o).run P W = .ok (.value (.bool (x && y))) W := by
  cases x with
  | true => exact run_pick_t h hc (mbv ha (hq rfl))
  | false => exact run_pick_f h hc hb
theorem run_pick_or {c a b : Operand} {x y q : Bool} (h : o.op = .pick c a b) (hc : ρ c = .bool x) (ha : ρ a = .bool true) (hb : ρ b = mb q (.bool y)) (hq : x = false → q = true) : (execOp ρ o).run P W = .ok (.value (.bool (x || y))) W := by
  cases x with
  | true => exact run_pick_t h hc ha
  | false => exact run_pick_f h hc (mbv hb (hq rfl))
end

section
variable {P : Program} {o : Oper} {ρ : Operand → Value} {W : World}
/-- a slice against nil -/
theorem run_eqnil {t t' e : TypeId} {x y : Operand} {A : Option Addr} {n c n' c' : Nat} {b : Bool} (h : o.op = .binOp .eql t x y t') (ht : P.underlying t = some (.slice e)) (hx : ρ x = .slice A n c) (hy : ρ y = .slice none n' c') (hb : A.isNone = b) : (execOp ρ o).run P W = .ok (.value (.bool b)) W := by
  subst hb
  have hr : (Op.equal t (.slice A n c) (.slice none n' c')).run P W = .ok A.isNone W := by
    unfold Op.equal Op.maxDepth Op.equalIn
    simp only [Sem.run_bind, run_underlying ht, Result.andThen_ok]
    cases A <;> rfl
  unfold execOp; rw [h]
  simp only [hx, hy, Sem.run_bind]
  have hg : (eqGuard .eql t x y (.slice A n c) (.slice none n' c')).run P W = .ok () W := rfl
  rw [hg]
  simp only [Result.andThen_ok, binOp, Sem.run_bind, hr, Sem.run_pure]
/-- a struct of two cells out of memory that lies somewhere -/
theorem run_loadAt2 {t : TypeId} {x : Operand} {a : Addr} {u v : Value} (h : o.op = .load t x) (ht : aggP P t = some true) (hn : szP P t = some 2) (hx : ρ x = .pointer (some a)) (hA : At W (some a) [u, v]) : (execOp ρ o).run P W = .ok (.value (.agg #[u, v])) W := by
  have h0 := hA.at_ 0 u rfl
  have h1 := hA.at_ 1 v rfl
  unfold execOp; rw [h]
  simp only [hx, Instr.loadAt, Instr.sureAddr, loadVar, Sem.run_bind, Sem.run_pure, Result.andThen_ok, run_isAgg ht, if_true, run_size hn, loadCells, loadCellsFrom, load, Sem.run, h0, h1]
  simp [loadCellsFrom, Sem.run_bind, load, Sem.run, h0, h1]
end
end Go.Proofs.YtfjpglohcppjeaaDoor

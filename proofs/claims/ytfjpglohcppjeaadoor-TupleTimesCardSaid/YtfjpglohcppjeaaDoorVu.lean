/- A store into a part of an element of a row. -/
import Derived.Test.YtfjpglohcppjeaaDoorVt
import Derived.Test.YtfjpglohcppjeaaDoorVn
namespace Go.Proofs.YtfjpglohcppjeaaDoor
open Go.RowKit
set_option linter.unusedVariables false
set_option linter.unusedSimpArgs false
section
variable {P : Program} {ops : Array Oper} {L : List Nat} {a0 : Act} {w0 : World} {bor : List Nat} {X0 : List Ent} {us cr kl : List (List Nat)}
  {D : Nat → (Tmp → Value) → (Tmp → Value) → (Nat → Ent) → Prop} {i : Nat} {o : Oper} {ρ : Operand → Value} {β : Tmp → Value} {W : World} {X : Nat → Ent}
theorem dv_storeRowN {t e sz : TypeId} {x y : Operand} {A : Option Addr} {n c m q q' : Nat} {v : Value} {xs : List Value} (h : o.op = .store t x y) (hx : ρ x = .pointer (some ((ad A).add m))) (hy : ρ y = v) (hz : szP P t = some 1) (hn : v.cells = #[v])
    (h1 : v.oneCell' = true) (cx : CtxV ops L a0 w0 bor X0 us D i ρ β W X) (hX : X q = eO e sz (.slice A n c) n xs) (hu : (atV us i).contains q = true) (hm : m < n * sz) (hd : o.dst = none) {xs' : List Value} (hxs : xs.set m v = xs')
    (hc : atV cr i = [q']) (hk : atV kl i = [q]) (hD : ∀ (σ β' : Tmp → Value) (X' : Nat → Ent), (∀ t, σ t = ρ (.tmp t)) → (∀ t, β' t = β t) → X' q' = eO e sz (.slice A n c) n xs' → D i σ β' X') : DoesU P o ρ W (PostV cr kl D i o.dst ρ β W X) := by
  subst hxs
  have hok := cx.ok q hu
  rw [hX] at hok
  have hown : W.ownsRow 0 e sz (.slice A n c) n xs := hok.holds
  obtain ⟨g, rfl⟩ : ∃ g, A = some ⟨g, 0, none⟩ := by
    rcases hown.2 with ⟨hv, hm0⟩ | ⟨g, cap, cur, hv, _⟩
    · subst hm0; rw [Nat.zero_mul] at hm; omega
    · injection hv with h1 h2 h3; exact ⟨g, h1⟩
  have hlen : xs.length = n * sz := hown.1
  have hcell : W.cell? ⟨g, m, none⟩ = some (xs[m]'(by omega)) := by
    rw [hown.cellAt m (by omega)]
    exact List.getElem?_eq_getElem (by omega)
  have hfz := hown.frozenAt m
  have hst := (hown.stored m v).1
  have hadd : (ad (some ⟨g, 0, none⟩)).add m = ⟨g, m, none⟩ := by rw [ad, Option.getD_some, Addr.add_lit, Nat.zero_add]
  have hrun : (execOp ρ o).run P W = .ok .skip (W.setCell ⟨g, m, none⟩ v) := by
    unfold execOp; rw [h]
    have hsz : v.cells.size = 1 := by rw [hn]; rfl
    simp only [hx, hy, hadd, Instr.storeAt, Instr.sureAddr, storeVar, Sem.run_bind, Sem.run_pure, Result.andThen_ok, run_size hz, hsz, ne_eq, not_true_eq_false, if_false]
    have e1 : (storeCells ⟨g, m, none⟩ v.cells.toList 0).run P W = .ok () (W.setCell ⟨g, m, none⟩ v) := by
      rw [hn]
      have hs1 : (store ((⟨g, m, none⟩ : Addr).add 0) v).run P W = .ok () (W.setCell ⟨g, m, none⟩ v) := by
        rw [Addr.add_lit]
        unfold store
        cases v <;> first | (simp [Value.oneCell'] at h1; done) | (simp [Sem.run, hcell, hfz])
      show (storeCells ⟨g, m, none⟩ [v] 0).run P W = _
      unfold storeCells
      simp only [Sem.run_bind, hs1, Result.andThen_ok]
      rfl
    rw [e1]
    rfl
  refine DoesU.skip hrun ⟨[eO e sz (.slice (some ⟨g, 0, none⟩) n c) n (xs.set m v)], by rw [hc]; rfl, ⟨?_, fun e' he => ?_, List.pairwise_singleton _ _⟩, fun σ β' X' hs hv hb' hbv hx' hN => hD σ β' X' (fun t => hs t (by rw [hd]; simp)) (fun t => hb' t (by rw [hd]; simp)) ?_⟩
  · rw [hk]
    simp only [List.flatMap_cons, List.flatMap_nil, List.append_nil, hX]
    exact (Upd.refl _ W).set (.inl (by simp [eO, Value.ownBlock])) v
  · rw [List.mem_singleton] at he
    subst he
    refine ⟨hst, eO_loc _ _ _ _ _, fun k hk' => ?_⟩
    have hkg : k = g := by simpa [eO, Value.ownBlock] using hk'
    subst hkg
    refine ⟨.inl ?_, own0_block hst k (by simp [Value.ownBlock])⟩
    rw [hk]
    simp [hX, eO, Value.ownBlock]
  · rw [hc] at hN
    exact (List.cons.inj hN).1
/-- a whole array, known as a list -/
theorem run_loadAr {t t' : TypeId} {x : Operand} {b n : Nat} {xs : List Value} (h : o.op = .load t x) (ht : aggP P t = some true) (hn : szP P t = some n) (hx : ρ x = .pointer (some ⟨b, 0, none⟩)) (hb : Blk W b t' xs.toArray) (hl : xs.length = n) :
    (execOp ρ o).run P W = .ok (.value (.agg xs.toArray)) W :=
  run_loadB h ht hn hx hb (by simp [hl]) (by simp [← hl])
theorem putC_all : ∀ (ys pre suf : List Value), ys.length = suf.length → putC (pre ++ suf).toArray pre.length ys = (pre ++ ys).toArray
  | [], pre, suf, h => by
    have : suf = [] := List.eq_nil_of_length_eq_zero h.symm
    subst this; rfl
  | y :: ys, pre, [], h => by simp at h
  | y :: ys, pre, z :: suf, h => by
    rw [putC]
    have e : (pre ++ z :: suf).toArray.setIfInBounds pre.length y = ((pre ++ [y]) ++ suf).toArray := by simp
    rw [e, show pre.length + 1 = (pre ++ [y]).length by simp, putC_all ys (pre ++ [y]) suf (by simpa using h)]
    simp
/-- a whole array is stored over another -/
theorem dv_storeL {t t' : TypeId} {x y : Operand} {b n q q' : Nat} {xs ys : List Value} (h : o.op = .store t x y) (hx : ρ x = .pointer (some ⟨b, 0, none⟩)) (hy : ρ y = .agg ys.toArray) (hz : szP P t = some n) (hl : ys.length = n) (hl0 : xs.length = n)
    (h1 : ∀ v ∈ ys, v.oneCell' = true) (c : CtxV ops L a0 w0 bor X0 us D i ρ β W X) (hX : X q = eB b t' xs.toArray) (hu : (atV us i).contains q = true) (hd : o.dst = none)
    (hc : atV cr i = [q']) (hk : atV kl i = [q]) (hD : ∀ (σ β' : Tmp → Value) (X' : Nat → Ent), (∀ t, σ t = ρ (.tmp t)) → (∀ t, β' t = β t) → X' q' = eB b t' ys.toArray → D i σ β' X') : DoesU P o ρ W (PostV cr kl D i o.dst ρ β W X) :=
  dv_store h hx hy hz (by simp [Value.cells, hl]) (by simpa [Value.cells] using h1) c hX hu (by simp [hl0]) (by have := putC_all ys [] xs (by rw [hl, hl0]); simpa [Value.cells] using this) hd hc hk hD
theorem results_cell {fn : Func} {tmps : Array Value} {a t t' : TypeId} {b n : Nat} {cs : Array Value} (hr : fn.results = #[.cell a t]) (ha : tmps.getD a undef = .pointer (some ⟨b, 0, none⟩)) (ht : aggP P t = some true) (hn : szP P t = some n) (hb : Blk W b t' cs) (hs : cs.size = n) :
    (results fn tmps).run P W = .ok (.agg cs) W := by
  have h1 : (loadVar t ⟨b, 0, none⟩).run P W = .ok (.agg cs) W := by
    subst hs
    simp only [loadVar, Sem.run_bind, Result.andThen_ok, run_isAgg ht, if_true, run_size hn, loadCells]
    rw [run_loadCells hb cs.size 0 #[] (by omega)]
    simp
  unfold results
  rw [hr]
  simp only [Array.getD_eq_getD_getElem?] at ha
  simp [ha, asAddr, h1]
theorem results_tmp {fn : Func} {tmps : Array Value} {t : Tmp} {v : Value} (hr : fn.results = #[.tmp t]) (hv : tmps.getD t undef = v) : (results fn tmps).run P W = .ok v W := by
  unfold results
  rw [hr]
  simp only [Array.getD_eq_getD_getElem?] at hv
  simp [hv]
end
end Go.Proofs.YtfjpglohcppjeaaDoor

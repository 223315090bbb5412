/- append of a string onto a row of bytes: where the row lies then. -/
import Derived.Test.YtfjpglohcppjeaaDoorSbc
namespace Go.Proofs.YtfjpglohcppjeaaDoor
open Go.RowKit
set_option linter.unusedVariables false
set_option linter.unusedSimpArgs false

theorem own_lower {w : World} {base : Nat} {e : TypeId} {sz : Nat} {v : Value} {n : Nat} {xs : List Value} (h : w.ownsRow base e sz v n xs) : w.ownsRow 0 e sz v n xs := by
  refine ⟨h.1, ?_⟩
  rcases h.2 with hn | ⟨g, cap, cur, hv, _, rest⟩
  · exact .inl hn
  · exact .inr ⟨g, cap, cur, hv, Nat.zero_le _, rest⟩
theorem run_append_str1 {P : Program} (w : World) (t u ty e : TypeId) (i : TypeInfo) (ht : P.underlying t = some (.slice e)) (hu : P.underlying u = some .string) (hi : P.info? e = some i) (hz : i.zero = some (.int .u8 0))
    (hsize : i.size = 1) (hby : i.bytes = 1) (v : Value) (n : Nat) (xs : List Value) (hown : w.ownsRow 0 e 1 v n xs) (s : ByteArray) (h63 : n + s.size ≤ maxLen) (hbytes : n + s.size ≤ 140737488355328) :
    ∃ v' w', (Builtin.append_ #[t, u] ty #[v, .string s]).run P w = .ok v' w' ∧ w'.ownsRow 0 e 1 v' (n + s.size) (xs ++ Lib.strCells s) ∧ w.grownBy w' v.ownBlock ∧ (∀ k, v'.ownBlock = some k → v.ownBlock = some k ∨ w.heap.size ≤ k) := by
  have hsm : n + s.size ≤ 9223372036854775807 := by simp only [maxLen] at h63; omega
  have h1 := hown.1
  rcases hown.2 with ⟨rfl, rfl⟩ | ⟨g, cap, cur, rfl, hbg, hg, hnc, hcm, hcs, htake⟩
  · obtain ⟨v', w', hr, h2, h3, h4⟩ := Lib.run_append_own_string (P := P) w w.heap.size t u ty e i ht hu hi hz hsize hby _ _ xs ⟨hown.1, .inl ⟨rfl, rfl⟩⟩ s h63 hbytes (Nat.le_refl _)
    exact ⟨v', w', hr, own_lower h2, h3, fun k hk => .inr (own_block h2 k hk)⟩
  · obtain ⟨v', w', hr, h2, h3, h4⟩ := Lib.run_append_own_string (P := P) w 0 t u ty e i ht hu hi hz hsize hby _ _ xs hown s h63 hbytes (Nat.zero_le _)
    refine ⟨v', w', hr, h2, h3, fun k hk => ?_⟩
    by_cases hroom : n + s.size ≤ cap
    · have hr' := Lib.run_append_room_string (P := P) w t u ty e i ht hu hi hsize g n cap cur hg s hroom (by omega)
      rw [hr'] at hr
      injection hr with e1 e2
      subst e1
      exact .inl hk
    · have hr' := Lib.run_append_grow_string (P := P) w t u ty e i (.int .u8 0) ht hu hi hz ⟨g, 0, none⟩ n cap xs (by rw [hsize]; simpa using h1) (hown.cells (g := g) rfl) s (by omega) (by omega) (by rw [hby]; exact growslice_fits (by omega) (by omega))
      rw [hr'] at hr
      injection hr with e1 e2
      subst e1
      right
      have h5 : some w.heap.size = some k := hk
      injection h5 with h5
      omega
section
variable {P : Program} {ops : Array Oper} {L : List Nat} {a0 : Act} {w0 : World} {bor : List Nat} {X0 : List Ent} {us cr kl : List (List Nat)}
  {D : Nat → (Tmp → Value) → (Tmp → Value) → (Nat → Ent) → Prop} {i : Nat} {o : Oper} {ρ : Operand → Value} {β : Tmp → Value} {W : World} {X : Nat → Ent}
/-- append of a string onto a row of bytes that the call owns -/
theorem dv_appendStr {s x : Operand} {t u : TypeId} {d : Tmp} {q q' : Nat} (ho : o.op = .call { callee := .builtin .append, args := #[s, x], argTypes := #[t, u] })
    {e : TypeId} {inf : TypeInfo} (ht : P.underlying t = some (.slice e)) (hut : P.underlying u = some .string) (hi : P.info? e = some inf) (hz : inf.zero = some (.int .u8 0))
    (hsize : inf.size = 1) (hby : inf.bytes = 1) {v : Value} {n : Nat} {xs : List Value} (hs : ρ s = v) (c : CtxV ops L a0 w0 bor X0 us D i ρ β W X) (hX : X q = eO e 1 v n xs) (hu : (atV us i).contains q = true)
    {str : ByteArray} (hx : ρ x = .string str) (h63 : n + str.size ≤ maxLen) (hbytes : n + str.size ≤ 140737488355328) (hd : o.dst = some d) (hc : atV cr i = [q']) (hk : atV kl i = [q]) {nm : Nat} {xs' : List Value} (hnm : n + str.size = nm) (hxs : xs ++ Lib.strCells str = xs')
    (hD : ∀ (σ β' : Tmp → Value) (X' : Nat → Ent), (∀ t, t ≠ d → σ t = ρ (.tmp t)) → (∀ t, t ≠ d → β' t = β t) → σ d = .slice (sA (β' d)) nm (sC (β' d)) → X' q' = eO e 1 (.slice (sA (β' d)) nm (sC (β' d))) nm xs' → D i σ β' X') :
    DoesU P o ρ W (PostV cr kl D i o.dst ρ β W X) := by
  have hok := c.ok q hu
  rw [hX] at hok
  have hown : W.ownsRow 0 e 1 v n xs := hok.holds
  obtain ⟨v', W', hrun, hown', hg, hat⟩ := run_append_str1 (P := P) W t u o.type e inf ht hut hi hz hsize hby v n xs hown str h63 hbytes
  have he : (execOp ρ o).run P W = .ok (.value v') W' := by
    unfold execOp
    simp only [ho, resolve, invoke, builtin, Sem.run_bind, Sem.run_pure, Result.andThen_ok, List.map_toArray, List.map_cons, List.map_nil, hs, hx, hrun]
  refine DoesU.value he ?_
  subst hnm; subst hxs
  obtain ⟨A', c', rfl, _⟩ := own_form hown'
  have hin : ∀ k, (v.ownBlock = some k) → k ∈ ((atV kl i).flatMap fun q => (X q).fp) := fun k hk' => by
    rw [hk]
    simp only [List.flatMap_cons, List.flatMap_nil, List.append_nil, hX]
    simp [eO, hk']
  refine ⟨[eO e 1 (.slice A' (n + str.size) c') (n + str.size) (xs ++ Lib.strCells str)], by rw [hc]; rfl, ⟨(Upd.refl _ W).grown hg fun k hk' => .inl (hin k hk'), fun e' he => ?_, List.pairwise_singleton _ _⟩, fun σ β' X' hs' hv hb hbv hx' hN => hD σ β' X' (fun t ht => hs' t (by rw [hd]; simpa using ht.symm)) (fun t ht => hb t (by rw [hd]; simpa using ht.symm)) ?_ ?_⟩
  · rw [List.mem_singleton] at he
    subst he
    refine ⟨hown', eO_loc _ _ _ _ _, fun k hk' => ?_⟩
    have h2 : (Value.slice A' (n + str.size) c').ownBlock = some k := by simpa [eO] using hk'
    refine ⟨?_, own0_block hown' k h2⟩
    rcases hat k h2 with h3 | h3
    · exact .inl (hin k h3)
    · exact .inr h3
  · rw [hv d hd, hbv d hd]; rfl
  · rw [hbv d hd]
    rw [hc] at hN
    exact (List.cons.inj hN).1
end
end Go.Proofs.YtfjpglohcppjeaaDoor

/- strings.Builder.WriteString over the one entry. -/
import Derived.Test.YtfjpglohcppjeaaDoorSbe
namespace Go.Proofs.YtfjpglohcppjeaaDoor
open Go.RowKit
set_option linter.unusedVariables false

theorem wpList_append_str {P : Program} {ops : Array Oper} {rest : List Oper} {o : Oper} {a : Act} {Q : Exit → Act → World → Prop} {w : World} (hgd : o.guard = none) (sl x : Operand) (t u : TypeId)
    (ho : o.op = .call { callee := .builtin .append, args := #[sl, x], argTypes := #[t, u] })
    (e : TypeId) (i : TypeInfo) (ht : P.underlying t = some (.slice e)) (hu : P.underlying u = some .string) (hi : P.info? e = some i) (hz : i.zero = some (.int .u8 0))
    (hsize : i.size = 1) (hby : i.bytes = 1)
    (v : Value) (n : Nat) (xs : List Value) (hs : a.eval sl = v) (hown : w.ownsRow 0 e 1 v n xs) (s : ByteArray) (hx : a.eval x = .string s)
    (h63 : n + s.size ≤ maxLen) (hbytes : n + s.size ≤ 140737488355328)
    (h : ∀ v' w', w'.ownsRow 0 e 1 v' (n + s.size) (xs ++ Lib.strCells s) → w.grownBy w' v.ownBlock → (∀ k, v'.ownBlock = some k → v.ownBlock = some k ∨ w.heap.size ≤ k) → wpList P ops Q rest (a.put o.dst v') w') : wpList P ops Q (o :: rest) a w := by
  refine wpList_plain hgd fun K hK => ?_
  obtain ⟨v', w', hr, h2, h3, h4⟩ := run_append_str1 (P := P) w t u o.type e i ht hu hi hz hsize hby v n xs hown s h63 hbytes
  unfold Oper.wp execOp
  simp only [ho, resolve, invoke, builtin, Sem.run_bind, Sem.run_pure, Result.andThen_ok, List.map_toArray, List.map_cons, List.map_nil, hs, hx, hr]
  exact hK _ _ (h v' w' h2 h3 h4)

theorem Tryd.infoU8 : (Tryd.prog.info? 5).map (fun i => (i.zero, i.size, i.bytes)) = some (some (.int .u8 0), 1, 1) := by kernel_rfl
/-- what a write leaves -/
def SbPost (b : Nat) (r : Option Nat) (xs : List Value) (w w' : World) : Prop := ∃ r', SbAt w' b r' xs ∧ Upd (b :: r.toList) w w' ∧ ∀ k, r' = some k → r = some k ∨ w.heap.size ≤ k
set_option maxHeartbeats 2000000 in
set_option maxRecDepth 100000 in
theorem sbw_any (b : Nat) (r : Option Nat) (xs : List Value) (s : ByteArray) (w : World) (h : SbAt w b r xs) (hlen : xs.length + s.size ≤ 1000000) :
    Calls Tryd.prog 89 #[.pointer (some ⟨b, 0, none⟩), .string s] w fun e w' => e = .returned (.tuple #[.int .i64 s.size, .nilIface]) ∧ SbPost b r (xs ++ Lib.strCells s) w w' := by
  obtain ⟨i0, hi, hz0, hz1, hz2⟩ := info_parts Tryd.infoU8
  have hnb := h.ne
  obtain ⟨p, v, hbk0, hp, hown0, hr⟩ := h
  subst hr
  go_enter Tryd.func89, Tryd.ntmps89
  go_wp2_with fail
  refine (sbcheck_any b p v w hbk0 hp).mono ?_
  rintro e w1 ⟨rfl, hbk, hb1⟩
  have hown : w1.ownsRow 0 5 1 v xs.length xs := eO_loc 5 1 v xs.length xs w w1 (fun k hk => by
    have h5 : v.ownBlock = some k := by simpa [eO] using hk
    exact hb1.block k (own0_block hown0 k h5) (by simp; intro e; exact hnb (by rw [h5, e]))) hown0
  have c0 : w1.cell? ⟨b, 0, none⟩ = some (.pointer (some ⟨b, 0, none⟩)) := hbk.cell 0
  have c1 : w1.cell? ⟨b, 1, none⟩ = some v := hbk.cell 1
  go_wp2_with (at_builtin; refine wpList_append_str rfl _ _ 42 9 rfl 5 i0 Tryd.underlying42 Tryd.underlying9 hi hz0 hz1 hz2 _ _ _ rfl hown s rfl ?c3 ?c4 ?_)
  case c3 => unfold maxLen; omega
  case c4 => omega
  intro v' w2 hown' hgrow hat
  have hb2 : Blk w2 b 143 #[.pointer (some ⟨b, 0, none⟩), v] := hbk.grown hgrow (own_ne hown hbk (by decide))
  have d0 : w2.cell? ⟨b, 0, none⟩ = some (.pointer (some ⟨b, 0, none⟩)) := hb2.cell 0
  have d1 : w2.cell? ⟨b, 1, none⟩ = some v := hb2.cell 1
  have f1 : w2.frozen? ⟨b, 1, none⟩ = false := hb2.frozen 1
  obtain ⟨ao, n', cap, rfl⟩ : ∃ ao n' cap, v' = .slice ao n' cap := by
    rcases hown'.2 with ⟨hv, _⟩ | ⟨g, cap, cur, hv, _⟩
    · exact ⟨_, _, _, hv⟩
    · exact ⟨_, _, _, hv⟩
  go_wp2
  go_ret2
  refine ⟨rfl, _, ⟨_, _, hb2.set_ 1 _, .inr rfl, own_set (by simpa [Lib.strCells_length] using hown') (own_ne hown' hb2 (by decide)) 1 _, rfl⟩, ?_, fun k hk => ?_⟩
  · exact ((hb1.mono (fun k _ hk => by simp at hk; simp [hk])).grown hgrow (fun k hk => .inl (by simp [hk]))).set (p := ⟨b, 1, none⟩) (.inl (by simp)) _
  · rcases hat k hk with h | h
    · exact .inl h
    · exact .inr (Nat.le_trans hb1.size h)
end Go.Proofs.YtfjpglohcppjeaaDoor

/- the walk of PagePuts. -/
import Derived.Test.YtkkldciofndedaaDoAll
namespace Go.Proofs.Ytkkldciofndedaa
open Go.RowKit
set_option linter.unusedVariables false

set_option maxRecDepth 100000 in
set_option maxHeartbeats 8000000 in
theorem pageputs_any (kp lp : Int) (Ap : Option Addr) (cp : Nat) (sp : List ByteArray) (kA lA : Int) (Aa : Option Addr) (ca : Nat) (sa : List ByteArray) (pg slot : Int) (s0 : ByteArray) (lsn from_ : Int) (w : World)
    (hp : At w Ap (sp.map Value.string)) (hlp : sp.length ≤ 9223372036854775807) (hsp : ∀ s ∈ sp, s.size ≤ 9223372036854775807) (ha : At w Aa (sa.map Value.string)) (hla : sa.length ≤ 9223372036854775807) (hs0 : s0.size ≤ 9223372036854775807) :
    Calls Try.prog 5 #[.agg #[.int .i64 kp, .int .i64 lp, .slice Ap sp.length cp], .agg #[.int .i64 kA, .int .i64 lA, .slice Aa sa.length ca], .agg #[.int .i64 pg, .int .i64 slot, .string s0, .int .i64 lsn, .int .i64 from_]] w (Ret1 (.bool true) w) := by
  have HP := Lib.hid hp; clear hp
  have HA := Lib.hid ha; clear ha
  have HSP := Lib.hid hsp; clear hsp
  obtain ⟨k2, hk2⟩ : ∃ x, x = kindF kA := ⟨_, rfl⟩
  obtain ⟨l2, hl2⟩ : ∃ x, x = lsnF lA := ⟨_, rfl⟩
  obtain ⟨I2, hI2⟩ : ∃ x, x = mkL kA lA sa := ⟨_, rfl⟩
  obtain ⟨I1, hI1⟩ : ∃ x, x = rawL sp (min sp.length 26) := ⟨_, rfl⟩
  have hr2 : rightB k2 l2 I2 = true := by rw [hk2, hl2, hI2]; exact mkL_right kA lA sa
  have HS2 := Lib.hid (right_small hr2)
  have h24 : I2.length ≤ 24 := (right_parts hr2).2.2.1.1
  have hI26 := rawL_small sp (min sp.length 26) (by omega)
  rw [← hI1] at hI26
  have HS1 : Hid (Small I1) := Lib.hid ⟨by omega, fun s hs => by have := hI26.2 s hs; omega⟩
  have h26 : I1.length ≤ 26 := hI26.1
  have HM := Lib.hid (show ∀ (w : World), At w Aa (sa.map Value.string) → Calls Try.prog 14 #[.agg #[.int .i64 kA, .int .i64 lA, .slice Aa sa.length ca]] w (PgOne k2 l2 I2 w) by
    rw [hk2, hl2, hI2]; exact fun w h => lmade_any kA lA Aa _ ca sa w rfl h hla)
  have HW := Lib.hid (show ∀ (w : World), At w Ap (sp.map Value.string) → Calls Try.prog 20 #[.agg #[.int .i64 kp, .int .i64 lp, .slice Ap sp.length cp]] w (PgOne kp lp I1 w) by
    rw [hI1]; exact fun w h => raw_any kp lp Ap _ cp sp w rfl h hlp HSP.out)
  clear hk2 hl2 hI2 hI1 hr2 hI26
  obtain ⟨X, hX, hX0, hXs, hXn⟩ := cut_min s0 500 500 rfl
  obtain ⟨x, hx⟩ : ∃ x, x = cutN s0 500 := ⟨_, rfl⟩
  have hxs : x.size ≤ 500 := by rw [hx]; exact cutN_size s0 500
  rw [← hx] at hX
  have HX := Lib.hid hX
  clear hX hx
  go_enter Try.func5, Try.ntmps5
  go_wp2_with fail
  refine (sanity_any _).mono ?_
  rintro e w1 ⟨rfl, hx⟩
  have B0 : Hid (Blk w1 (w.heap.size) 26 #[.int .i64 kp, .int .i64 lp, .slice Ap sp.length cp]) := Lib.hid ((((Blk.new' (by simp)).alloc _).alloc _).ext hx)
  have B1 : Hid (Blk w1 (w.heap.size + 1) 24 #[.int .i64 kA, .int .i64 lA, .slice Aa sa.length ca]) := Lib.hid (((Blk.new' (by simp)).alloc _).ext hx)
  have B2 : Hid (Blk w1 (w.heap.size + 1 + 1) 43 #[.int .i64 pg, .int .i64 slot, .string s0, .int .i64 lsn, .int .i64 from_]) := Lib.hid ((Blk.new' (by simp)).ext hx)
  have X1 := Lib.hid ((((Ext.refl w).alloc _).alloc _).alloc _ |>.trans hx)
  clear hx
  go_wp2_with fail
  refine wp_region_U (by kernel_rfl) [0, 1, 0, 7, 15, 0, 63] [6] (fun kz W => match kz with | _ => Ext w1 W) (fun ix v σ W => match ix with | 0 => v = .agg #[.int .i64 kp, .int .i64 lp, .slice Ap sp.length cp] | 1 => ∃ (A23 : Option Addr) (c23 : Nat), v = .agg #[.int .i64 kp, .int .i64 lp, .slice A23 I1.length c23] ∧ W.ownsRow 0 9 1 (.slice A23 I1.length c23) I1.length (I1.map Value.string) | 2 => v = .agg #[.int .i64 kA, .int .i64 lA, .slice Aa sa.length ca] | 3 => ∃ (A25 : Option Addr) (c25 : Nat), v = .agg #[.int .i64 k2, .int .i64 l2, .slice A25 I2.length c25] ∧ W.ownsRow 0 9 1 (.slice A25 I2.length c25) I2.length (I2.map Value.string) | 4 => ∃ (A23 : Option Addr) (c23 : Nat) (A25 : Option Addr) (c25 : Nat), v = .agg #[.int .i64 kp, .int .i64 lp, .slice A23 I1.length c23, .int .i64 k2, .int .i64 l2, .slice A25 I2.length c25] ∧ W.ownsRow 0 9 1 (.slice A23 I1.length c23) I1.length (I1.map Value.string) ∧ W.ownsRow 0 9 1 (.slice A25 I2.length c25) I2.length (I2.map Value.string) | 5 => NewA 6 45 w1.heap.size v W | 6 => ∃ (B : Nat) (A23 : Option Addr) (c23 : Nat) (A25 : Option Addr) (c25 : Nat), σ 8 = .pointer (some ⟨B, 0, none⟩) ∧ w1.heap.size ≤ B ∧ Blk W B 45 #[.int .i64 kp, .int .i64 lp, .slice A23 I1.length c23, .int .i64 k2, .int .i64 l2, .slice A25 I2.length c25] ∧ W.ownsRow 0 9 1 (.slice A23 I1.length c23) I1.length (I1.map Value.string) ∧ W.ownsRow 0 9 1 (.slice A25 I2.length c25) I2.length (I2.map Value.string) | _ => True) (by kernel_rfl) (by kernel_rfl) (by decide) (by kernel_rfl) ?_ ?_ ?_ ?_ ?_ ?_ ?_
  · intro ix v σ σ' W hs h
    match ix, hs, h with
    | 0, hs, h => exact h
    | 1, hs, h => exact h
    | 2, hs, h => exact h
    | 3, hs, h => exact h
    | 4, hs, h => exact h
    | 5, hs, h => exact h
    | 6, hs, h => 
      have e8 := hs 5 8 (by kernel_rfl)
      simp only [e8] at h; exact h
    | _ + 7, _, _ => trivial
  · exact (Ext.refl w1).drew
  · intro kz W W' h hx
    match kz, h with
    | _, h => exact h.trans hx
  · intro ix v σ W W' h hx
    match ix, h with
    | 0, h => exact h
    | 1, h => exact let ⟨A23, c23, he, ho23⟩ := h; ⟨A23, c23, he, own_ext ho23 hx⟩
    | 2, h => exact h
    | 3, h => exact let ⟨A25, c25, he, ho25⟩ := h; ⟨A25, c25, he, own_ext ho25 hx⟩
    | 4, h => exact let ⟨A23, c23, A25, c25, he, ho23, ho25⟩ := h; ⟨A23, c23, A25, c25, he, own_ext ho23 hx, own_ext ho25 hx⟩
    | 5, h => exact NewA.ext h hx
    | 6, h => exact let ⟨B, A23, c23, A25, c25, he, hb, hk, ho23, ho25⟩ := h; ⟨B, A23, c23, A25, c25, he, hb, Blk.ext hk hx, own_ext ho23 hx, own_ext ho25 hx⟩
    | _ + 7, _ => trivial
  · refine ⟨⟨⟨⟨⟨⟨⟨trivial, ?_⟩, ?_⟩, ?_⟩, ?_⟩, ?_⟩, ?_⟩, ?_⟩
    · intro _ ρ W kz hS hJ hkl hbt hout hpre hpreN
      obtain rfl : kz = 0 := by have := hbt 0 0 (by kernel_rfl); omega
      have hx : Ext _ W := hJ
      refine GSay.none rfl ?_
      have f3 : ρ (.tmp 3) = .pointer (some ⟨w.heap.size, 0, none⟩) := hout 3 (by kernel_rfl)
      exact DoesU.value (v := .agg #[.int .i64 kp, .int .i64 lp, .slice Ap sp.length cp]) (w' := W) (by simp [go_sem, f3, (show W.cell? ⟨w.heap.size, 0, none⟩ = some (.int .i64 kp) from ((B0.out.ext hJ)).cell 0), (show W.cell? ⟨w.heap.size, 1, none⟩ = some (.int .i64 lp) from ((B0.out.ext hJ)).cell 1), (show W.cell? ⟨w.heap.size, 2, none⟩ = some (.slice Ap sp.length cp) from ((B0.out.ext hJ)).cell 2)]) ⟨rfl, Ext.refl _⟩
    · intro _ ρ W kz hS hJ hkl hbt hout hpre hpreN
      obtain rfl : kz = 0 := by have := hbt 0 0 (by kernel_rfl); omega
      have hx : Ext _ W := hJ
      refine GSay.none rfl ?_
      have f22 : ρ (.tmp 22) = .agg #[.int .i64 kp, .int .i64 lp, .slice Ap sp.length cp] := hpre 0 22 (by kernel_rfl)
      refine DoesU.call (f := 20) (args := #[.agg #[.int .i64 kp, .int .i64 lp, .slice Ap sp.length cp]]) (w' := W) (by simp [go_sem, hS.func, f22]) ?_
      refine (HW.out _ (HP.out.ext (X1.out.trans hx))).mono ?_
      rintro e w6 ⟨A23, c23, rfl, ho23, hx6⟩
      exact ⟨_, rfl, ⟨A23, c23, rfl, own_mono ho23 (Nat.zero_le _)⟩, hx6⟩
    · intro _ ρ W kz hS hJ hkl hbt hout hpre hpreN
      obtain rfl : kz = 0 := by have := hbt 0 0 (by kernel_rfl); omega
      have hx : Ext _ W := hJ
      refine GSay.none rfl ?_
      have f4 : ρ (.tmp 4) = .pointer (some ⟨w.heap.size + 1, 0, none⟩) := hout 4 (by kernel_rfl)
      exact DoesU.value (v := .agg #[.int .i64 kA, .int .i64 lA, .slice Aa sa.length ca]) (w' := W) (by simp [go_sem, f4, (show W.cell? ⟨w.heap.size + 1, 0, none⟩ = some (.int .i64 kA) from ((B1.out.ext hJ)).cell 0), (show W.cell? ⟨w.heap.size + 1, 1, none⟩ = some (.int .i64 lA) from ((B1.out.ext hJ)).cell 1), (show W.cell? ⟨w.heap.size + 1, 2, none⟩ = some (.slice Aa sa.length ca) from ((B1.out.ext hJ)).cell 2)]) ⟨rfl, Ext.refl _⟩
    · intro _ ρ W kz hS hJ hkl hbt hout hpre hpreN
      obtain rfl : kz = 0 := by have := hbt 0 0 (by kernel_rfl); omega
      have hx : Ext _ W := hJ
      refine GSay.none rfl ?_
      have f24 : ρ (.tmp 24) = .agg #[.int .i64 kA, .int .i64 lA, .slice Aa sa.length ca] := hpre 2 24 (by kernel_rfl)
      refine DoesU.call (f := 14) (args := #[.agg #[.int .i64 kA, .int .i64 lA, .slice Aa sa.length ca]]) (w' := W) (by simp [go_sem, hS.func, f24]) ?_
      refine (HM.out _ (HA.out.ext (X1.out.trans hx))).mono ?_
      rintro e w6 ⟨A25, c25, rfl, ho25, hx6⟩
      exact ⟨_, rfl, ⟨A25, c25, rfl, own_mono ho25 (Nat.zero_le _)⟩, hx6⟩
    · intro _ ρ W kz hS hJ hkl hbt hout hpre hpreN
      refine GSay.none rfl ?_
      obtain ⟨A23, c23, f23, ho23⟩ := hpre 1 23 (by kernel_rfl)
      obtain ⟨A25, c25, f25, ho25⟩ := hpre 3 25 (by kernel_rfl)
      exact DoesU.value (v := .agg #[.int .i64 kp, .int .i64 lp, .slice A23 I1.length c23, .int .i64 k2, .int .i64 l2, .slice A25 I2.length c25]) (w' := W) (by simp [go_sem, f23, f25]) ⟨⟨A23, c23, A25, c25, rfl, ho23, ho25⟩, Ext.refl _⟩
    · intro _ ρ W kz hS hJ hkl hbt hout hpre hpreN
      obtain rfl : kz = 0 := by have := hbt 0 0 (by kernel_rfl); omega
      have hx : Ext _ W := hJ
      refine GSay.none rfl ?_
      exact DoesU.value (v := .pointer (some ⟨W.heap.size, 0, none⟩)) (w' := W.alloc (.cells #[.int .i64 0, .int .i64 0, .slice none 0 0, .int .i64 0, .int .i64 0, .slice none 0 0] 45)) (by simp [go_sem]) ⟨NewA.new hx.size, (Ext.refl W).alloc _⟩
    · intro hz; exact absurd (by decide) hz
  · refine ⟨trivial, ?_⟩
    · intro ρ W hS hJ hout hpre hpreN
      refine ⟨rfl, ?_⟩
      obtain ⟨B8, cs8, f8, hb8, hk8, hn8⟩ := hpre 5 8 (by kernel_rfl)
      obtain ⟨A23, c23, A25, c25, f26, ho23, ho25⟩ := hpre 4 26 (by kernel_rfl)
      obtain ⟨y0, y1, y2, y3, y4, y5, rfl⟩ := arr6 hn8
      have c0 : W.cell? ⟨B8, 0, none⟩ = some y0 := hk8.cell 0; have z0 := hk8.frozen 0
      have c1 : W.cell? ⟨B8, 1, none⟩ = some y1 := hk8.cell 1; have z1 := hk8.frozen 1
      have c2 : W.cell? ⟨B8, 2, none⟩ = some y2 := hk8.cell 2; have z2 := hk8.frozen 2
      have c3 : W.cell? ⟨B8, 3, none⟩ = some y3 := hk8.cell 3; have z3 := hk8.frozen 3
      have c4 : W.cell? ⟨B8, 4, none⟩ = some y4 := hk8.cell 4; have z4 := hk8.frozen 4
      have c5 : W.cell? ⟨B8, 5, none⟩ = some y5 := hk8.cell 5; have z5 := hk8.frozen 5
      have hU : Upd [B8] W ((((((W.setCell ⟨B8, 0, none⟩ (.int .i64 kp)).setCell ⟨B8, 1, none⟩ (.int .i64 lp)).setCell ⟨B8, 2, none⟩ (.slice A23 I1.length c23)).setCell ⟨B8, 3, none⟩ (.int .i64 k2)).setCell ⟨B8, 4, none⟩ (.int .i64 l2)).setCell ⟨B8, 5, none⟩ (.slice A25 I2.length c25)) := (((((((Upd.refl _ _).set (.inl (by simp)) _).set (.inl (by simp)) _).set (.inl (by simp)) _).set (.inl (by simp)) _).set (.inl (by simp)) _).set (.inl (by simp)) _)
      refine DoesU.skip (w' := ((((((W.setCell ⟨B8, 0, none⟩ (.int .i64 kp)).setCell ⟨B8, 1, none⟩ (.int .i64 lp)).setCell ⟨B8, 2, none⟩ (.slice A23 I1.length c23)).setCell ⟨B8, 3, none⟩ (.int .i64 k2)).setCell ⟨B8, 4, none⟩ (.int .i64 l2)).setCell ⟨B8, 5, none⟩ (.slice A25 I2.length c25))) (by simp [go_sem, f8, f26, c0, c1, c2, c3, c4, c5, z0, z1, z2, z3, z4, z5]) ⟨⟨B8, A23, c23, A25, c25, f8, hb8, ((((((hk8.set_ 0 _).set_ 1 _).set_ 2 _).set_ 3 _).set_ 4 _).set_ 5 _), own_upd1 ho23 hk8 (by decide) hU, own_upd1 ho25 hk8 (by decide) hU⟩, hJ.upd hU (by simpa using hb8), fun jz u σ hj h => match jz, hj, h with | 0, _, h => h | 1, _, h => let ⟨A23, c23, he, ho23⟩ := h; ⟨A23, c23, he, own_upd1 ho23 hk8 (by decide) hU⟩ | 2, _, h => h | 3, _, h => let ⟨A25, c25, he, ho25⟩ := h; ⟨A25, c25, he, own_upd1 ho25 hk8 (by decide) hU⟩ | 4, _, h => let ⟨A23, c23, A25, c25, he, ho23, ho25⟩ := h; ⟨A23, c23, A25, c25, he, own_upd1 ho23 hk8 (by decide) hU, own_upd1 ho25 hk8 (by decide) hU⟩ | 5, _, h => NewA.set (NewA.set (NewA.set (NewA.set (NewA.set (NewA.set (h)))))) | 6, hj, _ => absurd rfl hj | _ + 7, _, _ => trivial⟩
  intro vs w2 σ hl hσ hD hN hJ
  replace hl := hl.trans (show (idxU _).length = 6 by kernel_rfl)
  rcases vs with _ | ⟨v22, vs⟩; · simp at hl
  rcases vs with _ | ⟨v23, vs⟩; · simp at hl
  rcases vs with _ | ⟨v24, vs⟩; · simp at hl
  rcases vs with _ | ⟨v25, vs⟩; · simp at hl
  rcases vs with _ | ⟨v26, vs⟩; · simp at hl
  rcases vs with _ | ⟨v8, vs⟩; · simp at hl
  obtain rfl : vs = [] := List.eq_nil_of_length_eq_zero (by simpa using hl)
  clear hl
  obtain rfl : v22 = .agg #[.int .i64 kp, .int .i64 lp, .slice Ap sp.length cp] := hD 0 0 v22 (by kernel_rfl) rfl
  obtain ⟨A23, c23, rfl, ho23⟩ := hD 1 1 v23 (by kernel_rfl) rfl
  obtain rfl : v24 = .agg #[.int .i64 kA, .int .i64 lA, .slice Aa sa.length ca] := hD 2 2 v24 (by kernel_rfl) rfl
  obtain ⟨A25, c25, rfl, ho25⟩ := hD 3 3 v25 (by kernel_rfl) rfl
  obtain ⟨A23, c23, A25, c25, rfl, ho23, ho25⟩ := hD 4 4 v26 (by kernel_rfl) rfl
  obtain ⟨B8, cs8, rfl, hb8, hk8, hn8⟩ := hD 5 5 v8 (by kernel_rfl) rfl
  have hz6 := hN 6 (by decide) (by kernel_rfl)
  simp only [] at hz6
  rw [hσ 5 8 _ (by kernel_rfl) rfl] at hz6
  obtain ⟨B', A23, c23, A25, c25, he8, hb', hk8, ho23, ho25⟩ := hz6
  obtain rfl := ptr_inj he8; clear he8 hb'
  clear hD hN hσ
  rw [show dstsU _ = [22, 23, 24, 25, 26, 8] by kernel_rfl]
  simp only [putAll, List.setIfInBounds_toArray, List.set_cons_succ, List.set_cons_zero]
  have HI1 := Lib.hid (At.of_own ho23)
  have HI2 := Lib.hid (At.of_own ho25)
  have HC1 := Lib.hid (own_cap ho23)
  have HC2 := Lib.hid (own_cap ho25)
  have BB := Lib.hid hk8
  replace X1 := Lib.hid (X1.out.trans hJ)
  clear ho23 ho25 hk8
  replace B0 := Lib.hid (B0.out.ext hJ)
  replace B1 := Lib.hid (B1.out.ext hJ)
  replace B2 := Lib.hid (B2.out.ext hJ)
  clear hJ
  have B2_0 : w2.cell? ⟨w.heap.size + 1 + 1, 0, none⟩ = some (.int .i64 pg) := B2.out.cell 0
  have B2_1 : w2.cell? ⟨w.heap.size + 1 + 1, 1, none⟩ = some (.int .i64 slot) := B2.out.cell 1
  have B2_2 : w2.cell? ⟨w.heap.size + 1 + 1, 2, none⟩ = some (.string s0) := B2.out.cell 2
  have B2_3 : w2.cell? ⟨w.heap.size + 1 + 1, 3, none⟩ = some (.int .i64 lsn) := B2.out.cell 3
  have B2_4 : w2.cell? ⟨w.heap.size + 1 + 1, 4, none⟩ = some (.int .i64 from_) := B2.out.cell 4
  have B2_lt : w.heap.size + 1 + 1 < w2.heap.size := B2.out.lt
  have i500 := hX0
  clear hX0
  go_wp2
  obtain ⟨ns, hns⟩ : ∃ a, a = wrap64 ((wrap64 (slot.tmod 26 + 26)).tmod 26 - 1) := ⟨_, rfl⟩
  rw [← hns, ← HX.out]
  clear hns i500 hXs hXn
  clear B2_0 B2_1 B2_2 B2_3 B2_4 B2_lt
  go_loopw [11] (fun v wr => ∃ j : Nat, j ≤ 2 ∧ v = .int .i64 j ∧ Ext w2 wr ∧ Blk wr w2.heap.size 41 #[.int .i64 pg, .int .i64 slot, .string x] ∧ Blk wr (w2.heap.size + 1) 41 #[.int .i64 pg, .int .i64 ns, .string x]) (fun v _ => 2 - (intOf v).toNat)
  case atStart => exact ⟨0, by omega, rfl, ((Ext.refl _).alloc _).alloc _, (Blk.new' (by simp)).alloc _, Blk.new' (by simp)⟩
  case round =>
    obtain ⟨j, hj, rfl, hx, hb9, hb10⟩ := hrel
    have XR := Lib.hid hx
    have E9 := Lib.hid hb9
    have E10 := Lib.hid hb10
    have B2r := Lib.hid (B2.out.ext hx)
    have BBr := Lib.hid (BB.out.ext hx)
    have HI1r := Lib.hid (HI1.out.ext hx)
    have HI2r := Lib.hid (HI2.out.ext hx)
    clear hx hb9 hb10
    rcases Nat.lt_or_ge j 2 with hlt | hge
    · have i1 : (0 : Int) ≤ (j : Int) := by omega
      have i2 : (j : Int) < 2 := by omega
      obtain ⟨kq, lq, Aq, cq, I, q0, q1, q2, hAt, hcap, hsm, hIl⟩ : ∃ kq lq Aq cq I, wr.cell? ⟨B8, j * 3, none⟩ = some (.int .i64 kq) ∧ wr.cell? ⟨B8, j * 3 + 1, none⟩ = some (.int .i64 lq) ∧ wr.cell? ⟨B8, j * 3 + 2, none⟩ = some (.slice Aq I.length cq) ∧
          At wr Aq (I.map Value.string) ∧ I.length ≤ cq ∧ Small I ∧ I.length ≤ 26 := by
        have hj2 : j = 0 ∨ j = 1 := by omega
        rcases hj2 with rfl | rfl
        · exact ⟨kp, lp, _, _, I1, BBr.out.cell 0, BBr.out.cell 1, BBr.out.cell 2, HI1r.out, HC1.out, HS1.out, h26⟩
        · exact ⟨k2, l2, _, _, I2, BBr.out.cell 3, BBr.out.cell 4, BBr.out.cell 5, HI2r.out, HC2.out, HS2.out, by omega⟩
      have HQ := Lib.hid hAt
      have HQc := Lib.hid hcap
      have HQs := Lib.hid hsm
      have hBlt := BBr.out.lt
      obtain ⟨m3, hm3⟩ : ∃ a, a = bits .and .i64 lsn 1023 := ⟨_, rfl⟩
      obtain ⟨m4, hm4⟩ : ∃ a, a = bits .and .i64 from_ 31 := ⟨_, rfl⟩
      obtain ⟨K1, L1, J1, E1, h1⟩ := put_both kq lq I slot x hsm (by omega)
      obtain ⟨K2, L2, J2, E2, h2⟩ := put_both kq lq I ns x hsm (by omega)
      obtain ⟨K3, L3, J3, E3, h3⟩ := do_both kq lq I pg slot x lsn hsm (by omega)
      obtain ⟨K4, L4, J4, E4, h4⟩ := do_both kq lq I pg ns x m3 hsm (by omega)
      have P1 := Lib.hid h1
      have P2 := Lib.hid h2
      have P3 := Lib.hid h3
      have P4 := Lib.hid h4
      have HM3 := Lib.hid hm3
      have HM4 := Lib.hid hm4
      clear hAt hcap hsm h1 h2 h3 h4 hm3 hm4 B2 BB HI1 HI2 HI1r HI2r BBr B0 B1
      have q9 : wr.cell? ⟨w2.heap.size, 0, none⟩ = some (.int .i64 pg) := E9.out.cell 0
      have q9a : wr.cell? ⟨w2.heap.size, 1, none⟩ = some (.int .i64 slot) := E9.out.cell 1
      have q9b : wr.cell? ⟨w2.heap.size, 2, none⟩ = some (.string x) := E9.out.cell 2
      have q9c := E9.out.lt
      go_wp2_with fail
      refine (P1.out.own _ _ _ _ rfl (HQ.out.ext ((Ext.refl _).alloc _))).mono ?_
      rintro e w3 ⟨A13, c13, rfl, ho, hx⟩
      replace E9 := Lib.hid ((E9.out.alloc _).ext hx)
      replace E10 := Lib.hid ((E10.out.alloc _).ext hx)
      replace B2r := Lib.hid ((B2r.out.alloc _).ext hx)
      replace HQ := Lib.hid (HQ.out.ext (((Ext.refl _).alloc _).trans hx))
      replace XR := Lib.hid (XR.out.trans (((Ext.refl _).alloc _).trans hx))
      have C12 : Hid (Blk w3 (wr.heap.size) 26 #[.int .i64 kq, .int .i64 lq, .slice Aq I.length cq]) := Lib.hid ((Blk.new' (by simp)).ext hx)
      have R1 := Lib.hid (At.of_own ho)
      clear ho
      clear hx q0 q1 q2 q9 q9a q9b q9c hBlt
      have C12_0 : w3.cell? ⟨wr.heap.size, 0, none⟩ = some (.int .i64 kq) := C12.out.cell 0
      have C12_1 : w3.cell? ⟨wr.heap.size, 1, none⟩ = some (.int .i64 lq) := C12.out.cell 1
      have C12_2 : w3.cell? ⟨wr.heap.size, 2, none⟩ = some (.slice Aq I.length cq) := C12.out.cell 2
      have C12_lt : wr.heap.size < w3.heap.size := C12.out.lt
      have E10_0 : w3.cell? ⟨w2.heap.size + 1, 0, none⟩ = some (.int .i64 pg) := E10.out.cell 0
      have E10_1 : w3.cell? ⟨w2.heap.size + 1, 1, none⟩ = some (.int .i64 ns) := E10.out.cell 1
      have E10_2 : w3.cell? ⟨w2.heap.size + 1, 2, none⟩ = some (.string x) := E10.out.cell 2
      have E10_lt : w2.heap.size + 1 < w3.heap.size := E10.out.lt
      go_wp2_with fail
      refine (P2.out.own _ _ _ _ rfl (HQ.out.ext ((Ext.refl _).alloc _))).mono ?_
      rintro e w4 ⟨A15, c15, rfl, ho, hx⟩
      replace E9 := Lib.hid ((E9.out.alloc _).ext hx)
      replace E10 := Lib.hid ((E10.out.alloc _).ext hx)
      replace B2r := Lib.hid ((B2r.out.alloc _).ext hx)
      replace C12 := Lib.hid ((C12.out.alloc _).ext hx)
      replace HQ := Lib.hid (HQ.out.ext (((Ext.refl _).alloc _).trans hx))
      replace R1 := Lib.hid (R1.out.ext (((Ext.refl _).alloc _).trans hx))
      replace XR := Lib.hid (XR.out.trans (((Ext.refl _).alloc _).trans hx))
      have C13 : Hid (Blk w4 (w3.heap.size) 26 #[.int .i64 K1, .int .i64 L1, .slice A13 J1.length c13]) := Lib.hid ((Blk.new' (by simp)).ext hx)
      have R2 := Lib.hid (At.of_own ho)
      clear ho
      clear hx C12_0 C12_1 C12_2 C12_lt E10_0 E10_1 E10_2 E10_lt
      have C12_0 : w4.cell? ⟨wr.heap.size, 0, none⟩ = some (.int .i64 kq) := C12.out.cell 0
      have C12_1 : w4.cell? ⟨wr.heap.size, 1, none⟩ = some (.int .i64 lq) := C12.out.cell 1
      have C12_2 : w4.cell? ⟨wr.heap.size, 2, none⟩ = some (.slice Aq I.length cq) := C12.out.cell 2
      have C12_lt : wr.heap.size < w4.heap.size := C12.out.lt
      have E9_0 : w4.cell? ⟨w2.heap.size, 0, none⟩ = some (.int .i64 pg) := E9.out.cell 0
      have E9_1 : w4.cell? ⟨w2.heap.size, 1, none⟩ = some (.int .i64 slot) := E9.out.cell 1
      have E9_2 : w4.cell? ⟨w2.heap.size, 2, none⟩ = some (.string x) := E9.out.cell 2
      have E9_lt : w2.heap.size < w4.heap.size := E9.out.lt
      have B2r_0 : w4.cell? ⟨w.heap.size + 1 + 1, 0, none⟩ = some (.int .i64 pg) := B2r.out.cell 0
      have B2r_1 : w4.cell? ⟨w.heap.size + 1 + 1, 1, none⟩ = some (.int .i64 slot) := B2r.out.cell 1
      have B2r_2 : w4.cell? ⟨w.heap.size + 1 + 1, 2, none⟩ = some (.string s0) := B2r.out.cell 2
      have B2r_3 : w4.cell? ⟨w.heap.size + 1 + 1, 3, none⟩ = some (.int .i64 lsn) := B2r.out.cell 3
      have B2r_4 : w4.cell? ⟨w.heap.size + 1 + 1, 4, none⟩ = some (.int .i64 from_) := B2r.out.cell 4
      have B2r_lt : w.heap.size + 1 + 1 < w4.heap.size := B2r.out.lt
      go_wp2_with fail
      refine (P3.out.own _ _ _ _ rfl (HQ.out.ext ((Ext.refl _).alloc _))).mono ?_
      rintro e w5 ⟨A17, c17, rfl, ho, hx⟩
      replace E9 := Lib.hid ((E9.out.alloc _).ext hx)
      replace E10 := Lib.hid ((E10.out.alloc _).ext hx)
      replace B2r := Lib.hid ((B2r.out.alloc _).ext hx)
      replace C12 := Lib.hid ((C12.out.alloc _).ext hx)
      replace C13 := Lib.hid ((C13.out.alloc _).ext hx)
      replace HQ := Lib.hid (HQ.out.ext (((Ext.refl _).alloc _).trans hx))
      replace R1 := Lib.hid (R1.out.ext (((Ext.refl _).alloc _).trans hx))
      replace R2 := Lib.hid (R2.out.ext (((Ext.refl _).alloc _).trans hx))
      replace XR := Lib.hid (XR.out.trans (((Ext.refl _).alloc _).trans hx))
      have C15 : Hid (Blk w5 (w4.heap.size) 26 #[.int .i64 K2, .int .i64 L2, .slice A15 J2.length c15]) := Lib.hid ((Blk.new' (by simp)).ext hx)
      have R3 := Lib.hid (At.of_own ho)
      clear ho
      clear hx C12_0 C12_1 C12_2 C12_lt E9_0 E9_1 E9_2 E9_lt B2r_0 B2r_1 B2r_2 B2r_3 B2r_4 B2r_lt
      have C12_0 : w5.cell? ⟨wr.heap.size, 0, none⟩ = some (.int .i64 kq) := C12.out.cell 0
      have C12_1 : w5.cell? ⟨wr.heap.size, 1, none⟩ = some (.int .i64 lq) := C12.out.cell 1
      have C12_2 : w5.cell? ⟨wr.heap.size, 2, none⟩ = some (.slice Aq I.length cq) := C12.out.cell 2
      have C12_lt : wr.heap.size < w5.heap.size := C12.out.lt
      have E10_0 : w5.cell? ⟨w2.heap.size + 1, 0, none⟩ = some (.int .i64 pg) := E10.out.cell 0
      have E10_1 : w5.cell? ⟨w2.heap.size + 1, 1, none⟩ = some (.int .i64 ns) := E10.out.cell 1
      have E10_2 : w5.cell? ⟨w2.heap.size + 1, 2, none⟩ = some (.string x) := E10.out.cell 2
      have E10_lt : w2.heap.size + 1 < w5.heap.size := E10.out.lt
      have B2r_0 : w5.cell? ⟨w.heap.size + 1 + 1, 0, none⟩ = some (.int .i64 pg) := B2r.out.cell 0
      have B2r_1 : w5.cell? ⟨w.heap.size + 1 + 1, 1, none⟩ = some (.int .i64 slot) := B2r.out.cell 1
      have B2r_2 : w5.cell? ⟨w.heap.size + 1 + 1, 2, none⟩ = some (.string s0) := B2r.out.cell 2
      have B2r_3 : w5.cell? ⟨w.heap.size + 1 + 1, 3, none⟩ = some (.int .i64 lsn) := B2r.out.cell 3
      have B2r_4 : w5.cell? ⟨w.heap.size + 1 + 1, 4, none⟩ = some (.int .i64 from_) := B2r.out.cell 4
      have B2r_lt : w.heap.size + 1 + 1 < w5.heap.size := B2r.out.lt
      go_wp2_with fail
      rw [← HM3.out]
      refine (P4.out.own _ _ _ _ rfl (HQ.out.ext ((Ext.refl _).alloc _))).mono ?_
      rintro e w6 ⟨A19, c19, rfl, ho, hx⟩
      replace E9 := Lib.hid ((E9.out.alloc _).ext hx)
      replace E10 := Lib.hid ((E10.out.alloc _).ext hx)
      replace B2r := Lib.hid ((B2r.out.alloc _).ext hx)
      replace C12 := Lib.hid ((C12.out.alloc _).ext hx)
      replace C13 := Lib.hid ((C13.out.alloc _).ext hx)
      replace C15 := Lib.hid ((C15.out.alloc _).ext hx)
      replace HQ := Lib.hid (HQ.out.ext (((Ext.refl _).alloc _).trans hx))
      replace R1 := Lib.hid (R1.out.ext (((Ext.refl _).alloc _).trans hx))
      replace R2 := Lib.hid (R2.out.ext (((Ext.refl _).alloc _).trans hx))
      replace R3 := Lib.hid (R3.out.ext (((Ext.refl _).alloc _).trans hx))
      replace XR := Lib.hid (XR.out.trans (((Ext.refl _).alloc _).trans hx))
      have C17 : Hid (Blk w6 (w5.heap.size) 26 #[.int .i64 K3, .int .i64 L3, .slice A17 J3.length c17]) := Lib.hid ((Blk.new' (by simp)).ext hx)
      have R4 := Lib.hid (At.of_own ho)
      clear ho
      clear hx C12_0 C12_1 C12_2 C12_lt E10_0 E10_1 E10_2 E10_lt B2r_0 B2r_1 B2r_2 B2r_3 B2r_4 B2r_lt
      go_wp2_with fail
      refine at_world ?_
      intro w7 hw7
      have hx := Ext.of_eq hw7.symm
      clear hw7
      replace E9 := Lib.hid ((E9.out.alloc _).ext hx)
      replace E10 := Lib.hid ((E10.out.alloc _).ext hx)
      replace B2r := Lib.hid ((B2r.out.alloc _).ext hx)
      replace C12 := Lib.hid ((C12.out.alloc _).ext hx)
      replace C13 := Lib.hid ((C13.out.alloc _).ext hx)
      replace C15 := Lib.hid ((C15.out.alloc _).ext hx)
      replace C17 := Lib.hid ((C17.out.alloc _).ext hx)
      replace HQ := Lib.hid (HQ.out.ext (((Ext.refl _).alloc _).trans hx))
      replace R1 := Lib.hid (R1.out.ext (((Ext.refl _).alloc _).trans hx))
      replace R2 := Lib.hid (R2.out.ext (((Ext.refl _).alloc _).trans hx))
      replace R3 := Lib.hid (R3.out.ext (((Ext.refl _).alloc _).trans hx))
      replace R4 := Lib.hid (R4.out.ext (((Ext.refl _).alloc _).trans hx))
      replace XR := Lib.hid (XR.out.trans (((Ext.refl _).alloc _).trans hx))
      have C19 : Hid (Blk w7 (w6.heap.size) 26 #[.int .i64 K4, .int .i64 L4, .slice A19 J4.length c19]) := Lib.hid ((Blk.new' (by simp)).ext hx)
      clear hx
      refine wp_region_E (by kernel_rfl) [0, 0, 0, 0, 8, 0, 32, 124, 255, 511, 1023, 2047, 2047, 2047, 2047, 18431, 2047, 67583, 255999, 524287, 1048575, 2097151, 4194303, 8388607, 8388607, 8388607, 8388607, 8388607, 142606335, 511705087, 1073741823, 2147483647, 4294967295, 8589934591, 17179869183, 17179869183, 17179869183, 17179869183, 17179869183, 292057776127, 841813590015, 2147483647999, 4398046511103, 8796093022207, 17592186044415] (fun ix v W => match ix with | 0 => v = .agg #[.int .i64 K1, .int .i64 L1, .slice A13 J1.length c13] | 1 => v = .int .i64 E1 | 2 => v = .agg #[.int .i64 kq, .int .i64 lq, .slice Aq I.length cq] | 3 => v = .pointer (some ⟨w2.heap.size, 1, none⟩) | 4 => v = .int .i64 slot | 5 => v = .pointer (some ⟨w2.heap.size, 2, none⟩) | 6 => v = .string x | 7 => ∃ (A94 : Option Addr) (c94 : Nat), v = .agg #[.int .i64 K1, .int .i64 L1, .slice A94 J1.length c94, .int .i64 E1] ∧ W.ownsRow 0 9 1 (.slice A94 J1.length c94) J1.length (J1.map Value.string) | 8 => v = .bool true | 9 => v = .bool false | 10 => v = .bool false | 11 => v = .agg #[.int .i64 K2, .int .i64 L2, .slice A15 J2.length c15] | 12 => v = .int .i64 E2 | 13 => v = .agg #[.int .i64 kq, .int .i64 lq, .slice Aq I.length cq] | 14 => v = .pointer (some ⟨w2.heap.size + 1, 1, none⟩) | 15 => v = .int .i64 ns | 16 => v = .pointer (some ⟨w2.heap.size + 1, 2, none⟩) | 17 => v = .string x | 18 => ∃ (A105 : Option Addr) (c105 : Nat), v = .agg #[.int .i64 K2, .int .i64 L2, .slice A105 J2.length c105, .int .i64 E2] ∧ W.ownsRow 0 9 1 (.slice A105 J2.length c105) J2.length (J2.map Value.string) | 19 => v = .bool true | 20 => v = .bool false | 21 => v = .bool false | 22 => v = .bool false | 23 => v = .agg #[.int .i64 K3, .int .i64 L3, .slice A17 J3.length c17] | 24 => v = .int .i64 E3 | 25 => v = .agg #[.int .i64 kq, .int .i64 lq, .slice Aq I.length cq] | 26 => v = .agg #[.int .i64 pg, .int .i64 slot, .string x] | 27 => v = .pointer (some ⟨w.heap.size + 1 + 1, 3, none⟩) | 28 => v = .int .i64 lsn | 29 => ∃ (A116 : Option Addr) (c116 : Nat), v = .agg #[.int .i64 K3, .int .i64 L3, .slice A116 J3.length c116, .int .i64 E3] ∧ W.ownsRow 0 9 1 (.slice A116 J3.length c116) J3.length (J3.map Value.string) | 30 => v = .bool true | 31 => v = .bool false | 32 => v = .bool false | 33 => v = .bool false | 34 => v = .agg #[.int .i64 K4, .int .i64 L4, .slice A19 J4.length c19] | 35 => v = .int .i64 E4 | 36 => v = .agg #[.int .i64 kq, .int .i64 lq, .slice Aq I.length cq] | 37 => v = .agg #[.int .i64 pg, .int .i64 ns, .string x] | 38 => v = .pointer (some ⟨w.heap.size + 1 + 1, 3, none⟩) | 39 => v = .int .i64 lsn | 40 => v = .int .i64 m3 | 41 => ∃ (A128 : Option Addr) (c128 : Nat), v = .agg #[.int .i64 K4, .int .i64 L4, .slice A128 J4.length c128, .int .i64 E4] ∧ W.ownsRow 0 9 1 (.slice A128 J4.length c128) J4.length (J4.map Value.string) | 42 => v = .bool true | 43 => v = .bool false | 44 => v = .bool false | _ => True) (by kernel_rfl) (by kernel_rfl) ?_ ?_ ?_
      · intro ix v W W' h hx
        match ix, h with
        | 0, h => exact h
        | 1, h => exact h
        | 2, h => exact h
        | 3, h => exact h
        | 4, h => exact h
        | 5, h => exact h
        | 6, h => exact h
        | 7, h => exact let ⟨A94, c94, he, ho94⟩ := h; ⟨A94, c94, he, own_ext ho94 hx⟩
        | 8, h => exact h
        | 9, h => exact h
        | 10, h => exact h
        | 11, h => exact h
        | 12, h => exact h
        | 13, h => exact h
        | 14, h => exact h
        | 15, h => exact h
        | 16, h => exact h
        | 17, h => exact h
        | 18, h => exact let ⟨A105, c105, he, ho105⟩ := h; ⟨A105, c105, he, own_ext ho105 hx⟩
        | 19, h => exact h
        | 20, h => exact h
        | 21, h => exact h
        | 22, h => exact h
        | 23, h => exact h
        | 24, h => exact h
        | 25, h => exact h
        | 26, h => exact h
        | 27, h => exact h
        | 28, h => exact h
        | 29, h => exact let ⟨A116, c116, he, ho116⟩ := h; ⟨A116, c116, he, own_ext ho116 hx⟩
        | 30, h => exact h
        | 31, h => exact h
        | 32, h => exact h
        | 33, h => exact h
        | 34, h => exact h
        | 35, h => exact h
        | 36, h => exact h
        | 37, h => exact h
        | 38, h => exact h
        | 39, h => exact h
        | 40, h => exact h
        | 41, h => exact let ⟨A128, c128, he, ho128⟩ := h; ⟨A128, c128, he, own_ext ho128 hx⟩
        | 42, h => exact h
        | 43, h => exact h
        | 44, h => exact h
        | _ + 45, _ => trivial
      · refine ⟨⟨⟨⟨⟨⟨⟨⟨⟨⟨⟨⟨⟨⟨⟨⟨⟨⟨⟨⟨⟨⟨⟨⟨⟨⟨⟨⟨⟨⟨⟨⟨⟨⟨⟨⟨⟨⟨⟨⟨⟨⟨⟨⟨⟨trivial, ?_⟩, ?_⟩, ?_⟩, ?_⟩, ?_⟩, ?_⟩, ?_⟩, ?_⟩, ?_⟩, ?_⟩, ?_⟩, ?_⟩, ?_⟩, ?_⟩, ?_⟩, ?_⟩, ?_⟩, ?_⟩, ?_⟩, ?_⟩, ?_⟩, ?_⟩, ?_⟩, ?_⟩, ?_⟩, ?_⟩, ?_⟩, ?_⟩, ?_⟩, ?_⟩, ?_⟩, ?_⟩, ?_⟩, ?_⟩, ?_⟩, ?_⟩, ?_⟩, ?_⟩, ?_⟩, ?_⟩, ?_⟩, ?_⟩, ?_⟩, ?_⟩, ?_⟩
        · intro ρ W hS hx hout hpre
          refine GSay.none rfl ?_
          have f13 : ρ (.tmp 13) = .pointer (some ⟨w3.heap.size, 0, none⟩) := hout 13 (by kernel_rfl)
          exact DoesU.value (v := .agg #[.int .i64 K1, .int .i64 L1, .slice A13 J1.length c13]) (w' := W) (by simp [go_sem, f13, (show W.cell? ⟨w3.heap.size, 0, none⟩ = some (.int .i64 K1) from ((C13.out.ext hx)).cell 0), (show W.cell? ⟨w3.heap.size, 1, none⟩ = some (.int .i64 L1) from ((C13.out.ext hx)).cell 1), (show W.cell? ⟨w3.heap.size, 2, none⟩ = some (.slice A13 J1.length c13) from ((C13.out.ext hx)).cell 2)]) ⟨rfl, Ext.refl _⟩
        · intro ρ W hS hx hout hpre
          refine GSay.none rfl ?_
          have f14 : ρ (.tmp 14) = .int .i64 E1 := hout 14 (by kernel_rfl)
          exact DoesU.value (v := .int .i64 E1) (w' := W) (by simp [go_sem, f14]) ⟨rfl, Ext.refl _⟩
        · intro ρ W hS hx hout hpre
          refine GSay.none rfl ?_
          have f12 : ρ (.tmp 12) = .pointer (some ⟨wr.heap.size, 0, none⟩) := hout 12 (by kernel_rfl)
          exact DoesU.value (v := .agg #[.int .i64 kq, .int .i64 lq, .slice Aq I.length cq]) (w' := W) (by simp [go_sem, f12, (show W.cell? ⟨wr.heap.size, 0, none⟩ = some (.int .i64 kq) from ((C12.out.ext hx)).cell 0), (show W.cell? ⟨wr.heap.size, 1, none⟩ = some (.int .i64 lq) from ((C12.out.ext hx)).cell 1), (show W.cell? ⟨wr.heap.size, 2, none⟩ = some (.slice Aq I.length cq) from ((C12.out.ext hx)).cell 2)]) ⟨rfl, Ext.refl _⟩
        · intro ρ W hS hx hout hpre
          refine GSay.none rfl ?_
          have f9 : ρ (.tmp 9) = .pointer (some ⟨w2.heap.size, 0, none⟩) := hout 9 (by kernel_rfl)
          exact DoesU.value (v := .pointer (some ⟨w2.heap.size, 1, none⟩)) (w' := W) (by simp [go_sem, f9]) ⟨rfl, Ext.refl _⟩
        · intro ρ W hS hx hout hpre
          refine GSay.none rfl ?_
          have f90 : ρ (.tmp 90) = .pointer (some ⟨w2.heap.size, 1, none⟩) := hpre 3 90 (by kernel_rfl)
          exact DoesU.value (v := .int .i64 slot) (w' := W) (by simp [go_sem, f90, (show W.cell? ⟨w2.heap.size, 1, none⟩ = some (.int .i64 slot) from ((E9.out.ext hx)).cell 1)]) ⟨rfl, Ext.refl _⟩
        · intro ρ W hS hx hout hpre
          refine GSay.none rfl ?_
          have f9 : ρ (.tmp 9) = .pointer (some ⟨w2.heap.size, 0, none⟩) := hout 9 (by kernel_rfl)
          exact DoesU.value (v := .pointer (some ⟨w2.heap.size, 2, none⟩)) (w' := W) (by simp [go_sem, f9]) ⟨rfl, Ext.refl _⟩
        · intro ρ W hS hx hout hpre
          refine GSay.none rfl ?_
          have f92 : ρ (.tmp 92) = .pointer (some ⟨w2.heap.size, 2, none⟩) := hpre 5 92 (by kernel_rfl)
          exact DoesU.value (v := .string x) (w' := W) (by simp [go_sem, f92, (show W.cell? ⟨w2.heap.size, 2, none⟩ = some (.string x) from ((E9.out.ext hx)).cell 2)]) ⟨rfl, Ext.refl _⟩
        · intro ρ W hS hx hout hpre
          refine GSay.none rfl ?_
          have f89 : ρ (.tmp 89) = .agg #[.int .i64 kq, .int .i64 lq, .slice Aq I.length cq] := hpre 2 89 (by kernel_rfl)
          have f91 : ρ (.tmp 91) = .int .i64 slot := hpre 4 91 (by kernel_rfl)
          have f93 : ρ (.tmp 93) = .string x := hpre 6 93 (by kernel_rfl)
          refine DoesU.call (f := 23) (args := #[.agg #[.int .i64 kq, .int .i64 lq, .slice Aq I.length cq], .int .i64 slot, .string x]) (w' := W) (by simp [go_sem, hS.func, f89, f91, f93]) ?_
          refine (P1.out.ref _ _ _ _ rfl HQc.out (HQ.out.ext hx)).mono ?_
          rintro e w9 ⟨A94, c94, rfl, ho94, hx9⟩
          exact ⟨_, rfl, ⟨A94, c94, rfl, own_mono ho94 (Nat.zero_le _)⟩, hx9⟩
        · intro ρ W hS hx hout hpre
          refine GSay.none rfl ?_
          have f87 : ρ (.tmp 87) = .agg #[.int .i64 K1, .int .i64 L1, .slice A13 J1.length c13] := hpre 0 87 (by kernel_rfl)
          have f88 : ρ (.tmp 88) = .int .i64 E1 := hpre 1 88 (by kernel_rfl)
          obtain ⟨A94, c94, f94, ho94⟩ := hpre 7 94 (by kernel_rfl)
          refine DoesU.call (f := 22) (args := #[.agg #[.int .i64 K1, .int .i64 L1, .slice A13 J1.length c13], .int .i64 E1, .agg #[.int .i64 K1, .int .i64 L1, .slice A94 J1.length c94, .int .i64 E1]]) (w' := W) (by simp [go_sem, hS.func, f87, f88, f94]) ?_
          refine (lsame_any _ _ _ _ _ _ _ _ _ _ _ rfl rfl (R1.out.ext hx) (At.of_own ho94) (by have := P1.out.len; omega)).mono ?_
          rintro e w9 ⟨rfl, hx9⟩
          exact ⟨_, rfl, rfl, hx9⟩
        · intro ρ W hS hx hout hpre
          refine GSay.none rfl ?_
          have f95 : ρ (.tmp 95) = .bool true := hpre 8 95 (by kernel_rfl)
          exact DoesU.value (v := .bool false) (w' := W) (by simp [go_sem, f95]) ⟨rfl, Ext.refl _⟩
        · intro ρ W hS hx hout hpre
          refine GSay.none rfl ?_
          have f96 : ρ (.tmp 96) = .bool false := hpre 9 96 (by kernel_rfl)
          exact DoesU.value (v := .bool false) (w' := W) (by simp [go_sem, f96]) ⟨rfl, Ext.refl _⟩
        · intro ρ W hS hx hout hpre
          have fg : ρ (.tmp 97) = .bool false := hpre 10 97 (by kernel_rfl)
          refine GSay.on (g := 10) (d := 97) rfl rfl fg ?_
          have f15 : ρ (.tmp 15) = .pointer (some ⟨w4.heap.size, 0, none⟩) := hout 15 (by kernel_rfl)
          exact DoesU.value (v := .agg #[.int .i64 K2, .int .i64 L2, .slice A15 J2.length c15]) (w' := W) (by simp [go_sem, f15, (show W.cell? ⟨w4.heap.size, 0, none⟩ = some (.int .i64 K2) from ((C15.out.ext hx)).cell 0), (show W.cell? ⟨w4.heap.size, 1, none⟩ = some (.int .i64 L2) from ((C15.out.ext hx)).cell 1), (show W.cell? ⟨w4.heap.size, 2, none⟩ = some (.slice A15 J2.length c15) from ((C15.out.ext hx)).cell 2)]) ⟨rfl, Ext.refl _⟩
        · intro ρ W hS hx hout hpre
          have fg : ρ (.tmp 97) = .bool false := hpre 10 97 (by kernel_rfl)
          refine GSay.on (g := 10) (d := 97) rfl rfl fg ?_
          have f16 : ρ (.tmp 16) = .int .i64 E2 := hout 16 (by kernel_rfl)
          exact DoesU.value (v := .int .i64 E2) (w' := W) (by simp [go_sem, f16]) ⟨rfl, Ext.refl _⟩
        · intro ρ W hS hx hout hpre
          have fg : ρ (.tmp 97) = .bool false := hpre 10 97 (by kernel_rfl)
          refine GSay.on (g := 10) (d := 97) rfl rfl fg ?_
          have f12 : ρ (.tmp 12) = .pointer (some ⟨wr.heap.size, 0, none⟩) := hout 12 (by kernel_rfl)
          exact DoesU.value (v := .agg #[.int .i64 kq, .int .i64 lq, .slice Aq I.length cq]) (w' := W) (by simp [go_sem, f12, (show W.cell? ⟨wr.heap.size, 0, none⟩ = some (.int .i64 kq) from ((C12.out.ext hx)).cell 0), (show W.cell? ⟨wr.heap.size, 1, none⟩ = some (.int .i64 lq) from ((C12.out.ext hx)).cell 1), (show W.cell? ⟨wr.heap.size, 2, none⟩ = some (.slice Aq I.length cq) from ((C12.out.ext hx)).cell 2)]) ⟨rfl, Ext.refl _⟩
        · intro ρ W hS hx hout hpre
          have fg : ρ (.tmp 97) = .bool false := hpre 10 97 (by kernel_rfl)
          refine GSay.on (g := 10) (d := 97) rfl rfl fg ?_
          have f10 : ρ (.tmp 10) = .pointer (some ⟨w2.heap.size + 1, 0, none⟩) := hout 10 (by kernel_rfl)
          exact DoesU.value (v := .pointer (some ⟨w2.heap.size + 1, 1, none⟩)) (w' := W) (by simp [go_sem, f10]) ⟨rfl, Ext.refl _⟩
        · intro ρ W hS hx hout hpre
          have fg : ρ (.tmp 97) = .bool false := hpre 10 97 (by kernel_rfl)
          refine GSay.on (g := 10) (d := 97) rfl rfl fg ?_
          have f101 : ρ (.tmp 101) = .pointer (some ⟨w2.heap.size + 1, 1, none⟩) := hpre 14 101 (by kernel_rfl)
          exact DoesU.value (v := .int .i64 ns) (w' := W) (by simp [go_sem, f101, (show W.cell? ⟨w2.heap.size + 1, 1, none⟩ = some (.int .i64 ns) from ((E10.out.ext hx)).cell 1)]) ⟨rfl, Ext.refl _⟩
        · intro ρ W hS hx hout hpre
          have fg : ρ (.tmp 97) = .bool false := hpre 10 97 (by kernel_rfl)
          refine GSay.on (g := 10) (d := 97) rfl rfl fg ?_
          have f10 : ρ (.tmp 10) = .pointer (some ⟨w2.heap.size + 1, 0, none⟩) := hout 10 (by kernel_rfl)
          exact DoesU.value (v := .pointer (some ⟨w2.heap.size + 1, 2, none⟩)) (w' := W) (by simp [go_sem, f10]) ⟨rfl, Ext.refl _⟩
        · intro ρ W hS hx hout hpre
          have fg : ρ (.tmp 97) = .bool false := hpre 10 97 (by kernel_rfl)
          refine GSay.on (g := 10) (d := 97) rfl rfl fg ?_
          have f103 : ρ (.tmp 103) = .pointer (some ⟨w2.heap.size + 1, 2, none⟩) := hpre 16 103 (by kernel_rfl)
          exact DoesU.value (v := .string x) (w' := W) (by simp [go_sem, f103, (show W.cell? ⟨w2.heap.size + 1, 2, none⟩ = some (.string x) from ((E10.out.ext hx)).cell 2)]) ⟨rfl, Ext.refl _⟩
        · intro ρ W hS hx hout hpre
          have fg : ρ (.tmp 97) = .bool false := hpre 10 97 (by kernel_rfl)
          refine GSay.on (g := 10) (d := 97) rfl rfl fg ?_
          have f100 : ρ (.tmp 100) = .agg #[.int .i64 kq, .int .i64 lq, .slice Aq I.length cq] := hpre 13 100 (by kernel_rfl)
          have f102 : ρ (.tmp 102) = .int .i64 ns := hpre 15 102 (by kernel_rfl)
          have f104 : ρ (.tmp 104) = .string x := hpre 17 104 (by kernel_rfl)
          refine DoesU.call (f := 23) (args := #[.agg #[.int .i64 kq, .int .i64 lq, .slice Aq I.length cq], .int .i64 ns, .string x]) (w' := W) (by simp [go_sem, hS.func, f100, f102, f104]) ?_
          refine (P2.out.ref _ _ _ _ rfl HQc.out (HQ.out.ext hx)).mono ?_
          rintro e w9 ⟨A105, c105, rfl, ho105, hx9⟩
          exact ⟨_, rfl, ⟨A105, c105, rfl, own_mono ho105 (Nat.zero_le _)⟩, hx9⟩
        · intro ρ W hS hx hout hpre
          have fg : ρ (.tmp 97) = .bool false := hpre 10 97 (by kernel_rfl)
          refine GSay.on (g := 10) (d := 97) rfl rfl fg ?_
          have f98 : ρ (.tmp 98) = .agg #[.int .i64 K2, .int .i64 L2, .slice A15 J2.length c15] := hpre 11 98 (by kernel_rfl)
          have f99 : ρ (.tmp 99) = .int .i64 E2 := hpre 12 99 (by kernel_rfl)
          obtain ⟨A105, c105, f105, ho105⟩ := hpre 18 105 (by kernel_rfl)
          refine DoesU.call (f := 22) (args := #[.agg #[.int .i64 K2, .int .i64 L2, .slice A15 J2.length c15], .int .i64 E2, .agg #[.int .i64 K2, .int .i64 L2, .slice A105 J2.length c105, .int .i64 E2]]) (w' := W) (by simp [go_sem, hS.func, f98, f99, f105]) ?_
          refine (lsame_any _ _ _ _ _ _ _ _ _ _ _ rfl rfl (R2.out.ext hx) (At.of_own ho105) (by have := P2.out.len; omega)).mono ?_
          rintro e w9 ⟨rfl, hx9⟩
          exact ⟨_, rfl, rfl, hx9⟩
        · intro ρ W hS hx hout hpre
          have fg : ρ (.tmp 97) = .bool false := hpre 10 97 (by kernel_rfl)
          refine GSay.on (g := 10) (d := 97) rfl rfl fg ?_
          have f106 : ρ (.tmp 106) = .bool true := hpre 19 106 (by kernel_rfl)
          exact DoesU.value (v := .bool false) (w' := W) (by simp [go_sem, f106]) ⟨rfl, Ext.refl _⟩
        · intro ρ W hS hx hout hpre
          refine GSay.none rfl ?_
          have f97 : ρ (.tmp 97) = .bool false := hpre 10 97 (by kernel_rfl)
          have f107 : ρ (.tmp 107) = .bool false := hpre 20 107 (by kernel_rfl)
          exact DoesU.value (v := .bool false) (w' := W) (by simp [go_sem, f97, f107, hS.const]) ⟨rfl, Ext.refl _⟩
        · intro ρ W hS hx hout hpre
          refine GSay.none rfl ?_
          have f108 : ρ (.tmp 108) = .bool false := hpre 21 108 (by kernel_rfl)
          exact DoesU.value (v := .bool false) (w' := W) (by simp [go_sem, f108]) ⟨rfl, Ext.refl _⟩
        · intro ρ W hS hx hout hpre
          have fg : ρ (.tmp 109) = .bool false := hpre 22 109 (by kernel_rfl)
          refine GSay.on (g := 22) (d := 109) rfl rfl fg ?_
          have f17 : ρ (.tmp 17) = .pointer (some ⟨w5.heap.size, 0, none⟩) := hout 17 (by kernel_rfl)
          exact DoesU.value (v := .agg #[.int .i64 K3, .int .i64 L3, .slice A17 J3.length c17]) (w' := W) (by simp [go_sem, f17, (show W.cell? ⟨w5.heap.size, 0, none⟩ = some (.int .i64 K3) from ((C17.out.ext hx)).cell 0), (show W.cell? ⟨w5.heap.size, 1, none⟩ = some (.int .i64 L3) from ((C17.out.ext hx)).cell 1), (show W.cell? ⟨w5.heap.size, 2, none⟩ = some (.slice A17 J3.length c17) from ((C17.out.ext hx)).cell 2)]) ⟨rfl, Ext.refl _⟩
        · intro ρ W hS hx hout hpre
          have fg : ρ (.tmp 109) = .bool false := hpre 22 109 (by kernel_rfl)
          refine GSay.on (g := 22) (d := 109) rfl rfl fg ?_
          have f18 : ρ (.tmp 18) = .int .i64 E3 := hout 18 (by kernel_rfl)
          exact DoesU.value (v := .int .i64 E3) (w' := W) (by simp [go_sem, f18]) ⟨rfl, Ext.refl _⟩
        · intro ρ W hS hx hout hpre
          have fg : ρ (.tmp 109) = .bool false := hpre 22 109 (by kernel_rfl)
          refine GSay.on (g := 22) (d := 109) rfl rfl fg ?_
          have f12 : ρ (.tmp 12) = .pointer (some ⟨wr.heap.size, 0, none⟩) := hout 12 (by kernel_rfl)
          exact DoesU.value (v := .agg #[.int .i64 kq, .int .i64 lq, .slice Aq I.length cq]) (w' := W) (by simp [go_sem, f12, (show W.cell? ⟨wr.heap.size, 0, none⟩ = some (.int .i64 kq) from ((C12.out.ext hx)).cell 0), (show W.cell? ⟨wr.heap.size, 1, none⟩ = some (.int .i64 lq) from ((C12.out.ext hx)).cell 1), (show W.cell? ⟨wr.heap.size, 2, none⟩ = some (.slice Aq I.length cq) from ((C12.out.ext hx)).cell 2)]) ⟨rfl, Ext.refl _⟩
        · intro ρ W hS hx hout hpre
          have fg : ρ (.tmp 109) = .bool false := hpre 22 109 (by kernel_rfl)
          refine GSay.on (g := 22) (d := 109) rfl rfl fg ?_
          have f9 : ρ (.tmp 9) = .pointer (some ⟨w2.heap.size, 0, none⟩) := hout 9 (by kernel_rfl)
          exact DoesU.value (v := .agg #[.int .i64 pg, .int .i64 slot, .string x]) (w' := W) (by simp [go_sem, f9, (show W.cell? ⟨w2.heap.size, 0, none⟩ = some (.int .i64 pg) from ((E9.out.ext hx)).cell 0), (show W.cell? ⟨w2.heap.size, 1, none⟩ = some (.int .i64 slot) from ((E9.out.ext hx)).cell 1), (show W.cell? ⟨w2.heap.size, 2, none⟩ = some (.string x) from ((E9.out.ext hx)).cell 2)]) ⟨rfl, Ext.refl _⟩
        · intro ρ W hS hx hout hpre
          have fg : ρ (.tmp 109) = .bool false := hpre 22 109 (by kernel_rfl)
          refine GSay.on (g := 22) (d := 109) rfl rfl fg ?_
          have f5 : ρ (.tmp 5) = .pointer (some ⟨w.heap.size + 1 + 1, 0, none⟩) := hout 5 (by kernel_rfl)
          exact DoesU.value (v := .pointer (some ⟨w.heap.size + 1 + 1, 3, none⟩)) (w' := W) (by simp [go_sem, f5]) ⟨rfl, Ext.refl _⟩
        · intro ρ W hS hx hout hpre
          have fg : ρ (.tmp 109) = .bool false := hpre 22 109 (by kernel_rfl)
          refine GSay.on (g := 22) (d := 109) rfl rfl fg ?_
          have f114 : ρ (.tmp 114) = .pointer (some ⟨w.heap.size + 1 + 1, 3, none⟩) := hpre 27 114 (by kernel_rfl)
          exact DoesU.value (v := .int .i64 lsn) (w' := W) (by simp [go_sem, f114, (show W.cell? ⟨w.heap.size + 1 + 1, 3, none⟩ = some (.int .i64 lsn) from ((B2r.out.ext hx)).cell 3)]) ⟨rfl, Ext.refl _⟩
        · intro ρ W hS hx hout hpre
          have fg : ρ (.tmp 109) = .bool false := hpre 22 109 (by kernel_rfl)
          refine GSay.on (g := 22) (d := 109) rfl rfl fg ?_
          have f112 : ρ (.tmp 112) = .agg #[.int .i64 kq, .int .i64 lq, .slice Aq I.length cq] := hpre 25 112 (by kernel_rfl)
          have f113 : ρ (.tmp 113) = .agg #[.int .i64 pg, .int .i64 slot, .string x] := hpre 26 113 (by kernel_rfl)
          have f115 : ρ (.tmp 115) = .int .i64 lsn := hpre 28 115 (by kernel_rfl)
          refine DoesU.call (f := 24) (args := #[.agg #[.int .i64 kq, .int .i64 lq, .slice Aq I.length cq], .agg #[.int .i64 pg, .int .i64 slot, .string x], .int .i64 lsn]) (w' := W) (by simp [go_sem, hS.func, f112, f113, f115]) ?_
          refine (P3.out.ref _ _ _ _ rfl HQc.out (HQ.out.ext hx)).mono ?_
          rintro e w9 ⟨A116, c116, rfl, ho116, hx9⟩
          exact ⟨_, rfl, ⟨A116, c116, rfl, own_mono ho116 (Nat.zero_le _)⟩, hx9⟩
        · intro ρ W hS hx hout hpre
          have fg : ρ (.tmp 109) = .bool false := hpre 22 109 (by kernel_rfl)
          refine GSay.on (g := 22) (d := 109) rfl rfl fg ?_
          have f110 : ρ (.tmp 110) = .agg #[.int .i64 K3, .int .i64 L3, .slice A17 J3.length c17] := hpre 23 110 (by kernel_rfl)
          have f111 : ρ (.tmp 111) = .int .i64 E3 := hpre 24 111 (by kernel_rfl)
          obtain ⟨A116, c116, f116, ho116⟩ := hpre 29 116 (by kernel_rfl)
          refine DoesU.call (f := 22) (args := #[.agg #[.int .i64 K3, .int .i64 L3, .slice A17 J3.length c17], .int .i64 E3, .agg #[.int .i64 K3, .int .i64 L3, .slice A116 J3.length c116, .int .i64 E3]]) (w' := W) (by simp [go_sem, hS.func, f110, f111, f116]) ?_
          refine (lsame_any _ _ _ _ _ _ _ _ _ _ _ rfl rfl (R3.out.ext hx) (At.of_own ho116) (by have := P3.out.len; omega)).mono ?_
          rintro e w9 ⟨rfl, hx9⟩
          exact ⟨_, rfl, rfl, hx9⟩
        · intro ρ W hS hx hout hpre
          have fg : ρ (.tmp 109) = .bool false := hpre 22 109 (by kernel_rfl)
          refine GSay.on (g := 22) (d := 109) rfl rfl fg ?_
          have f117 : ρ (.tmp 117) = .bool true := hpre 30 117 (by kernel_rfl)
          exact DoesU.value (v := .bool false) (w' := W) (by simp [go_sem, f117]) ⟨rfl, Ext.refl _⟩
        · intro ρ W hS hx hout hpre
          refine GSay.none rfl ?_
          have f109 : ρ (.tmp 109) = .bool false := hpre 22 109 (by kernel_rfl)
          have f118 : ρ (.tmp 118) = .bool false := hpre 31 118 (by kernel_rfl)
          exact DoesU.value (v := .bool false) (w' := W) (by simp [go_sem, f109, f118, hS.const]) ⟨rfl, Ext.refl _⟩
        · intro ρ W hS hx hout hpre
          refine GSay.none rfl ?_
          have f119 : ρ (.tmp 119) = .bool false := hpre 32 119 (by kernel_rfl)
          exact DoesU.value (v := .bool false) (w' := W) (by simp [go_sem, f119]) ⟨rfl, Ext.refl _⟩
        · intro ρ W hS hx hout hpre
          have fg : ρ (.tmp 120) = .bool false := hpre 33 120 (by kernel_rfl)
          refine GSay.on (g := 33) (d := 120) rfl rfl fg ?_
          have f19 : ρ (.tmp 19) = .pointer (some ⟨w6.heap.size, 0, none⟩) := hout 19 (by kernel_rfl)
          exact DoesU.value (v := .agg #[.int .i64 K4, .int .i64 L4, .slice A19 J4.length c19]) (w' := W) (by simp [go_sem, f19, (show W.cell? ⟨w6.heap.size, 0, none⟩ = some (.int .i64 K4) from ((C19.out.ext hx)).cell 0), (show W.cell? ⟨w6.heap.size, 1, none⟩ = some (.int .i64 L4) from ((C19.out.ext hx)).cell 1), (show W.cell? ⟨w6.heap.size, 2, none⟩ = some (.slice A19 J4.length c19) from ((C19.out.ext hx)).cell 2)]) ⟨rfl, Ext.refl _⟩
        · intro ρ W hS hx hout hpre
          have fg : ρ (.tmp 120) = .bool false := hpre 33 120 (by kernel_rfl)
          refine GSay.on (g := 33) (d := 120) rfl rfl fg ?_
          have f20 : ρ (.tmp 20) = .int .i64 E4 := hout 20 (by kernel_rfl)
          exact DoesU.value (v := .int .i64 E4) (w' := W) (by simp [go_sem, f20]) ⟨rfl, Ext.refl _⟩
        · intro ρ W hS hx hout hpre
          have fg : ρ (.tmp 120) = .bool false := hpre 33 120 (by kernel_rfl)
          refine GSay.on (g := 33) (d := 120) rfl rfl fg ?_
          have f12 : ρ (.tmp 12) = .pointer (some ⟨wr.heap.size, 0, none⟩) := hout 12 (by kernel_rfl)
          exact DoesU.value (v := .agg #[.int .i64 kq, .int .i64 lq, .slice Aq I.length cq]) (w' := W) (by simp [go_sem, f12, (show W.cell? ⟨wr.heap.size, 0, none⟩ = some (.int .i64 kq) from ((C12.out.ext hx)).cell 0), (show W.cell? ⟨wr.heap.size, 1, none⟩ = some (.int .i64 lq) from ((C12.out.ext hx)).cell 1), (show W.cell? ⟨wr.heap.size, 2, none⟩ = some (.slice Aq I.length cq) from ((C12.out.ext hx)).cell 2)]) ⟨rfl, Ext.refl _⟩
        · intro ρ W hS hx hout hpre
          have fg : ρ (.tmp 120) = .bool false := hpre 33 120 (by kernel_rfl)
          refine GSay.on (g := 33) (d := 120) rfl rfl fg ?_
          have f10 : ρ (.tmp 10) = .pointer (some ⟨w2.heap.size + 1, 0, none⟩) := hout 10 (by kernel_rfl)
          exact DoesU.value (v := .agg #[.int .i64 pg, .int .i64 ns, .string x]) (w' := W) (by simp [go_sem, f10, (show W.cell? ⟨w2.heap.size + 1, 0, none⟩ = some (.int .i64 pg) from ((E10.out.ext hx)).cell 0), (show W.cell? ⟨w2.heap.size + 1, 1, none⟩ = some (.int .i64 ns) from ((E10.out.ext hx)).cell 1), (show W.cell? ⟨w2.heap.size + 1, 2, none⟩ = some (.string x) from ((E10.out.ext hx)).cell 2)]) ⟨rfl, Ext.refl _⟩
        · intro ρ W hS hx hout hpre
          have fg : ρ (.tmp 120) = .bool false := hpre 33 120 (by kernel_rfl)
          refine GSay.on (g := 33) (d := 120) rfl rfl fg ?_
          have f5 : ρ (.tmp 5) = .pointer (some ⟨w.heap.size + 1 + 1, 0, none⟩) := hout 5 (by kernel_rfl)
          exact DoesU.value (v := .pointer (some ⟨w.heap.size + 1 + 1, 3, none⟩)) (w' := W) (by simp [go_sem, f5]) ⟨rfl, Ext.refl _⟩
        · intro ρ W hS hx hout hpre
          have fg : ρ (.tmp 120) = .bool false := hpre 33 120 (by kernel_rfl)
          refine GSay.on (g := 33) (d := 120) rfl rfl fg ?_
          have f125 : ρ (.tmp 125) = .pointer (some ⟨w.heap.size + 1 + 1, 3, none⟩) := hpre 38 125 (by kernel_rfl)
          exact DoesU.value (v := .int .i64 lsn) (w' := W) (by simp [go_sem, f125, (show W.cell? ⟨w.heap.size + 1 + 1, 3, none⟩ = some (.int .i64 lsn) from ((B2r.out.ext hx)).cell 3)]) ⟨rfl, Ext.refl _⟩
        · intro ρ W hS hx hout hpre
          have fg : ρ (.tmp 120) = .bool false := hpre 33 120 (by kernel_rfl)
          refine GSay.on (g := 33) (d := 120) rfl rfl fg ?_
          have f126 : ρ (.tmp 126) = .int .i64 lsn := hpre 39 126 (by kernel_rfl)
          exact DoesU.value (v := .int .i64 m3) (w' := W) (by rw [HM3.out]; simp [go_sem, hS.const, f126]) ⟨rfl, Ext.refl _⟩
        · intro ρ W hS hx hout hpre
          have fg : ρ (.tmp 120) = .bool false := hpre 33 120 (by kernel_rfl)
          refine GSay.on (g := 33) (d := 120) rfl rfl fg ?_
          have f123 : ρ (.tmp 123) = .agg #[.int .i64 kq, .int .i64 lq, .slice Aq I.length cq] := hpre 36 123 (by kernel_rfl)
          have f124 : ρ (.tmp 124) = .agg #[.int .i64 pg, .int .i64 ns, .string x] := hpre 37 124 (by kernel_rfl)
          have f127 : ρ (.tmp 127) = .int .i64 m3 := hpre 40 127 (by kernel_rfl)
          refine DoesU.call (f := 24) (args := #[.agg #[.int .i64 kq, .int .i64 lq, .slice Aq I.length cq], .agg #[.int .i64 pg, .int .i64 ns, .string x], .int .i64 m3]) (w' := W) (by simp [go_sem, hS.func, f123, f124, f127]) ?_
          refine (P4.out.ref _ _ _ _ rfl HQc.out (HQ.out.ext hx)).mono ?_
          rintro e w9 ⟨A128, c128, rfl, ho128, hx9⟩
          exact ⟨_, rfl, ⟨A128, c128, rfl, own_mono ho128 (Nat.zero_le _)⟩, hx9⟩
        · intro ρ W hS hx hout hpre
          have fg : ρ (.tmp 120) = .bool false := hpre 33 120 (by kernel_rfl)
          refine GSay.on (g := 33) (d := 120) rfl rfl fg ?_
          have f121 : ρ (.tmp 121) = .agg #[.int .i64 K4, .int .i64 L4, .slice A19 J4.length c19] := hpre 34 121 (by kernel_rfl)
          have f122 : ρ (.tmp 122) = .int .i64 E4 := hpre 35 122 (by kernel_rfl)
          obtain ⟨A128, c128, f128, ho128⟩ := hpre 41 128 (by kernel_rfl)
          refine DoesU.call (f := 22) (args := #[.agg #[.int .i64 K4, .int .i64 L4, .slice A19 J4.length c19], .int .i64 E4, .agg #[.int .i64 K4, .int .i64 L4, .slice A128 J4.length c128, .int .i64 E4]]) (w' := W) (by simp [go_sem, hS.func, f121, f122, f128]) ?_
          refine (lsame_any _ _ _ _ _ _ _ _ _ _ _ rfl rfl (R4.out.ext hx) (At.of_own ho128) (by have := P4.out.len; omega)).mono ?_
          rintro e w9 ⟨rfl, hx9⟩
          exact ⟨_, rfl, rfl, hx9⟩
        · intro ρ W hS hx hout hpre
          have fg : ρ (.tmp 120) = .bool false := hpre 33 120 (by kernel_rfl)
          refine GSay.on (g := 33) (d := 120) rfl rfl fg ?_
          have f129 : ρ (.tmp 129) = .bool true := hpre 42 129 (by kernel_rfl)
          exact DoesU.value (v := .bool false) (w' := W) (by simp [go_sem, f129]) ⟨rfl, Ext.refl _⟩
        · intro ρ W hS hx hout hpre
          refine GSay.none rfl ?_
          have f120 : ρ (.tmp 120) = .bool false := hpre 33 120 (by kernel_rfl)
          have f130 : ρ (.tmp 130) = .bool false := hpre 43 130 (by kernel_rfl)
          exact DoesU.value (v := .bool false) (w' := W) (by simp [go_sem, f120, f130, hS.const]) ⟨rfl, Ext.refl _⟩
      intro vs w8 hl hD hx
      replace hl := hl.trans (show (idxU _).length = 45 by kernel_rfl)
      rcases vs with _ | ⟨v87, vs⟩; · simp at hl
      rcases vs with _ | ⟨v88, vs⟩; · simp at hl
      rcases vs with _ | ⟨v89, vs⟩; · simp at hl
      rcases vs with _ | ⟨v90, vs⟩; · simp at hl
      rcases vs with _ | ⟨v91, vs⟩; · simp at hl
      rcases vs with _ | ⟨v92, vs⟩; · simp at hl
      rcases vs with _ | ⟨v93, vs⟩; · simp at hl
      rcases vs with _ | ⟨v94, vs⟩; · simp at hl
      rcases vs with _ | ⟨v95, vs⟩; · simp at hl
      rcases vs with _ | ⟨v96, vs⟩; · simp at hl
      rcases vs with _ | ⟨v97, vs⟩; · simp at hl
      rcases vs with _ | ⟨v98, vs⟩; · simp at hl
      rcases vs with _ | ⟨v99, vs⟩; · simp at hl
      rcases vs with _ | ⟨v100, vs⟩; · simp at hl
      rcases vs with _ | ⟨v101, vs⟩; · simp at hl
      rcases vs with _ | ⟨v102, vs⟩; · simp at hl
      rcases vs with _ | ⟨v103, vs⟩; · simp at hl
      rcases vs with _ | ⟨v104, vs⟩; · simp at hl
      rcases vs with _ | ⟨v105, vs⟩; · simp at hl
      rcases vs with _ | ⟨v106, vs⟩; · simp at hl
      rcases vs with _ | ⟨v107, vs⟩; · simp at hl
      rcases vs with _ | ⟨v108, vs⟩; · simp at hl
      rcases vs with _ | ⟨v109, vs⟩; · simp at hl
      rcases vs with _ | ⟨v110, vs⟩; · simp at hl
      rcases vs with _ | ⟨v111, vs⟩; · simp at hl
      rcases vs with _ | ⟨v112, vs⟩; · simp at hl
      rcases vs with _ | ⟨v113, vs⟩; · simp at hl
      rcases vs with _ | ⟨v114, vs⟩; · simp at hl
      rcases vs with _ | ⟨v115, vs⟩; · simp at hl
      rcases vs with _ | ⟨v116, vs⟩; · simp at hl
      rcases vs with _ | ⟨v117, vs⟩; · simp at hl
      rcases vs with _ | ⟨v118, vs⟩; · simp at hl
      rcases vs with _ | ⟨v119, vs⟩; · simp at hl
      rcases vs with _ | ⟨v120, vs⟩; · simp at hl
      rcases vs with _ | ⟨v121, vs⟩; · simp at hl
      rcases vs with _ | ⟨v122, vs⟩; · simp at hl
      rcases vs with _ | ⟨v123, vs⟩; · simp at hl
      rcases vs with _ | ⟨v124, vs⟩; · simp at hl
      rcases vs with _ | ⟨v125, vs⟩; · simp at hl
      rcases vs with _ | ⟨v126, vs⟩; · simp at hl
      rcases vs with _ | ⟨v127, vs⟩; · simp at hl
      rcases vs with _ | ⟨v128, vs⟩; · simp at hl
      rcases vs with _ | ⟨v129, vs⟩; · simp at hl
      rcases vs with _ | ⟨v130, vs⟩; · simp at hl
      rcases vs with _ | ⟨v131, vs⟩; · simp at hl
      obtain rfl : vs = [] := List.eq_nil_of_length_eq_zero (by simpa using hl)
      clear hl
      obtain rfl : v87 = .agg #[.int .i64 K1, .int .i64 L1, .slice A13 J1.length c13] := hD 0 0 v87 (by kernel_rfl) rfl
      obtain rfl : v88 = .int .i64 E1 := hD 1 1 v88 (by kernel_rfl) rfl
      obtain rfl : v89 = .agg #[.int .i64 kq, .int .i64 lq, .slice Aq I.length cq] := hD 2 2 v89 (by kernel_rfl) rfl
      obtain rfl : v90 = .pointer (some ⟨w2.heap.size, 1, none⟩) := hD 3 3 v90 (by kernel_rfl) rfl
      obtain rfl : v91 = .int .i64 slot := hD 4 4 v91 (by kernel_rfl) rfl
      obtain rfl : v92 = .pointer (some ⟨w2.heap.size, 2, none⟩) := hD 5 5 v92 (by kernel_rfl) rfl
      obtain rfl : v93 = .string x := hD 6 6 v93 (by kernel_rfl) rfl
      obtain ⟨A94, c94, rfl, ho94⟩ := hD 7 7 v94 (by kernel_rfl) rfl
      obtain rfl : v95 = .bool true := hD 8 8 v95 (by kernel_rfl) rfl
      obtain rfl : v96 = .bool false := hD 9 9 v96 (by kernel_rfl) rfl
      obtain rfl : v97 = .bool false := hD 10 10 v97 (by kernel_rfl) rfl
      obtain rfl : v98 = .agg #[.int .i64 K2, .int .i64 L2, .slice A15 J2.length c15] := hD 11 11 v98 (by kernel_rfl) rfl
      obtain rfl : v99 = .int .i64 E2 := hD 12 12 v99 (by kernel_rfl) rfl
      obtain rfl : v100 = .agg #[.int .i64 kq, .int .i64 lq, .slice Aq I.length cq] := hD 13 13 v100 (by kernel_rfl) rfl
      obtain rfl : v101 = .pointer (some ⟨w2.heap.size + 1, 1, none⟩) := hD 14 14 v101 (by kernel_rfl) rfl
      obtain rfl : v102 = .int .i64 ns := hD 15 15 v102 (by kernel_rfl) rfl
      obtain rfl : v103 = .pointer (some ⟨w2.heap.size + 1, 2, none⟩) := hD 16 16 v103 (by kernel_rfl) rfl
      obtain rfl : v104 = .string x := hD 17 17 v104 (by kernel_rfl) rfl
      obtain ⟨A105, c105, rfl, ho105⟩ := hD 18 18 v105 (by kernel_rfl) rfl
      obtain rfl : v106 = .bool true := hD 19 19 v106 (by kernel_rfl) rfl
      obtain rfl : v107 = .bool false := hD 20 20 v107 (by kernel_rfl) rfl
      obtain rfl : v108 = .bool false := hD 21 21 v108 (by kernel_rfl) rfl
      obtain rfl : v109 = .bool false := hD 22 22 v109 (by kernel_rfl) rfl
      obtain rfl : v110 = .agg #[.int .i64 K3, .int .i64 L3, .slice A17 J3.length c17] := hD 23 23 v110 (by kernel_rfl) rfl
      obtain rfl : v111 = .int .i64 E3 := hD 24 24 v111 (by kernel_rfl) rfl
      obtain rfl : v112 = .agg #[.int .i64 kq, .int .i64 lq, .slice Aq I.length cq] := hD 25 25 v112 (by kernel_rfl) rfl
      obtain rfl : v113 = .agg #[.int .i64 pg, .int .i64 slot, .string x] := hD 26 26 v113 (by kernel_rfl) rfl
      obtain rfl : v114 = .pointer (some ⟨w.heap.size + 1 + 1, 3, none⟩) := hD 27 27 v114 (by kernel_rfl) rfl
      obtain rfl : v115 = .int .i64 lsn := hD 28 28 v115 (by kernel_rfl) rfl
      obtain ⟨A116, c116, rfl, ho116⟩ := hD 29 29 v116 (by kernel_rfl) rfl
      obtain rfl : v117 = .bool true := hD 30 30 v117 (by kernel_rfl) rfl
      obtain rfl : v118 = .bool false := hD 31 31 v118 (by kernel_rfl) rfl
      obtain rfl : v119 = .bool false := hD 32 32 v119 (by kernel_rfl) rfl
      obtain rfl : v120 = .bool false := hD 33 33 v120 (by kernel_rfl) rfl
      obtain rfl : v121 = .agg #[.int .i64 K4, .int .i64 L4, .slice A19 J4.length c19] := hD 34 34 v121 (by kernel_rfl) rfl
      obtain rfl : v122 = .int .i64 E4 := hD 35 35 v122 (by kernel_rfl) rfl
      obtain rfl : v123 = .agg #[.int .i64 kq, .int .i64 lq, .slice Aq I.length cq] := hD 36 36 v123 (by kernel_rfl) rfl
      obtain rfl : v124 = .agg #[.int .i64 pg, .int .i64 ns, .string x] := hD 37 37 v124 (by kernel_rfl) rfl
      obtain rfl : v125 = .pointer (some ⟨w.heap.size + 1 + 1, 3, none⟩) := hD 38 38 v125 (by kernel_rfl) rfl
      obtain rfl : v126 = .int .i64 lsn := hD 39 39 v126 (by kernel_rfl) rfl
      obtain rfl : v127 = .int .i64 m3 := hD 40 40 v127 (by kernel_rfl) rfl
      obtain ⟨A128, c128, rfl, ho128⟩ := hD 41 41 v128 (by kernel_rfl) rfl
      obtain rfl : v129 = .bool true := hD 42 42 v129 (by kernel_rfl) rfl
      obtain rfl : v130 = .bool false := hD 43 43 v130 (by kernel_rfl) rfl
      obtain rfl : v131 = .bool false := hD 44 44 v131 (by kernel_rfl) rfl
      clear hD
      rw [show dstsU _ = [87, 88, 89, 90, 91, 92, 93, 94, 95, 96, 97, 98, 99, 100, 101, 102, 103, 104, 105, 106, 107, 108, 109, 110, 111, 112, 113, 114, 115, 116, 117, 118, 119, 120, 121, 122, 123, 124, 125, 126, 127, 128, 129, 130, 131] by kernel_rfl]
      simp only [putAll, List.setIfInBounds_toArray, List.set_cons_succ, List.set_cons_zero]
      replace E9 := Lib.hid (E9.out.ext hx)
      replace E10 := Lib.hid (E10.out.ext hx)
      replace B2r := Lib.hid (B2r.out.ext hx)
      replace C12 := Lib.hid (C12.out.ext hx)
      replace C13 := Lib.hid (C13.out.ext hx)
      replace C15 := Lib.hid (C15.out.ext hx)
      replace C17 := Lib.hid (C17.out.ext hx)
      replace C19 := Lib.hid (C19.out.ext hx)
      replace HQ := Lib.hid (HQ.out.ext ((Ext.refl _).trans hx))
      replace R1 := Lib.hid (R1.out.ext ((Ext.refl _).trans hx))
      replace R2 := Lib.hid (R2.out.ext ((Ext.refl _).trans hx))
      replace R3 := Lib.hid (R3.out.ext ((Ext.refl _).trans hx))
      replace R4 := Lib.hid (R4.out.ext ((Ext.refl _).trans hx))
      replace XR := Lib.hid (XR.out.trans ((Ext.refl _).trans hx))
      clear hx
      clear ho94 ho105 ho116 ho128
      go_wp2
      refine wp_region_E (by kernel_rfl) [0, 0, 2, 7, 0, 0, 32, 127, 255, 511, 1023, 1023, 3071, 7167, 16383, 1023, 1023, 66559, 197631, 524287, 1048575, 2097151, 4194303, 8388607, 16777215, 8388607, 67108863, 134217727, 268435455] (fun ix v W => match ix with | 0 => v = .agg #[.int .i64 kq, .int .i64 lq, .slice Aq I.length cq] | 1 => v = .pointer (some ⟨w.heap.size + 1 + 1, 4, none⟩) | 2 => v = .int .i64 from_ | 3 => v = .int .i64 (freeF kq lq I from_) | 4 => v = .agg #[.int .i64 kq, .int .i64 lq, .slice Aq I.length cq] | 5 => v = .pointer (some ⟨w.heap.size + 1 + 1, 4, none⟩) | 6 => v = .int .i64 from_ | 7 => v = .int .i64 (freeF kq lq I from_) | 8 => v = .bool false | 9 => v = .bool false | 10 => v = .agg #[.int .i64 kq, .int .i64 lq, .slice Aq I.length cq] | 11 => v = .pointer (some ⟨w.heap.size + 1 + 1, 4, none⟩) | 12 => v = .int .i64 from_ | 13 => v = .int .i64 m4 | 14 => v = .int .i64 (freeF kq lq I m4) | 15 => v = .agg #[.int .i64 kq, .int .i64 lq, .slice Aq I.length cq] | 16 => v = .pointer (some ⟨w.heap.size + 1 + 1, 4, none⟩) | 17 => v = .int .i64 from_ | 18 => v = .int .i64 m4 | 19 => v = .int .i64 (freeF kq lq I m4) | 20 => v = .bool false | 21 => v = .bool false | 22 => v = .bool false | 23 => v = .agg #[.int .i64 kq, .int .i64 lq, .slice Aq I.length cq] | 24 => v = .int .i64 (roomF kq lq I) | 25 => v = .agg #[.int .i64 kq, .int .i64 lq, .slice Aq I.length cq] | 26 => v = .int .i64 (roomF kq lq I) | 27 => v = .bool false | 28 => v = .bool false | _ => True) (by kernel_rfl) (by kernel_rfl) ?_ ?_ ?_
      · intro ix v W W' h hx
        match ix, h with
        | 0, h => exact h
        | 1, h => exact h
        | 2, h => exact h
        | 3, h => exact h
        | 4, h => exact h
        | 5, h => exact h
        | 6, h => exact h
        | 7, h => exact h
        | 8, h => exact h
        | 9, h => exact h
        | 10, h => exact h
        | 11, h => exact h
        | 12, h => exact h
        | 13, h => exact h
        | 14, h => exact h
        | 15, h => exact h
        | 16, h => exact h
        | 17, h => exact h
        | 18, h => exact h
        | 19, h => exact h
        | 20, h => exact h
        | 21, h => exact h
        | 22, h => exact h
        | 23, h => exact h
        | 24, h => exact h
        | 25, h => exact h
        | 26, h => exact h
        | 27, h => exact h
        | 28, h => exact h
        | _ + 29, _ => trivial
      · refine ⟨⟨⟨⟨⟨⟨⟨⟨⟨⟨⟨⟨⟨⟨⟨⟨⟨⟨⟨⟨⟨⟨⟨⟨⟨⟨⟨⟨⟨trivial, ?_⟩, ?_⟩, ?_⟩, ?_⟩, ?_⟩, ?_⟩, ?_⟩, ?_⟩, ?_⟩, ?_⟩, ?_⟩, ?_⟩, ?_⟩, ?_⟩, ?_⟩, ?_⟩, ?_⟩, ?_⟩, ?_⟩, ?_⟩, ?_⟩, ?_⟩, ?_⟩, ?_⟩, ?_⟩, ?_⟩, ?_⟩, ?_⟩, ?_⟩
        · intro ρ W hS hx hout hpre
          refine GSay.none rfl ?_
          have f12 : ρ (.tmp 12) = .pointer (some ⟨wr.heap.size, 0, none⟩) := hout 12 (by kernel_rfl)
          exact DoesU.value (v := .agg #[.int .i64 kq, .int .i64 lq, .slice Aq I.length cq]) (w' := W) (by simp [go_sem, f12, (show W.cell? ⟨wr.heap.size, 0, none⟩ = some (.int .i64 kq) from ((C12.out.ext hx)).cell 0), (show W.cell? ⟨wr.heap.size, 1, none⟩ = some (.int .i64 lq) from ((C12.out.ext hx)).cell 1), (show W.cell? ⟨wr.heap.size, 2, none⟩ = some (.slice Aq I.length cq) from ((C12.out.ext hx)).cell 2)]) ⟨rfl, Ext.refl _⟩
        · intro ρ W hS hx hout hpre
          refine GSay.none rfl ?_
          have f5 : ρ (.tmp 5) = .pointer (some ⟨w.heap.size + 1 + 1, 0, none⟩) := hout 5 (by kernel_rfl)
          exact DoesU.value (v := .pointer (some ⟨w.heap.size + 1 + 1, 4, none⟩)) (w' := W) (by simp [go_sem, f5]) ⟨rfl, Ext.refl _⟩
        · intro ρ W hS hx hout hpre
          refine GSay.none rfl ?_
          have f133 : ρ (.tmp 133) = .pointer (some ⟨w.heap.size + 1 + 1, 4, none⟩) := hpre 1 133 (by kernel_rfl)
          exact DoesU.value (v := .int .i64 from_) (w' := W) (by simp [go_sem, f133, (show W.cell? ⟨w.heap.size + 1 + 1, 4, none⟩ = some (.int .i64 from_) from ((B2r.out.ext hx)).cell 4)]) ⟨rfl, Ext.refl _⟩
        · intro ρ W hS hx hout hpre
          refine GSay.none rfl ?_
          have f132 : ρ (.tmp 132) = .agg #[.int .i64 kq, .int .i64 lq, .slice Aq I.length cq] := hpre 0 132 (by kernel_rfl)
          have f134 : ρ (.tmp 134) = .int .i64 from_ := hpre 2 134 (by kernel_rfl)
          refine DoesU.call (f := 16) (args := #[.agg #[.int .i64 kq, .int .i64 lq, .slice Aq I.length cq], .int .i64 from_]) (w' := W) (by simp [go_sem, hS.func, f132, f134]) ?_
          refine (free_any _ _ _ _ _ _ _ (HQ.out.ext hx) HQs.out).mono ?_
          rintro e w9 ⟨rfl, hx9⟩
          exact ⟨_, rfl, rfl, hx9⟩
        · intro ρ W hS hx hout hpre
          refine GSay.none rfl ?_
          have f12 : ρ (.tmp 12) = .pointer (some ⟨wr.heap.size, 0, none⟩) := hout 12 (by kernel_rfl)
          exact DoesU.value (v := .agg #[.int .i64 kq, .int .i64 lq, .slice Aq I.length cq]) (w' := W) (by simp [go_sem, f12, (show W.cell? ⟨wr.heap.size, 0, none⟩ = some (.int .i64 kq) from ((C12.out.ext hx)).cell 0), (show W.cell? ⟨wr.heap.size, 1, none⟩ = some (.int .i64 lq) from ((C12.out.ext hx)).cell 1), (show W.cell? ⟨wr.heap.size, 2, none⟩ = some (.slice Aq I.length cq) from ((C12.out.ext hx)).cell 2)]) ⟨rfl, Ext.refl _⟩
        · intro ρ W hS hx hout hpre
          refine GSay.none rfl ?_
          have f5 : ρ (.tmp 5) = .pointer (some ⟨w.heap.size + 1 + 1, 0, none⟩) := hout 5 (by kernel_rfl)
          exact DoesU.value (v := .pointer (some ⟨w.heap.size + 1 + 1, 4, none⟩)) (w' := W) (by simp [go_sem, f5]) ⟨rfl, Ext.refl _⟩
        · intro ρ W hS hx hout hpre
          refine GSay.none rfl ?_
          have f137 : ρ (.tmp 137) = .pointer (some ⟨w.heap.size + 1 + 1, 4, none⟩) := hpre 5 137 (by kernel_rfl)
          exact DoesU.value (v := .int .i64 from_) (w' := W) (by simp [go_sem, f137, (show W.cell? ⟨w.heap.size + 1 + 1, 4, none⟩ = some (.int .i64 from_) from ((B2r.out.ext hx)).cell 4)]) ⟨rfl, Ext.refl _⟩
        · intro ρ W hS hx hout hpre
          refine GSay.none rfl ?_
          have f136 : ρ (.tmp 136) = .agg #[.int .i64 kq, .int .i64 lq, .slice Aq I.length cq] := hpre 4 136 (by kernel_rfl)
          have f138 : ρ (.tmp 138) = .int .i64 from_ := hpre 6 138 (by kernel_rfl)
          refine DoesU.call (f := 25) (args := #[.agg #[.int .i64 kq, .int .i64 lq, .slice Aq I.length cq], .int .i64 from_]) (w' := W) (by simp [go_sem, hS.func, f136, f138]) ?_
          refine (rfree_any _ _ _ _ _ _ _ _ rfl (HQ.out.ext hx) HQs.out HQc.out).mono ?_
          rintro e w9 ⟨rfl, hx9⟩
          exact ⟨_, rfl, rfl, hx9⟩
        · intro ρ W hS hx hout hpre
          refine GSay.none rfl ?_
          have f135 : ρ (.tmp 135) = .int .i64 (freeF kq lq I from_) := hpre 3 135 (by kernel_rfl)
          have f139 : ρ (.tmp 139) = .int .i64 (freeF kq lq I from_) := hpre 7 139 (by kernel_rfl)
          exact DoesU.value (v := .bool false) (w' := W) (by simp [go_sem, f135, f139]) ⟨rfl, Ext.refl _⟩
        · intro ρ W hS hx hout hpre
          refine GSay.none rfl ?_
          have f140 : ρ (.tmp 140) = .bool false := hpre 8 140 (by kernel_rfl)
          exact DoesU.value (v := .bool false) (w' := W) (by simp [go_sem, f140]) ⟨rfl, Ext.refl _⟩
        · intro ρ W hS hx hout hpre
          have fg : ρ (.tmp 141) = .bool false := hpre 9 141 (by kernel_rfl)
          refine GSay.on (g := 9) (d := 141) rfl rfl fg ?_
          have f12 : ρ (.tmp 12) = .pointer (some ⟨wr.heap.size, 0, none⟩) := hout 12 (by kernel_rfl)
          exact DoesU.value (v := .agg #[.int .i64 kq, .int .i64 lq, .slice Aq I.length cq]) (w' := W) (by simp [go_sem, f12, (show W.cell? ⟨wr.heap.size, 0, none⟩ = some (.int .i64 kq) from ((C12.out.ext hx)).cell 0), (show W.cell? ⟨wr.heap.size, 1, none⟩ = some (.int .i64 lq) from ((C12.out.ext hx)).cell 1), (show W.cell? ⟨wr.heap.size, 2, none⟩ = some (.slice Aq I.length cq) from ((C12.out.ext hx)).cell 2)]) ⟨rfl, Ext.refl _⟩
        · intro ρ W hS hx hout hpre
          have fg : ρ (.tmp 141) = .bool false := hpre 9 141 (by kernel_rfl)
          refine GSay.on (g := 9) (d := 141) rfl rfl fg ?_
          have f5 : ρ (.tmp 5) = .pointer (some ⟨w.heap.size + 1 + 1, 0, none⟩) := hout 5 (by kernel_rfl)
          exact DoesU.value (v := .pointer (some ⟨w.heap.size + 1 + 1, 4, none⟩)) (w' := W) (by simp [go_sem, f5]) ⟨rfl, Ext.refl _⟩
        · intro ρ W hS hx hout hpre
          have fg : ρ (.tmp 141) = .bool false := hpre 9 141 (by kernel_rfl)
          refine GSay.on (g := 9) (d := 141) rfl rfl fg ?_
          have f143 : ρ (.tmp 143) = .pointer (some ⟨w.heap.size + 1 + 1, 4, none⟩) := hpre 11 143 (by kernel_rfl)
          exact DoesU.value (v := .int .i64 from_) (w' := W) (by simp [go_sem, f143, (show W.cell? ⟨w.heap.size + 1 + 1, 4, none⟩ = some (.int .i64 from_) from ((B2r.out.ext hx)).cell 4)]) ⟨rfl, Ext.refl _⟩
        · intro ρ W hS hx hout hpre
          have fg : ρ (.tmp 141) = .bool false := hpre 9 141 (by kernel_rfl)
          refine GSay.on (g := 9) (d := 141) rfl rfl fg ?_
          have f144 : ρ (.tmp 144) = .int .i64 from_ := hpre 12 144 (by kernel_rfl)
          exact DoesU.value (v := .int .i64 m4) (w' := W) (by rw [HM4.out]; simp [go_sem, hS.const, f144]) ⟨rfl, Ext.refl _⟩
        · intro ρ W hS hx hout hpre
          have fg : ρ (.tmp 141) = .bool false := hpre 9 141 (by kernel_rfl)
          refine GSay.on (g := 9) (d := 141) rfl rfl fg ?_
          have f142 : ρ (.tmp 142) = .agg #[.int .i64 kq, .int .i64 lq, .slice Aq I.length cq] := hpre 10 142 (by kernel_rfl)
          have f145 : ρ (.tmp 145) = .int .i64 m4 := hpre 13 145 (by kernel_rfl)
          refine DoesU.call (f := 16) (args := #[.agg #[.int .i64 kq, .int .i64 lq, .slice Aq I.length cq], .int .i64 m4]) (w' := W) (by simp [go_sem, hS.func, f142, f145]) ?_
          refine (free_any _ _ _ _ _ _ _ (HQ.out.ext hx) HQs.out).mono ?_
          rintro e w9 ⟨rfl, hx9⟩
          exact ⟨_, rfl, rfl, hx9⟩
        · intro ρ W hS hx hout hpre
          have fg : ρ (.tmp 141) = .bool false := hpre 9 141 (by kernel_rfl)
          refine GSay.on (g := 9) (d := 141) rfl rfl fg ?_
          have f12 : ρ (.tmp 12) = .pointer (some ⟨wr.heap.size, 0, none⟩) := hout 12 (by kernel_rfl)
          exact DoesU.value (v := .agg #[.int .i64 kq, .int .i64 lq, .slice Aq I.length cq]) (w' := W) (by simp [go_sem, f12, (show W.cell? ⟨wr.heap.size, 0, none⟩ = some (.int .i64 kq) from ((C12.out.ext hx)).cell 0), (show W.cell? ⟨wr.heap.size, 1, none⟩ = some (.int .i64 lq) from ((C12.out.ext hx)).cell 1), (show W.cell? ⟨wr.heap.size, 2, none⟩ = some (.slice Aq I.length cq) from ((C12.out.ext hx)).cell 2)]) ⟨rfl, Ext.refl _⟩
        · intro ρ W hS hx hout hpre
          have fg : ρ (.tmp 141) = .bool false := hpre 9 141 (by kernel_rfl)
          refine GSay.on (g := 9) (d := 141) rfl rfl fg ?_
          have f5 : ρ (.tmp 5) = .pointer (some ⟨w.heap.size + 1 + 1, 0, none⟩) := hout 5 (by kernel_rfl)
          exact DoesU.value (v := .pointer (some ⟨w.heap.size + 1 + 1, 4, none⟩)) (w' := W) (by simp [go_sem, f5]) ⟨rfl, Ext.refl _⟩
        · intro ρ W hS hx hout hpre
          have fg : ρ (.tmp 141) = .bool false := hpre 9 141 (by kernel_rfl)
          refine GSay.on (g := 9) (d := 141) rfl rfl fg ?_
          have f148 : ρ (.tmp 148) = .pointer (some ⟨w.heap.size + 1 + 1, 4, none⟩) := hpre 16 148 (by kernel_rfl)
          exact DoesU.value (v := .int .i64 from_) (w' := W) (by simp [go_sem, f148, (show W.cell? ⟨w.heap.size + 1 + 1, 4, none⟩ = some (.int .i64 from_) from ((B2r.out.ext hx)).cell 4)]) ⟨rfl, Ext.refl _⟩
        · intro ρ W hS hx hout hpre
          have fg : ρ (.tmp 141) = .bool false := hpre 9 141 (by kernel_rfl)
          refine GSay.on (g := 9) (d := 141) rfl rfl fg ?_
          have f149 : ρ (.tmp 149) = .int .i64 from_ := hpre 17 149 (by kernel_rfl)
          exact DoesU.value (v := .int .i64 m4) (w' := W) (by rw [HM4.out]; simp [go_sem, hS.const, f149]) ⟨rfl, Ext.refl _⟩
        · intro ρ W hS hx hout hpre
          have fg : ρ (.tmp 141) = .bool false := hpre 9 141 (by kernel_rfl)
          refine GSay.on (g := 9) (d := 141) rfl rfl fg ?_
          have f147 : ρ (.tmp 147) = .agg #[.int .i64 kq, .int .i64 lq, .slice Aq I.length cq] := hpre 15 147 (by kernel_rfl)
          have f150 : ρ (.tmp 150) = .int .i64 m4 := hpre 18 150 (by kernel_rfl)
          refine DoesU.call (f := 25) (args := #[.agg #[.int .i64 kq, .int .i64 lq, .slice Aq I.length cq], .int .i64 m4]) (w' := W) (by simp [go_sem, hS.func, f147, f150]) ?_
          refine (rfree_any _ _ _ _ _ _ _ _ rfl (HQ.out.ext hx) HQs.out HQc.out).mono ?_
          rintro e w9 ⟨rfl, hx9⟩
          exact ⟨_, rfl, rfl, hx9⟩
        · intro ρ W hS hx hout hpre
          have fg : ρ (.tmp 141) = .bool false := hpre 9 141 (by kernel_rfl)
          refine GSay.on (g := 9) (d := 141) rfl rfl fg ?_
          have f146 : ρ (.tmp 146) = .int .i64 (freeF kq lq I m4) := hpre 14 146 (by kernel_rfl)
          have f151 : ρ (.tmp 151) = .int .i64 (freeF kq lq I m4) := hpre 19 151 (by kernel_rfl)
          exact DoesU.value (v := .bool false) (w' := W) (by simp [go_sem, f146, f151]) ⟨rfl, Ext.refl _⟩
        · intro ρ W hS hx hout hpre
          refine GSay.none rfl ?_
          have f141 : ρ (.tmp 141) = .bool false := hpre 9 141 (by kernel_rfl)
          have f152 : ρ (.tmp 152) = .bool false := hpre 20 152 (by kernel_rfl)
          exact DoesU.value (v := .bool false) (w' := W) (by simp [go_sem, f141, f152, hS.const]) ⟨rfl, Ext.refl _⟩
        · intro ρ W hS hx hout hpre
          refine GSay.none rfl ?_
          have f153 : ρ (.tmp 153) = .bool false := hpre 21 153 (by kernel_rfl)
          exact DoesU.value (v := .bool false) (w' := W) (by simp [go_sem, f153]) ⟨rfl, Ext.refl _⟩
        · intro ρ W hS hx hout hpre
          have fg : ρ (.tmp 154) = .bool false := hpre 22 154 (by kernel_rfl)
          refine GSay.on (g := 22) (d := 154) rfl rfl fg ?_
          have f12 : ρ (.tmp 12) = .pointer (some ⟨wr.heap.size, 0, none⟩) := hout 12 (by kernel_rfl)
          exact DoesU.value (v := .agg #[.int .i64 kq, .int .i64 lq, .slice Aq I.length cq]) (w' := W) (by simp [go_sem, f12, (show W.cell? ⟨wr.heap.size, 0, none⟩ = some (.int .i64 kq) from ((C12.out.ext hx)).cell 0), (show W.cell? ⟨wr.heap.size, 1, none⟩ = some (.int .i64 lq) from ((C12.out.ext hx)).cell 1), (show W.cell? ⟨wr.heap.size, 2, none⟩ = some (.slice Aq I.length cq) from ((C12.out.ext hx)).cell 2)]) ⟨rfl, Ext.refl _⟩
        · intro ρ W hS hx hout hpre
          have fg : ρ (.tmp 154) = .bool false := hpre 22 154 (by kernel_rfl)
          refine GSay.on (g := 22) (d := 154) rfl rfl fg ?_
          have f155 : ρ (.tmp 155) = .agg #[.int .i64 kq, .int .i64 lq, .slice Aq I.length cq] := hpre 23 155 (by kernel_rfl)
          refine DoesU.call (f := 15) (args := #[.agg #[.int .i64 kq, .int .i64 lq, .slice Aq I.length cq]]) (w' := W) (by simp [go_sem, hS.func, f155]) ?_
          refine (room_any _ _ _ _ _ _ (HQ.out.ext hx) HQs.out).mono ?_
          rintro e w9 ⟨rfl, hx9⟩
          exact ⟨_, rfl, rfl, hx9⟩
        · intro ρ W hS hx hout hpre
          have fg : ρ (.tmp 154) = .bool false := hpre 22 154 (by kernel_rfl)
          refine GSay.on (g := 22) (d := 154) rfl rfl fg ?_
          have f12 : ρ (.tmp 12) = .pointer (some ⟨wr.heap.size, 0, none⟩) := hout 12 (by kernel_rfl)
          exact DoesU.value (v := .agg #[.int .i64 kq, .int .i64 lq, .slice Aq I.length cq]) (w' := W) (by simp [go_sem, f12, (show W.cell? ⟨wr.heap.size, 0, none⟩ = some (.int .i64 kq) from ((C12.out.ext hx)).cell 0), (show W.cell? ⟨wr.heap.size, 1, none⟩ = some (.int .i64 lq) from ((C12.out.ext hx)).cell 1), (show W.cell? ⟨wr.heap.size, 2, none⟩ = some (.slice Aq I.length cq) from ((C12.out.ext hx)).cell 2)]) ⟨rfl, Ext.refl _⟩
        · intro ρ W hS hx hout hpre
          have fg : ρ (.tmp 154) = .bool false := hpre 22 154 (by kernel_rfl)
          refine GSay.on (g := 22) (d := 154) rfl rfl fg ?_
          have f157 : ρ (.tmp 157) = .agg #[.int .i64 kq, .int .i64 lq, .slice Aq I.length cq] := hpre 25 157 (by kernel_rfl)
          refine DoesU.call (f := 26) (args := #[.agg #[.int .i64 kq, .int .i64 lq, .slice Aq I.length cq]]) (w' := W) (by simp [go_sem, hS.func, f157]) ?_
          refine (rroom_any _ _ _ _ _ _ _ rfl (HQ.out.ext hx) HQs.out HQc.out).mono ?_
          rintro e w9 ⟨rfl, hx9⟩
          exact ⟨_, rfl, rfl, hx9⟩
        · intro ρ W hS hx hout hpre
          have fg : ρ (.tmp 154) = .bool false := hpre 22 154 (by kernel_rfl)
          refine GSay.on (g := 22) (d := 154) rfl rfl fg ?_
          have f156 : ρ (.tmp 156) = .int .i64 (roomF kq lq I) := hpre 24 156 (by kernel_rfl)
          have f158 : ρ (.tmp 158) = .int .i64 (roomF kq lq I) := hpre 26 158 (by kernel_rfl)
          exact DoesU.value (v := .bool false) (w' := W) (by simp [go_sem, f156, f158]) ⟨rfl, Ext.refl _⟩
        · intro ρ W hS hx hout hpre
          refine GSay.none rfl ?_
          have f154 : ρ (.tmp 154) = .bool false := hpre 22 154 (by kernel_rfl)
          have f159 : ρ (.tmp 159) = .bool false := hpre 27 159 (by kernel_rfl)
          exact DoesU.value (v := .bool false) (w' := W) (by simp [go_sem, f154, f159, hS.const]) ⟨rfl, Ext.refl _⟩
      intro vs w9 hl hD hx
      replace hl := hl.trans (show (idxU _).length = 29 by kernel_rfl)
      rcases vs with _ | ⟨v132, vs⟩; · simp at hl
      rcases vs with _ | ⟨v133, vs⟩; · simp at hl
      rcases vs with _ | ⟨v134, vs⟩; · simp at hl
      rcases vs with _ | ⟨v135, vs⟩; · simp at hl
      rcases vs with _ | ⟨v136, vs⟩; · simp at hl
      rcases vs with _ | ⟨v137, vs⟩; · simp at hl
      rcases vs with _ | ⟨v138, vs⟩; · simp at hl
      rcases vs with _ | ⟨v139, vs⟩; · simp at hl
      rcases vs with _ | ⟨v140, vs⟩; · simp at hl
      rcases vs with _ | ⟨v141, vs⟩; · simp at hl
      rcases vs with _ | ⟨v142, vs⟩; · simp at hl
      rcases vs with _ | ⟨v143, vs⟩; · simp at hl
      rcases vs with _ | ⟨v144, vs⟩; · simp at hl
      rcases vs with _ | ⟨v145, vs⟩; · simp at hl
      rcases vs with _ | ⟨v146, vs⟩; · simp at hl
      rcases vs with _ | ⟨v147, vs⟩; · simp at hl
      rcases vs with _ | ⟨v148, vs⟩; · simp at hl
      rcases vs with _ | ⟨v149, vs⟩; · simp at hl
      rcases vs with _ | ⟨v150, vs⟩; · simp at hl
      rcases vs with _ | ⟨v151, vs⟩; · simp at hl
      rcases vs with _ | ⟨v152, vs⟩; · simp at hl
      rcases vs with _ | ⟨v153, vs⟩; · simp at hl
      rcases vs with _ | ⟨v154, vs⟩; · simp at hl
      rcases vs with _ | ⟨v155, vs⟩; · simp at hl
      rcases vs with _ | ⟨v156, vs⟩; · simp at hl
      rcases vs with _ | ⟨v157, vs⟩; · simp at hl
      rcases vs with _ | ⟨v158, vs⟩; · simp at hl
      rcases vs with _ | ⟨v159, vs⟩; · simp at hl
      rcases vs with _ | ⟨v160, vs⟩; · simp at hl
      obtain rfl : vs = [] := List.eq_nil_of_length_eq_zero (by simpa using hl)
      clear hl
      obtain rfl : v132 = .agg #[.int .i64 kq, .int .i64 lq, .slice Aq I.length cq] := hD 0 0 v132 (by kernel_rfl) rfl
      obtain rfl : v133 = .pointer (some ⟨w.heap.size + 1 + 1, 4, none⟩) := hD 1 1 v133 (by kernel_rfl) rfl
      obtain rfl : v134 = .int .i64 from_ := hD 2 2 v134 (by kernel_rfl) rfl
      obtain rfl : v135 = .int .i64 (freeF kq lq I from_) := hD 3 3 v135 (by kernel_rfl) rfl
      obtain rfl : v136 = .agg #[.int .i64 kq, .int .i64 lq, .slice Aq I.length cq] := hD 4 4 v136 (by kernel_rfl) rfl
      obtain rfl : v137 = .pointer (some ⟨w.heap.size + 1 + 1, 4, none⟩) := hD 5 5 v137 (by kernel_rfl) rfl
      obtain rfl : v138 = .int .i64 from_ := hD 6 6 v138 (by kernel_rfl) rfl
      obtain rfl : v139 = .int .i64 (freeF kq lq I from_) := hD 7 7 v139 (by kernel_rfl) rfl
      obtain rfl : v140 = .bool false := hD 8 8 v140 (by kernel_rfl) rfl
      obtain rfl : v141 = .bool false := hD 9 9 v141 (by kernel_rfl) rfl
      obtain rfl : v142 = .agg #[.int .i64 kq, .int .i64 lq, .slice Aq I.length cq] := hD 10 10 v142 (by kernel_rfl) rfl
      obtain rfl : v143 = .pointer (some ⟨w.heap.size + 1 + 1, 4, none⟩) := hD 11 11 v143 (by kernel_rfl) rfl
      obtain rfl : v144 = .int .i64 from_ := hD 12 12 v144 (by kernel_rfl) rfl
      obtain rfl : v145 = .int .i64 m4 := hD 13 13 v145 (by kernel_rfl) rfl
      obtain rfl : v146 = .int .i64 (freeF kq lq I m4) := hD 14 14 v146 (by kernel_rfl) rfl
      obtain rfl : v147 = .agg #[.int .i64 kq, .int .i64 lq, .slice Aq I.length cq] := hD 15 15 v147 (by kernel_rfl) rfl
      obtain rfl : v148 = .pointer (some ⟨w.heap.size + 1 + 1, 4, none⟩) := hD 16 16 v148 (by kernel_rfl) rfl
      obtain rfl : v149 = .int .i64 from_ := hD 17 17 v149 (by kernel_rfl) rfl
      obtain rfl : v150 = .int .i64 m4 := hD 18 18 v150 (by kernel_rfl) rfl
      obtain rfl : v151 = .int .i64 (freeF kq lq I m4) := hD 19 19 v151 (by kernel_rfl) rfl
      obtain rfl : v152 = .bool false := hD 20 20 v152 (by kernel_rfl) rfl
      obtain rfl : v153 = .bool false := hD 21 21 v153 (by kernel_rfl) rfl
      obtain rfl : v154 = .bool false := hD 22 22 v154 (by kernel_rfl) rfl
      obtain rfl : v155 = .agg #[.int .i64 kq, .int .i64 lq, .slice Aq I.length cq] := hD 23 23 v155 (by kernel_rfl) rfl
      obtain rfl : v156 = .int .i64 (roomF kq lq I) := hD 24 24 v156 (by kernel_rfl) rfl
      obtain rfl : v157 = .agg #[.int .i64 kq, .int .i64 lq, .slice Aq I.length cq] := hD 25 25 v157 (by kernel_rfl) rfl
      obtain rfl : v158 = .int .i64 (roomF kq lq I) := hD 26 26 v158 (by kernel_rfl) rfl
      obtain rfl : v159 = .bool false := hD 27 27 v159 (by kernel_rfl) rfl
      obtain rfl : v160 = .bool false := hD 28 28 v160 (by kernel_rfl) rfl
      clear hD
      rw [show dstsU _ = [132, 133, 134, 135, 136, 137, 138, 139, 140, 141, 142, 143, 144, 145, 146, 147, 148, 149, 150, 151, 152, 153, 154, 155, 156, 157, 158, 159, 160] by kernel_rfl]
      simp only [putAll, List.setIfInBounds_toArray, List.set_cons_succ, List.set_cons_zero]
      replace E9 := Lib.hid (E9.out.ext hx)
      replace E10 := Lib.hid (E10.out.ext hx)
      replace B2r := Lib.hid (B2r.out.ext hx)
      replace C12 := Lib.hid (C12.out.ext hx)
      replace C13 := Lib.hid (C13.out.ext hx)
      replace C15 := Lib.hid (C15.out.ext hx)
      replace C17 := Lib.hid (C17.out.ext hx)
      replace C19 := Lib.hid (C19.out.ext hx)
      replace HQ := Lib.hid (HQ.out.ext ((Ext.refl _).trans hx))
      replace R1 := Lib.hid (R1.out.ext ((Ext.refl _).trans hx))
      replace R2 := Lib.hid (R2.out.ext ((Ext.refl _).trans hx))
      replace R3 := Lib.hid (R3.out.ext ((Ext.refl _).trans hx))
      replace R4 := Lib.hid (R4.out.ext ((Ext.refl _).trans hx))
      replace XR := Lib.hid (XR.out.trans ((Ext.refl _).trans hx))
      clear hx
      go_wp2
      go_roundw
      case rel => exact ⟨j + 1, by omega, by go_num, XR.out, E9.out, E10.out⟩
      case measure => simp [intOf]; omega
    · obtain rfl : j = 2 := by omega
      go_wp2
      go_ret
      exact Ret1.bool rfl (X1.out.trans XR.out)
end Go.Proofs.Ytkkldciofndedaa

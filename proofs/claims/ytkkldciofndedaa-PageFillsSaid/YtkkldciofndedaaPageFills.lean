/- the walk of PageFills. -/
import Derived.Test.YtkkldciofndedaaFillsPlain
import Derived.Test.YtkkldciofndedaaUpd2
namespace Go.Proofs.Ytkkldciofndedaa
open Go.RowKit
set_option linter.unusedVariables false

theorem fills_size (a : Int) (h0 : 0 ≤ a) (h1 : a ≤ 65535) : ∃ N : Nat, 1 + a.tmod 400 = (N : Int) ∧ 1 ≤ N ∧ N ≤ 400 := by
  rw [Int.tmod_eq_emod_of_nonneg h0]
  exact ⟨(1 + a % 400).toNat, by omega, by omega, by omega⟩

theorem Ext.upd1 {w0 w w' : World} {B : Nat} (h : Ext w0 w) (hu : Upd [B] w w') (hb : w0.heap.size ≤ B) : Ext w0 w' :=
  ⟨hu.os.trans h.out.os, hu.tape.trans h.out.tape, hu.output.trans h.out.output, Nat.le_trans h.size hu.size, fun g hg => (hu.block g (Nat.lt_of_lt_of_le hg h.size) (by simp; omega)).trans (h.block hg)⟩

set_option maxRecDepth 100000 in
set_option maxHeartbeats 8000000 in
theorem pagefills_any (a : Int) (w : World) (h0 : 0 ≤ a) (h1 : a ≤ 65535) :
    Calls Try.prog 9 #[.int .u16 a] w (Ret1 (.bool true) w) := by
  obtain ⟨N, hN, hN1, hN4⟩ := fills_size a h0 h1
  have ht : 0 ≤ a.tmod 400 ∧ a.tmod 400 < 400 := by omega
  have hw : IntKind.u16.wrap (a.tmod 400) = a.tmod 400 := by rw [IntKind.wrap_u16]; omega
  have hmk : ∀ W : World, (Instr.makeSlice 34 (.int .i64 N) (.int .i64 N)).run Try.prog W = .ok (.slice (some ⟨W.heap.size, 0, none⟩) N N) (W.alloc (.cells (madeCells #[.int .u8 0] N) 5)) := fun W => run_mk_bytes N (by omega) W
  have hcv := fun W => run_cv_bytes N W
  obtain ⟨z, hz⟩ : ∃ z, z = zerosS N := ⟨_, rfl⟩
  have hzz : z.size = N := by rw [hz, zerosS_size]
  rw [← hz] at hcv
  clear hz h0 h1
  go_enter Try.func9, Try.ntmps9
  go_wp2_with fail
  refine (sanity_any _).mono ?_
  rintro e w1 ⟨rfl, hx⟩
  have X1 := Lib.hid hx
  clear hx
  go_wp2_with fail
  have hz0 : 0 < z.size := by omega
  have hz4 : z.size ≤ 400 := by omega
  clear hmk hcv hw ht
  refine (new_any _ _).mono ?_
  rintro e w2 ⟨rfl, hx⟩
  have X2 := Lib.hid ((X1.out.alloc _).trans hx)
  have hb6 := X2.out.size
  clear hx hN
  go_wp2
  obtain ⟨b6, hb⟩ : ∃ b, b = w2.heap.size := ⟨_, rfl⟩
  rw [← hb] at hb6 ⊢
  have HBE := Lib.hid hb
  clear hb
  go_loopw [7] (fun v wr => ∃ (m : Nat) (A : Option Addr) (c : Nat), v = .int .i64 m ∧ m ≤ 24 ∧ 14 + m * (2 + z.size) ≤ 512 ∧ Blk wr b6 26 #[.int .i64 1, .int .i64 0, .slice A (rep m z).length c] ∧ wr.ownsRow 0 9 1 (.slice A (rep m z).length c) (rep m z).length ((rep m z).map Value.string) ∧ Ext w wr) (fun v _ => 24 - (intOf v).toNat)
  case atStart => exact ⟨0, none, 0, rfl, by omega, by omega, Blk.new' HBE.out, World.ownsRow_nil _ _ _ _, X2.out.alloc _⟩
  case round =>
    obtain ⟨m, A, c, rfl, hm, hs, hbk, ho, hx⟩ := hrel
    have HB := Lib.hid hbk
    have HO := Lib.hid ho
    have XR := Lib.hid hx
    clear hbk ho hx
    have hr := rep_right hz0 hz4 hm hs
    have hro := rep_room hz0 hz4 hm hr
    have HRO := Lib.hid (fun (W : World) (h : At W A ((rep m z).map Value.string)) => room_any 1 0 A c (rep m z) W h (right_small hr))
    have HFR := Lib.hid (fun (W : World) (h : At W A ((rep m z).map Value.string)) => free_any 1 0 A c (rep m z) 0 W h (right_small hr))
    rw [rep_free hz0 hm hr] at HFR
    obtain ⟨r, hrr⟩ : ∃ r, r = roomF 1 0 (rep m z) := ⟨_, rfl⟩
    rw [← hrr] at hro HRO
    have HR := Lib.hid hr
    clear hrr hr
    have c0 : wr.cell? ⟨b6, 0, none⟩ = some (.int .i64 1) := HB.out.cell 0
    have c1 : wr.cell? ⟨b6, 1, none⟩ = some (.int .i64 0) := HB.out.cell 1
    have c2 : wr.cell? ⟨b6, 2, none⟩ = some (.slice A (rep m z).length c) := HB.out.cell 2
    have c3 := HB.out.lt
    go_wp2_with fail
    refine (HRO.out _ (At.of_own HO.out)).mono ?_
    rintro e w3 ⟨rfl, hx⟩
    have HB3 := Lib.hid (HB.out.ext hx)
    have HO3 := Lib.hid (own_ext HO.out hx)
    have X3 := Lib.hid (XR.out.trans hx)
    clear hx c0 c1 c2 c3 HRO HB HO XR
    by_cases hc : (N : Int) ≤ r
    · have hc2 := hro.1 (by omega)
      obtain ⟨h24, h512⟩ := hc2
      rw [if_pos h24] at HFR
      have hm30 : (m : Int) < 30 := by omega
      have HPT := Lib.hid (show ∀ (A : Option Addr) (c : Nat) (W : World), At W A ((rep m z).map Value.string) → Calls Try.prog 18 #[.agg #[.int .i64 1, .int .i64 0, .slice A (rep m z).length c], .int .i64 m, .string z] W (PgPost 1 0 (rep (m + 1) z) 0 W) from
        fun A c W h => by rw [rep_len]; exact rep_putAny hz0 hz4 HR.out h24 h512 A c W h)
      have HRL := Lib.hid (rep_len m z)
      obtain ⟨R', hR'⟩ : ∃ x, x = rep (m + 1) z := ⟨_, rfl⟩
      obtain ⟨R, hR⟩ : ∃ x, x = rep m z := ⟨_, rfl⟩
      rw [← hR'] at HPT
      rw [← hR] at HPT HRL HFR HB3 HO3 ⊢
      have HRE := Lib.hid hR
      have HRE' := Lib.hid hR'
      clear hR hR' hro
      go_wp2_with fail
      refine wp_region_U (by kernel_rfl) [0, 0, 2, 0, 15, 31, 63, 63, 0, 383, 1023] [9] (fun kz W => match kz with | _ => Ext w3 W) (fun ix v σ W => match ix with | 0 => v = .agg #[.int .i64 1, .int .i64 0, .slice A R.length c] | 1 => v = .agg #[.int .i64 1, .int .i64 0, .slice A R.length c] | 2 => v = .int .i64 m | 3 => v = .string z | 4 => ∃ (A40 : Option Addr) (c40 : Nat), v = .tuple #[.agg #[.int .i64 1, .int .i64 0, .slice A40 (R'.length) c40], .int .i64 0] ∧ W.ownsRow 0 9 1 (.slice A40 R'.length c40) R'.length (R'.map Value.string) | 5 => ∃ (A40 : Option Addr) (c40 : Nat), v = .tuple #[.agg #[.int .i64 1, .int .i64 0, .slice A40 (R'.length) c40], .int .i64 0] ∧ W.ownsRow 0 9 1 (.slice A40 R'.length c40) R'.length (R'.map Value.string) | 6 => ∃ (A40 : Option Addr) (c40 : Nat), v = .agg #[.int .i64 1, .int .i64 0, .slice A40 (R'.length) c40] ∧ W.ownsRow 0 9 1 (.slice A40 R'.length c40) R'.length (R'.map Value.string) | 7 => v = .int .i64 0 | 8 => NewA 3 26 w3.heap.size v W | 9 => ∃ (B : Nat) (A40 : Option Addr) (c40 : Nat), σ 8 = .pointer (some ⟨B, 0, none⟩) ∧ w3.heap.size ≤ B ∧ Blk W B 26 #[.int .i64 1, .int .i64 0, .slice A40 (R'.length) c40] ∧ W.ownsRow 0 9 1 (.slice A40 R'.length c40) R'.length (R'.map Value.string) | 10 => v = .int .i64 0 | _ => True) (by kernel_rfl) (by kernel_rfl) (by decide) (by kernel_rfl) ?_ ?_ ?_ ?_ ?_ ?_ ?_
      · intro ix v σ σ' W hs h
        match ix, hs, h with
        | 0, hs, h => exact h
        | 1, hs, h => exact h
        | 2, hs, h => exact h
        | 3, hs, h => exact h
        | 4, hs, h => exact h
        | 5, hs, h => exact h
        | 6, hs, h => exact h
        | 7, hs, h => exact h
        | 8, hs, h => exact h
        | 9, hs, h => 
          have e8 := hs 8 8 (by kernel_rfl)
          simp only [e8] at h; exact h
        | 10, hs, h => exact h
        | _ + 11, _, _ => trivial
      · exact (Ext.refl w3).drew
      · intro kz W W' h hx
        match kz, h with
        | _, h => exact h.trans hx
      · intro ix v σ W W' h hx
        match ix, h with
        | 0, h => exact h
        | 1, h => exact h
        | 2, h => exact h
        | 3, h => exact h
        | 4, h => exact let ⟨A40, c40, he, ho40⟩ := h; ⟨A40, c40, he, own_ext ho40 hx⟩
        | 5, h => exact let ⟨A40, c40, he, ho40⟩ := h; ⟨A40, c40, he, own_ext ho40 hx⟩
        | 6, h => exact let ⟨A40, c40, he, ho40⟩ := h; ⟨A40, c40, he, own_ext ho40 hx⟩
        | 7, h => exact h
        | 8, h => exact NewA.ext h hx
        | 9, h => exact let ⟨B, A40, c40, he, hb, hk, ho40⟩ := h; ⟨B, A40, c40, he, hb, Blk.ext hk hx, own_ext ho40 hx⟩
        | 10, h => exact h
        | _ + 11, _ => trivial
      · refine ⟨⟨⟨⟨⟨⟨⟨⟨⟨⟨⟨trivial, ?_⟩, ?_⟩, ?_⟩, ?_⟩, ?_⟩, ?_⟩, ?_⟩, ?_⟩, ?_⟩, ?_⟩, ?_⟩
        · intro _ ρ W kz hS hJ hkl hbt hout hpre hpreN
          obtain rfl : kz = 0 := by have := hbt 0 0 (by kernel_rfl); omega
          have hx : Ext _ W := hJ
          refine GSay.none rfl ?_
          have f6 : ρ (.tmp 6) = .pointer (some ⟨b6, 0, none⟩) := hout 6 (by kernel_rfl)
          exact DoesU.value (v := .agg #[.int .i64 1, .int .i64 0, .slice A R.length c]) (w' := W) (by simp [go_sem, f6, (show W.cell? ⟨b6, 0, none⟩ = some (.int .i64 1) from ((HB3.out.ext hJ)).cell 0), (show W.cell? ⟨b6, 1, none⟩ = some (.int .i64 0) from ((HB3.out.ext hJ)).cell 1), (show W.cell? ⟨b6, 2, none⟩ = some (.slice A R.length c) from ((HB3.out.ext hJ)).cell 2)]) ⟨rfl, Ext.refl _⟩
        · intro _ ρ W kz hS hJ hkl hbt hout hpre hpreN
          obtain rfl : kz = 0 := by have := hbt 0 0 (by kernel_rfl); omega
          have hx : Ext _ W := hJ
          refine GSay.none rfl ?_
          have f6 : ρ (.tmp 6) = .pointer (some ⟨b6, 0, none⟩) := hout 6 (by kernel_rfl)
          exact DoesU.value (v := .agg #[.int .i64 1, .int .i64 0, .slice A R.length c]) (w' := W) (by simp [go_sem, f6, (show W.cell? ⟨b6, 0, none⟩ = some (.int .i64 1) from ((HB3.out.ext hJ)).cell 0), (show W.cell? ⟨b6, 1, none⟩ = some (.int .i64 0) from ((HB3.out.ext hJ)).cell 1), (show W.cell? ⟨b6, 2, none⟩ = some (.slice A R.length c) from ((HB3.out.ext hJ)).cell 2)]) ⟨rfl, Ext.refl _⟩
        · intro _ ρ W kz hS hJ hkl hbt hout hpre hpreN
          obtain rfl : kz = 0 := by have := hbt 0 0 (by kernel_rfl); omega
          have hx : Ext _ W := hJ
          refine GSay.none rfl ?_
          have f37 : ρ (.tmp 37) = .agg #[.int .i64 1, .int .i64 0, .slice A R.length c] := hpre 1 37 (by kernel_rfl)
          refine DoesU.call (f := 16) (args := #[.agg #[.int .i64 1, .int .i64 0, .slice A R.length c], .int .i64 0]) (w' := W) (by simp [go_sem, hS.func, f37, hS.const]) ?_
          refine (HFR.out _ (At.of_own (own_ext HO3.out hx))).mono ?_
          rintro e w6 ⟨rfl, hx6⟩
          exact ⟨_, rfl, rfl, hx6⟩
        · intro _ ρ W kz hS hJ hkl hbt hout hpre hpreN
          refine GSay.none rfl ?_
          have f5 : ρ (.tmp 5) = .string z := hout 5 (by kernel_rfl)
          exact DoesU.value (v := .string z) (w' := W) (by simp [go_sem, f5]) ⟨rfl, Ext.refl _⟩
        · intro _ ρ W kz hS hJ hkl hbt hout hpre hpreN
          obtain rfl : kz = 0 := by have := hbt 0 0 (by kernel_rfl); omega
          have hx : Ext _ W := hJ
          refine GSay.none rfl ?_
          have f36 : ρ (.tmp 36) = .agg #[.int .i64 1, .int .i64 0, .slice A R.length c] := hpre 0 36 (by kernel_rfl)
          have f38 : ρ (.tmp 38) = .int .i64 m := hpre 2 38 (by kernel_rfl)
          have f39 : ρ (.tmp 39) = .string z := hpre 3 39 (by kernel_rfl)
          refine DoesU.call (f := 18) (args := #[.agg #[.int .i64 1, .int .i64 0, .slice A R.length c], .int .i64 m, .string z]) (w' := W) (by simp [go_sem, hS.func, f36, f38, f39]) ?_
          refine (HPT.out _ _ _ (At.of_own (own_ext HO3.out hx))).mono ?_
          rintro e w6 ⟨A40, c40, rfl, ho40, hx6⟩
          exact ⟨_, rfl, ⟨A40, c40, rfl, own_mono ho40 (Nat.zero_le _)⟩, hx6⟩
        · intro _ ρ W kz hS hJ hkl hbt hout hpre hpreN
          refine GSay.none rfl ?_
          obtain ⟨A40, c40, f40, ho40⟩ := hpre 4 40 (by kernel_rfl)
          exact DoesU.value (v := .tuple #[.agg #[.int .i64 1, .int .i64 0, .slice A40 (R'.length) c40], .int .i64 0]) (w' := W) (by simp [go_sem, f40]) ⟨⟨A40, c40, rfl, ho40⟩, Ext.refl _⟩
        · intro _ ρ W kz hS hJ hkl hbt hout hpre hpreN
          refine GSay.none rfl ?_
          obtain ⟨A40, c40, f35, ho40⟩ := hpre 5 35 (by kernel_rfl)
          exact DoesU.value (v := .agg #[.int .i64 1, .int .i64 0, .slice A40 (R'.length) c40]) (w' := W) (by simp [go_sem, f35]) ⟨⟨A40, c40, rfl, ho40⟩, Ext.refl _⟩
        · intro _ ρ W kz hS hJ hkl hbt hout hpre hpreN
          refine GSay.none rfl ?_
          obtain ⟨A40, c40, f35, ho40⟩ := hpre 5 35 (by kernel_rfl)
          exact DoesU.value (v := .int .i64 0) (w' := W) (by simp [go_sem, f35]) ⟨rfl, Ext.refl _⟩
        · intro _ ρ W kz hS hJ hkl hbt hout hpre hpreN
          obtain rfl : kz = 0 := by have := hbt 0 0 (by kernel_rfl); omega
          have hx : Ext _ W := hJ
          refine GSay.none rfl ?_
          exact DoesU.value (v := .pointer (some ⟨W.heap.size, 0, none⟩)) (w' := W.alloc (.cells #[.int .i64 0, .int .i64 0, .slice none 0 0] 26)) (by simp [go_sem]) ⟨NewA.new hx.size, (Ext.refl W).alloc _⟩
        · intro hz; exact absurd (by decide) hz
        · intro _ ρ W kz hS hJ hkl hbt hout hpre hpreN
          refine GSay.none rfl ?_
          have f42 : ρ (.tmp 42) = .int .i64 0 := hpre 7 42 (by kernel_rfl)
          exact DoesU.value (v := .int .i64 0) (w' := W) (by simp [go_sem, f42]) ⟨rfl, Ext.refl _⟩
      · refine ⟨trivial, ?_⟩
        · intro ρ W hS hJ hout hpre hpreN
          refine ⟨rfl, ?_⟩
          obtain ⟨B8, cs8, f8, hb8, hk8, hn8⟩ := hpre 8 8 (by kernel_rfl)
          obtain ⟨A40, c40, f41, ho40⟩ := hpre 6 41 (by kernel_rfl)
          obtain ⟨y0, y1, y2, rfl⟩ := arr3 hn8
          have c0 : W.cell? ⟨B8, 0, none⟩ = some y0 := hk8.cell 0; have z0 := hk8.frozen 0
          have c1 : W.cell? ⟨B8, 1, none⟩ = some y1 := hk8.cell 1; have z1 := hk8.frozen 1
          have c2 : W.cell? ⟨B8, 2, none⟩ = some y2 := hk8.cell 2; have z2 := hk8.frozen 2
          have hU : Upd [B8] W (((W.setCell ⟨B8, 0, none⟩ (.int .i64 1)).setCell ⟨B8, 1, none⟩ (.int .i64 0)).setCell ⟨B8, 2, none⟩ (.slice A40 (R'.length) c40)) := ((((Upd.refl _ _).set (.inl (by simp)) _).set (.inl (by simp)) _).set (.inl (by simp)) _)
          refine DoesU.skip (w' := (((W.setCell ⟨B8, 0, none⟩ (.int .i64 1)).setCell ⟨B8, 1, none⟩ (.int .i64 0)).setCell ⟨B8, 2, none⟩ (.slice A40 (R'.length) c40))) (by simp [go_sem, f8, f41, c0, c1, c2, z0, z1, z2]) ⟨⟨B8, A40, c40, f8, hb8, (((hk8.set_ 0 _).set_ 1 _).set_ 2 _), own_upd1 ho40 hk8 (by decide) hU⟩, hJ.upd hU (by simpa using hb8), fun jz u σ hj h => match jz, hj, h with | 0, _, h => h | 1, _, h => h | 2, _, h => h | 3, _, h => h | 4, _, h => let ⟨A40, c40, he, ho40⟩ := h; ⟨A40, c40, he, own_upd1 ho40 hk8 (by decide) hU⟩ | 5, _, h => let ⟨A40, c40, he, ho40⟩ := h; ⟨A40, c40, he, own_upd1 ho40 hk8 (by decide) hU⟩ | 6, _, h => let ⟨A40, c40, he, ho40⟩ := h; ⟨A40, c40, he, own_upd1 ho40 hk8 (by decide) hU⟩ | 7, _, h => h | 8, _, h => NewA.set (NewA.set (NewA.set (h))) | 9, hj, _ => absurd rfl hj | 10, _, h => h | _ + 11, _, _ => trivial⟩
      intro vs w4 σ hl hσ hD hN hJ
      replace hl := hl.trans (show (idxU _).length = 10 by kernel_rfl)
      rcases vs with _ | ⟨v36, vs⟩; · simp at hl
      rcases vs with _ | ⟨v37, vs⟩; · simp at hl
      rcases vs with _ | ⟨v38, vs⟩; · simp at hl
      rcases vs with _ | ⟨v39, vs⟩; · simp at hl
      rcases vs with _ | ⟨v40, vs⟩; · simp at hl
      rcases vs with _ | ⟨v35, vs⟩; · simp at hl
      rcases vs with _ | ⟨v41, vs⟩; · simp at hl
      rcases vs with _ | ⟨v42, vs⟩; · simp at hl
      rcases vs with _ | ⟨v8, vs⟩; · simp at hl
      rcases vs with _ | ⟨v9, vs⟩; · simp at hl
      obtain rfl : vs = [] := List.eq_nil_of_length_eq_zero (by simpa using hl)
      clear hl
      obtain rfl : v36 = .agg #[.int .i64 1, .int .i64 0, .slice A R.length c] := hD 0 0 v36 (by kernel_rfl) rfl
      obtain rfl : v37 = .agg #[.int .i64 1, .int .i64 0, .slice A R.length c] := hD 1 1 v37 (by kernel_rfl) rfl
      obtain rfl : v38 = .int .i64 m := hD 2 2 v38 (by kernel_rfl) rfl
      obtain rfl : v39 = .string z := hD 3 3 v39 (by kernel_rfl) rfl
      obtain ⟨A40, c40, rfl, ho40⟩ := hD 4 4 v40 (by kernel_rfl) rfl
      obtain ⟨A40, c40, rfl, ho40⟩ := hD 5 5 v35 (by kernel_rfl) rfl
      obtain ⟨A40, c40, rfl, ho40⟩ := hD 6 6 v41 (by kernel_rfl) rfl
      obtain rfl : v42 = .int .i64 0 := hD 7 7 v42 (by kernel_rfl) rfl
      obtain ⟨B8, cs8, rfl, hb8, hk8, hn8⟩ := hD 8 8 v8 (by kernel_rfl) rfl
      obtain rfl : v9 = .int .i64 0 := hD 9 10 v9 (by kernel_rfl) rfl
      have hz9 := hN 9 (by decide) (by kernel_rfl)
      simp only [] at hz9
      rw [hσ 8 8 _ (by kernel_rfl) rfl] at hz9
      obtain ⟨B', A40, c40, he8, hb', hk8, ho40⟩ := hz9
      obtain rfl := ptr_inj he8; clear he8 hb'
      clear hD hN hσ
      rw [show dstsU _ = [36, 37, 38, 39, 40, 35, 41, 42, 8, 9] by kernel_rfl]
      simp only [putAll, List.setIfInBounds_toArray, List.set_cons_succ, List.set_cons_zero]
      have HB4 := Lib.hid (HB3.out.ext hJ)
      have X4 := Lib.hid (X3.out.trans hJ)
      have HK8 := Lib.hid hk8
      have HO4 := Lib.hid ho40
      have c0 : w4.cell? ⟨B8, 0, none⟩ = some (.int .i64 1) := hk8.cell 0
      have c1 : w4.cell? ⟨B8, 1, none⟩ = some (.int .i64 0) := hk8.cell 1
      have c2 : w4.cell? ⟨B8, 2, none⟩ = some (.slice A40 R'.length c40) := hk8.cell 2
      have c3 := hk8.lt
      have d0 : w4.cell? ⟨b6, 0, none⟩ = some (.int .i64 1) := HB4.out.cell 0
      have d1 : w4.cell? ⟨b6, 1, none⟩ = some (.int .i64 0) := HB4.out.cell 1
      have d2 : w4.cell? ⟨b6, 2, none⟩ = some (.slice A R.length c) := HB4.out.cell 2
      have d3 := HB4.out.lt
      have f0 := HB4.out.frozen 0
      have f1 := HB4.out.frozen 1
      have f2 := HB4.out.frozen 2
      clear hJ hk8 ho40 hb8
      go_wp2
      go_roundw
      case rel =>
        refine ⟨m + 1, A40, c40, by go_num, by omega, h512, ?_, ?_, ((X4.out.set hb6 _).set hb6 _).set hb6 _⟩
        · rw [← HRE'.out]; exact ((HB4.out.set_ 0 _).set_ 1 _).set_ 2 _
        · rw [← HRE'.out]; exact own_upd1 HO4.out HB4.out (by decide) ((((Upd.refl [b6] w4).set (.inl (by simp)) _).set (.inl (by simp)) _).set (.inl (by simp)) _)
      case measure => simp [intOf]; omega
    · have hst := rep_stop hz0 hs hm (fun h => hc (by have := hro.2 h; omega))
      have HBY := Lib.hid (fun (W : World) (h : At W A ((rep m z).map Value.string)) => bytes_right 1 0 A (rep m z).length c (rep m z) W rfl h HR.out)
      rw [rep_plain m hz0] at HBY
      have hT : 6 + sizeT (rep m z) ≤ 504 := by rw [rep_sizeT]; omega
      have HRL := Lib.hid (rep_len m z)
      obtain ⟨R, hR⟩ : ∃ x, x = rep m z := ⟨_, rfl⟩
      rw [← hR] at HBY HRL HB3 HO3 hT
      have hsz := bytesF_size 1 0 R hT
      have hsum := bytes_sum 1 0 R
      have hrest := bytes_rest 1 0 R hT
      have hkind := bytes_kind 1 0 R (by omega) (by omega)
      have hlsn := bytes_lsn 1 0 R (by omega) (by omega)
      have hmany := bytes_many 1 0 R (by rw [HRL.out]; omega)
      have HTX := Lib.hid (fun (j : Nat) (hj : j < R.length) => bytes_text 1 0 R hT j hj)
      have hRj : ∀ (j : Nat) (hj : j < R.length), R[j] = z := by
        intro j hj
        have h1 : R[j] ∈ rep m z := by rw [← hR]; exact List.getElem_mem hj
        exact List.eq_of_mem_replicate h1
      have HRJ := Lib.hid hRj
      obtain ⟨S, hS⟩ : ∃ x, x = bytesF 1 0 R := ⟨_, rfl⟩
      rw [← hS] at HBY hsz hsum hrest hkind hlsn hmany HTX
      clear hR hS hRj HFR hro
      have c0 : w3.cell? ⟨b6, 0, none⟩ = some (.int .i64 1) := HB3.out.cell 0
      have c1 : w3.cell? ⟨b6, 1, none⟩ = some (.int .i64 0) := HB3.out.cell 1
      have c2 : w3.cell? ⟨b6, 2, none⟩ = some (.slice A R.length c) := HB3.out.cell 2
      have c3 := HB3.out.lt
      have HSUM := Lib.hid hsum
      have HREST := Lib.hid hrest
      have HKIND := Lib.hid hkind
      have HLSN := Lib.hid hlsn
      have HMANY := Lib.hid hmany
      have HST := Lib.hid hst
      clear hsum hrest hkind hlsn hmany hst
      go_wp2_with fail
      refine (HBY.out _ (At.of_own HO3.out)).mono ?_
      rintro e w4 ⟨rfl, hx⟩
      have X4 := Lib.hid (X3.out.trans hx)
      clear hx c0 c1 c2 c3
      go_wp2_with fail
      refine (oread_any _ _ (by rw [hsz]; decide)).mono ?_
      rintro e w5 ⟨rfl, hrd, hx⟩
      obtain ⟨B, hB⟩ : ∃ x, x = w4.heap.size := ⟨_, rfl⟩
      rw [← hB] at hrd ⊢
      have RD := Lib.hid hrd
      have X5 := Lib.hid (X4.out.trans hx)
      have hBw : w.heap.size ≤ B := by rw [hB]; exact X4.out.size
      clear hx hrd hB
      have hkd : numS S 4 1 = 1 := by have := HKIND.out; omega
      have hls : numS S 5 4 = 0 := by have := HLSN.out; omega
      have hmn : numS S 9 1 = m := by rw [HMANY.out, HRL.out]
      have HKD := Lib.hid hkd
      have HLS := Lib.hid hls
      have HMN := Lib.hid hmn
      obtain ⟨sm, hsm⟩ : ∃ x, x = sumF (baOf (bodyL 1 0 R)) := ⟨_, rfl⟩
      have hsml : sm < 4294967296 := by rw [hsm]; exact sumF_lt _
      rw [← hsm] at HSUM
      have HSM := Lib.hid hsm
      clear hkd hls hmn hsm
      go_wp2_with fail
      refine (num_ok B S 0 4 _ RD.out (by omega) (by rw [hsz]; decide)).mono ?_
      rw [HSUM.out]
      rintro e w6 ⟨rfl, hrd, hu⟩
      replace RD := Lib.hid hrd
      have X6 := Lib.hid (Ext.upd1 X5.out hu hBw)
      clear hrd hu
      go_wp2_with fail
      refine (num_ok B S 4 1 _ RD.out (by omega) (by rw [hsz]; decide)).mono ?_
      rw [HKD.out]
      rintro e w7 ⟨rfl, hrd, hu⟩
      replace RD := Lib.hid hrd
      have X7 := Lib.hid (Ext.upd1 X6.out hu hBw)
      clear hrd hu
      go_wp2_with fail
      refine (num_ok B S 5 4 _ RD.out (by omega) (by rw [hsz]; decide)).mono ?_
      rw [HLS.out]
      rintro e w8 ⟨rfl, hrd, hu⟩
      replace RD := Lib.hid hrd
      have X8 := Lib.hid (Ext.upd1 X7.out hu hBw)
      clear hrd hu
      go_wp2_with fail
      refine (num_ok B S 9 1 _ RD.out (by omega) (by rw [hsz]; decide)).mono ?_
      rw [HMN.out]
      rintro e w9 ⟨rfl, hrd, hu⟩
      replace RD := Lib.hid hrd
      have X9 := Lib.hid (Ext.upd1 X8.out hu hBw)
      clear hrd hu
      have RD0 : Hid (Rd 95 w9 B S (10 + sizeT (R.take 0)) false) := Lib.hid (by simpa [sizeT] using RD.out)
      have hRl : R.length = m := HRL.out
      clear RD
      go_wp2
      go_loopw [17] (fun v wq => ∃ i : Nat, v = .int .i64 i ∧ i ≤ m ∧ Rd 95 wq B S (10 + sizeT (R.take i)) false ∧ Ext w wq) (fun v _ => m - (intOf v).toNat)
      case atStart => exact ⟨0, rfl, Nat.zero_le _, RD0.out, X9.out⟩
      case round =>
        obtain ⟨i, rfl, hi, hrd, hx⟩ := hrel
        have RQ := Lib.hid hrd
        have XQ := Lib.hid hx
        clear hrd hx
        rcases Nat.lt_or_ge i m with hlt | hge
        · have hil : (i : Int) < (m : Int) := by omega
          obtain ⟨t1, t2, t3, t4⟩ := HTX.out i (by omega)
          rw [HRJ.out i (by omega)] at t3
          obtain ⟨p, hp⟩ : ∃ x, x = 10 + sizeT (R.take i) := ⟨_, rfl⟩
          rw [← hp] at RQ t1 t2 t3 t4
          have T3 := Lib.hid t3
          have T4 := Lib.hid t4
          clear hp t3 t4
          go_wp2_with fail
          refine (text_ok B S p _ RQ.out t1 t2).mono ?_
          rw [T3.out]
          rintro e w10 ⟨rfl, hrd, hu⟩
          have R10 := Lib.hid hrd
          have X10 := Lib.hid (Ext.upd1 XQ.out hu hBw)
          clear hrd hu t1 t2
          go_wp2
          go_roundw
          case rel => exact ⟨i + 1, by go_num, by omega, by rw [← T4.out]; exact R10.out, X10.out⟩
          case measure => simp [intOf]; omega
        · obtain rfl : i = m := by omega
          have hT2 : sizeT (R.take i) = sizeT R := by rw [List.take_of_length_le (by omega)]
          rw [hT2] at RQ
          have hmin : min 24 (498 / ((N : Int) + 2)) = (i : Int) := by
            have h1 := HST.out
            rw [hzz] at h1
            obtain ⟨q, hq⟩ : ∃ q, q = 498 / (N + 2) := ⟨_, rfl⟩
            have h2 : (498 : Int) / ((N : Int) + 2) = (q : Int) := by rw [hq]; rfl
            rw [h2, h1, ← hq]
            omega
          have hleft : (4 : Int) ≤ ((S.size - (10 + sizeT R) : Nat) : Int) := by omega
          obtain ⟨lf, hlf⟩ : ∃ x, x = S.size - (10 + sizeT R) := ⟨_, rfl⟩
          rw [← hlf] at hleft
          have HLF := Lib.hid hlf
          clear hlf
          have hbl : (baOf (bodyL 1 0 R)).size ≤ 9223372036854775807 := by rw [baOf_size, bodyL_len 1 0 R hT]; omega
          obtain ⟨b, hb⟩ : ∃ x, x = baOf (bodyL 1 0 R) := ⟨_, rfl⟩
          rw [← hb] at hbl HREST HSM
          clear hb
          go_wp2_with fail
          rw [HREST.out]
          refine (osum_any b _ hbl).mono ?_
          rw [← HSM.out]
          rintro e w10 ⟨rfl, hx⟩
          have R10 := Lib.hid (show Rd 95 w10 B S (10 + sizeT R) false from ⟨RQ.out.1.ext hx, RQ.out.2.1, RQ.out.2.2⟩)
          have X10 := Lib.hid (XQ.out.trans hx)
          clear hx
          go_wp2_with fail
          refine (failed_any B S _ false _ R10.out).mono ?_
          rintro e w11 ⟨rfl, rfl⟩
          go_wp2_with fail
          refine (left_any B S _ false _ R10.out).mono ?_
          rw [← HLF.out]
          rintro e w12 ⟨rfl, hx⟩
          have X12 := Lib.hid (X10.out.trans hx)
          clear hx
          go_wp2
          go_ret
          exact Ret1.bool rfl X12.out
end Go.Proofs.Ytkkldciofndedaa

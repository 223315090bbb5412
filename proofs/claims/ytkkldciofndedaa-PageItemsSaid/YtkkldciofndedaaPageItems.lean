/- the walk of PageItems. -/
import Derived.Test.YtkkldciofndedaaItemsPlain
import Derived.Test.YtkkldciofndedaaPageOrder
namespace Go.Proofs.Ytkkldciofndedaa
open Go.RowKit
set_option linter.unusedVariables false

set_option maxRecDepth 100000 in
set_option maxHeartbeats 4000000 in
theorem pageitems_any (kA lA : Int) (A : Option Addr) (n c : Nat) (ss : List ByteArray) (slot : Int) (s0 : ByteArray) (w : World) (hn : n = ss.length) (h : At w A (ss.map Value.string)) (hl : ss.length ≤ 9223372036854775807)
    (hs0 : s0.size ≤ 9223372036854775807) :
    Calls Try.prog 6 #[.agg #[.int .i64 kA, .int .i64 lA, .slice A n c], .int .i64 slot, .string s0] w (Ret1 (.bool true) w) := by
  subst hn
  have H := Lib.hid h; clear h
  obtain ⟨kk, hkk⟩ : ∃ x, x = kindF kA := ⟨_, rfl⟩
  obtain ⟨ll, hll⟩ : ∃ x, x = lsnF lA := ⟨_, rfl⟩
  obtain ⟨I, hI⟩ : ∃ x, x = mkL kA lA ss := ⟨_, rfl⟩
  have hr : rightB kk ll I = true := by rw [hkk, hll, hI]; exact mkL_right kA lA ss
  have HP := Lib.hid (show plainL I = I by rw [hI]; exact mkL_plain kA lA ss)
  have HM := Lib.hid (show ∀ (A : Option Addr) (c : Nat) (w : World), At w A (ss.map Value.string) → Calls Try.prog 14 #[.agg #[.int .i64 kA, .int .i64 lA, .slice A ss.length c]] w (PgOne kk ll I w) by
    rw [hkk, hll, hI]; exact fun A c w h => lmade_any kA lA A _ c ss w rfl h hl)
  clear hkk hll hI
  have HR := Lib.hid hr
  have hI24 : I.length ≤ 24 := (right_parts hr).2.2.1.1
  clear hr
  go_enter Try.func6, Try.ntmps6
  go_wp2_with fail
  refine (sanity_any _).mono ?_
  rintro e w1 ⟨rfl, hx⟩
  have X1 := Lib.hid (((Ext.refl w).alloc _).trans hx)
  have p0 : w1.cell? ⟨w.heap.size, 0, none⟩ = some (.int .i64 kA) := hx.cell_new 0
  have p1 : w1.cell? ⟨w.heap.size, 1, none⟩ = some (.int .i64 lA) := hx.cell_new 1
  have p2 : w1.cell? ⟨w.heap.size, 2, none⟩ = some (.slice A ss.length c) := hx.cell_new 2
  clear hx
  go_wp2_with fail
  refine (HM.out _ _ _ (H.out.ext X1.out)).mono ?_
  rintro e w2 ⟨A2, c2, rfl, hown, hx⟩
  have X2 := Lib.hid (X1.out.trans hx)
  have HI := Lib.hid (At.of_own hown)
  clear p0 p1 p2 hx hown
  obtain ⟨X0, hX0, hX0s, hX0n⟩ := cut_at s0 400 (by omega)
  go_must (go_upto_region 5 with fail)
  obtain ⟨i, hi, ei⟩ := mod_slot slot 24 (by omega) (by omega)
  obtain ⟨x, hx⟩ : ∃ x, x = s0.extract 0 X0 := ⟨_, rfl⟩
  have hxs : x.size ≤ 400 := by rw [hx]; exact cut_size s0 (by omega)
  rw [ei, ← hx]
  clear ei hx hX0 hX0s hX0n
  go_wp2_with fail
  refine (put_abs _ _ _ _ _ _ _ _ _ rfl (HI.out.ext ((Ext.refl w2).alloc _)) HR.out (by omega)).mono ?_
  rintro e w3 ⟨k3, l3, Q, e3, A3, c3, rfl, P3, O3, Z3⟩
  have B8 := Lib.hid ((Blk.new w2 26 #[.int .i64 kk, .int .i64 ll, .slice A2 I.length c2]).ext Z3.out)
  have X3 := Lib.hid ((X2.out.alloc _).trans Z3.out)
  have HI3 := Lib.hid ((HI.out.ext ((Ext.refl w2).alloc _)).ext Z3.out)
  have hz83 : w2.heap.size < w3.heap.size := Z3.out.size1
  clear Z3 HI X2
  by_cases z3 : e3 = 0
  · obtain ⟨hk3, hl3, hQ, hE1, hE2, hE3, hE4⟩ := back_law HR.out HP.out P3.out z3
    have HD := Lib.hid (do_eq (lsn := 77) P3.out z3)
    subst z3
    subst hk3
    subst hl3
    obtain ⟨s, hs⟩ : ∃ s, s = itemF I i := ⟨_, rfl⟩
    rw [← hs] at hE1 hE2 hE3 hE4
    have hss : s.size ≤ 400 := by rw [hs]; exact item_small HR.out i
    have Hs := Lib.hid hs
    have E1 := Lib.hid hE2
    have E2 := Lib.hid hE3
    have E3 := Lib.hid hE4
    have E4 := Lib.hid hE1
    have HQ := Lib.hid hQ
    have HSQ := Lib.hid (right_small P3.out.right)
    have hQ24 : Q.length ≤ 24 := (right_parts P3.out.right).2.2.1.1
    clear hE1 hE2 hE3 hE4 hQ hs
    go_wp2
    go_loopw [13] (fun v wr => ∃ j : Nat, j ≤ 24 ∧ v = .int .i64 j ∧ Ext (w3.alloc (.cells #[.int .i64 k3, .int .i64 l3, .slice A3 Q.length c3] 26)) wr) (fun v _ => 24 - (intOf v).toNat)
    case atStart => exact ⟨0, Nat.zero_le _, rfl, Ext.refl _⟩
    case round =>
      obtain ⟨j, hj, rfl, hx⟩ := hrel
      have XR := Lib.hid hx
      clear hx
      have C8 := Lib.hid ((B8.out.alloc (.cells #[.int .i64 k3, .int .i64 l3, .slice A3 Q.length c3] 26)).ext XR.out)
      have C11 := Lib.hid ((Blk.new w3 26 #[.int .i64 k3, .int .i64 l3, .slice A3 Q.length c3]).ext XR.out)
      have HIr := Lib.hid ((HI3.out.ext ((Ext.refl w3).alloc _)).ext XR.out)
      have HQr := Lib.hid (((At.of_own O3.out).ext ((Ext.refl w3).alloc _)).ext XR.out)
      rcases Nat.lt_or_ge j 24 with hlt | hge
      · obtain ⟨t, ht⟩ : ∃ t, t = itemF I j := ⟨_, rfl⟩
        have Ht := Lib.hid ht
        clear ht
        have hjb : (j : Int) < 24 := by omega
        have p0 : wr.cell? ⟨w2.heap.size, 0, none⟩ = some (.int .i64 k3) := C8.out.cell 0
        have p1 : wr.cell? ⟨w2.heap.size, 1, none⟩ = some (.int .i64 l3) := C8.out.cell 1
        have p2 : wr.cell? ⟨w2.heap.size, 2, none⟩ = some (.slice A2 I.length c2) := C8.out.cell 2
        by_cases hji : j = i
        · have hji' : ((j : Int) == (i : Int)) = true := by rw [hji]; exact beq_self_eq_true _
          have HQt := Lib.hid (show itemF Q j = x by rw [HQ.out, item_put, if_pos hji])
          clear hji
          go_wp2_with fail
          refine (at_any _ _ _ _ _ _ _ _ rfl HIr.out (by omega)).mono ?_
          rw [← Ht.out]
          rintro e w4 ⟨rfl, hx⟩
          have D11 := Lib.hid (C11.out.ext hx)
          have XS := Lib.hid (XR.out.trans hx)
          have HQs := Lib.hid (HQr.out.ext hx)
          clear hx p0 p1 p2
          have p0 : w4.cell? ⟨w3.heap.size, 0, none⟩ = some (.int .i64 k3) := D11.out.cell 0
          have p1 : w4.cell? ⟨w3.heap.size, 1, none⟩ = some (.int .i64 l3) := D11.out.cell 1
          have p2 : w4.cell? ⟨w3.heap.size, 2, none⟩ = some (.slice A3 Q.length c3) := D11.out.cell 2
          go_wp2_with fail
          refine (at_any _ _ _ _ _ _ _ _ rfl HQs.out (by omega)).mono ?_
          rw [HQt.out]
          rintro e w5 ⟨rfl, hx⟩
          have XT := Lib.hid (XS.out.trans hx)
          clear hx p0 p1 p2
          go_wp2
          go_roundw
          case rel => exact ⟨j + 1, by omega, by go_num, XT.out⟩
          case measure => simp [intOf]; omega
        · have hji' : ((j : Int) == (i : Int)) = false := beq_eq_false_iff_ne.2 (by omega)
          have HQt := Lib.hid (show itemF Q j = t by rw [HQ.out, item_put, if_neg hji, Ht.out])
          clear hji
          go_wp2_with fail
          refine (at_any _ _ _ _ _ _ _ _ rfl HIr.out (by omega)).mono ?_
          rw [← Ht.out]
          rintro e w4 ⟨rfl, hx⟩
          have D11 := Lib.hid (C11.out.ext hx)
          have XS := Lib.hid (XR.out.trans hx)
          have HQs := Lib.hid (HQr.out.ext hx)
          clear hx p0 p1 p2
          have p0 : w4.cell? ⟨w3.heap.size, 0, none⟩ = some (.int .i64 k3) := D11.out.cell 0
          have p1 : w4.cell? ⟨w3.heap.size, 1, none⟩ = some (.int .i64 l3) := D11.out.cell 1
          have p2 : w4.cell? ⟨w3.heap.size, 2, none⟩ = some (.slice A3 Q.length c3) := D11.out.cell 2
          go_wp2_with fail
          refine (at_any _ _ _ _ _ _ _ _ rfl HQs.out (by omega)).mono ?_
          rw [HQt.out]
          rintro e w5 ⟨rfl, hx⟩
          have XT := Lib.hid (XS.out.trans hx)
          clear hx p0 p1 p2
          go_wp2
          go_roundw
          case rel => exact ⟨j + 1, by omega, by go_num, XT.out⟩
          case measure => simp [intOf]; omega
      · obtain rfl : j = 24 := by omega
        clear hge
        go_must (go_upto_region 16 with fail)
        have HXW := XR
        have HAI := Lib.hid (show ∀ W, Ext wr W → At W A2 (I.map Value.string) from fun W hx => HIr.out.ext hx)
        have HAQ := Lib.hid (show ∀ W, Ext wr W → At W A3 (Q.map Value.string) from fun W hx => HQr.out.ext hx)
        have pk0 := Keeps.of (p := ⟨w2.heap.size, 0, none⟩) (x := .int .i64 k3) (C8.out.cell 0)
        have pk1 := Keeps.of (p := ⟨w2.heap.size, 1, none⟩) (x := .int .i64 l3) (C8.out.cell 1)
        have pk2 := Keeps.of (p := ⟨w2.heap.size, 2, none⟩) (x := .slice A2 I.length c2) (C8.out.cell 2)
        have qk0 := Keeps.of (p := ⟨w3.heap.size, 0, none⟩) (x := .int .i64 k3) (C11.out.cell 0)
        have qk1 := Keeps.of (p := ⟨w3.heap.size, 1, none⟩) (x := .int .i64 l3) (C11.out.cell 1)
        have qk2 := Keeps.of (p := ⟨w3.heap.size, 2, none⟩) (x := .slice A3 Q.length c3) (C11.out.cell 2)
        -- REGION ops6.txt items16.spec
        refine wp_region_steps1 (by kernel_rfl) 10 8 (fun ix v W => match ix with | 0 => v = .agg #[.int .i64 k3, .int .i64 l3, .slice A3 Q.length c3] | 1 => v = .int .i64 i | 2 => v = .agg #[.int .i64 k3, .int .i64 l3, .slice A2 I.length c2] | 3 => v = .int .i64 i | 4 => v = .string s | 5 => PeVal k3 l3 I 0 0 v W | 6 => PeVal k3 l3 I 0 0 v W | 7 => PgVal k3 l3 I 0 v W | 8 => v = .int .i64 0 | 9 => NewVar 26 PZ (w3.heap.size + 1) v W | _ => True) (by decide) (by kernel_rfl) (by kernel_rfl) (by decide) (by kernel_rfl) (by kernel_rfl) (by kernel_rfl) (by kernel_rfl) ?rgLast ?rgStab ?rgSteps ?rgIdle ?rgRest
        case rgLast => exact ⟨rfl, rfl, fun a v => last_store _ _ _ _ _ _ _ _ (by decide) (by decide)⟩
        case rgStab =>
          intro ix v W W' h hx
          match ix, h with
          | 0, h => exact h
          | 1, h => exact h
          | 2, h => exact h
          | 3, h => exact h
          | 4, h => exact h
          | 5, h => exact PeVal.ext h hx
          | 6, h => exact PeVal.ext h hx
          | 7, h => exact PgVal.ext h hx
          | 8, h => exact h
          | 9, h => exact NewVar.ext h hx
          | _ + 10, _ => trivial
        case rgSteps =>
          refine ⟨⟨⟨⟨⟨⟨⟨⟨⟨⟨trivial, ?s0⟩, ?s1⟩, ?s2⟩, ?s3⟩, ?s4⟩, ?s5⟩, ?s6⟩, ?s7⟩, ?s8⟩, ?s9⟩
          case s0 =>
            intro _
            intro ρ W hS hx hout hpre
            have f11 : ρ (.tmp 11) = .pointer (some ⟨w3.heap.size, 0, none⟩) := hout 11 (by kernel_rfl)
            exact OpDoes.value (v := .agg #[.int .i64 k3, .int .i64 l3, .slice A3 Q.length c3]) (w' := W) (by simp [go_sem, f11, qk0 W hx, qk1 W hx, qk2 W hx]) ⟨rfl, Ext.refl _⟩
          case s1 =>
            intro _
            intro ρ W hS hx hout hpre
            have f9 : ρ (.tmp 9) = .int .i64 i := hout 9 (by kernel_rfl)
            exact OpDoes.value (v := .int .i64 i) (w' := W) (by simp [go_sem, f9]) ⟨rfl, Ext.refl _⟩
          case s2 =>
            intro _
            intro ρ W hS hx hout hpre
            have f8 : ρ (.tmp 8) = .pointer (some ⟨w2.heap.size, 0, none⟩) := hout 8 (by kernel_rfl)
            exact OpDoes.value (v := .agg #[.int .i64 k3, .int .i64 l3, .slice A2 I.length c2]) (w' := W) (by simp [go_sem, f8, pk0 W hx, pk1 W hx, pk2 W hx]) ⟨rfl, Ext.refl _⟩
          case s3 =>
            intro _
            intro ρ W hS hx hout hpre
            have f9 : ρ (.tmp 9) = .int .i64 i := hout 9 (by kernel_rfl)
            exact OpDoes.value (v := .int .i64 i) (w' := W) (by simp [go_sem, f9]) ⟨rfl, Ext.refl _⟩
          case s4 =>
            intro _
            intro ρ W hS hx hout hpre
            have f71 : ρ (.tmp 71) = .agg #[.int .i64 k3, .int .i64 l3, .slice A2 I.length c2] := hpre 2 71 (by kernel_rfl)
            have f72 : ρ (.tmp 72) = .int .i64 i := hpre 3 72 (by kernel_rfl)
            refine OpDoes.call (f := 17) (args := #[.agg #[.int .i64 k3, .int .i64 l3, .slice A2 I.length c2], .int .i64 i]) (w' := W) (by simp [go_sem, hS.func, f71, f72]) ?_
            refine (at_any _ _ _ _ _ _ _ _ rfl (HAI.out W hx) (by omega)).mono ?_
            rw [← Hs.out]
            rintro e w6 ⟨rfl, hx6⟩
            exact ⟨_, rfl, rfl, hx6⟩
          case s5 =>
            intro _
            intro ρ W hS hx hout hpre
            have f69 : ρ (.tmp 69) = .agg #[.int .i64 k3, .int .i64 l3, .slice A3 Q.length c3] := hpre 0 69 (by kernel_rfl)
            have f70 : ρ (.tmp 70) = .int .i64 i := hpre 1 70 (by kernel_rfl)
            have f73 : ρ (.tmp 73) = .string s := hpre 4 73 (by kernel_rfl)
            refine OpDoes.call (f := 18) (args := #[.agg #[.int .i64 k3, .int .i64 l3, .slice A3 Q.length c3], .int .i64 i, .string s]) (w' := W) (by simp [go_sem, hS.func, f69, f70, f73]) ?_
            refine (put_any _ _ _ _ _ _ _ _ _ rfl (HAQ.out W hx) HSQ.out (by omega)).mono ?_
            rw [put_eq, E1.out, E2.out, E3.out, E4.out]
            rintro e w6 ⟨A6, c6, rfl, hown6, hx6⟩
            exact ⟨_, rfl, ⟨A6, c6, rfl, own_mono hown6 (Nat.zero_le _)⟩, hx6⟩
          case s6 =>
            intro _
            intro ρ W hS hx hout hpre
            have f74 := hpre 5 74 (by kernel_rfl)
            exact OpDoes.value (v := ρ (.tmp 74)) (w' := W) (by simp [go_sem]) ⟨f74, Ext.refl _⟩
          case s7 =>
            intro _
            intro ρ W hS hx hout hpre
            have f68 := hpre 6 68 (by kernel_rfl)
            obtain ⟨A6, c6, e68, ho⟩ := f68
            exact OpDoes.value (w' := W) (by simp [go_sem, e68]) ⟨⟨A6, c6, rfl, ho⟩, Ext.refl _⟩
          case s8 => exact fun h => absurd rfl h
          case s9 =>
            intro _
            intro ρ W hS hx hout hpre
            exact OpDoes.value (v := .pointer (some ⟨W.heap.size, 0, none⟩)) (w' := W.alloc (.cells PZ 26)) (by simp [go_sem]) ⟨⟨_, rfl, (HXW.out.trans hx).size1, Blk.new _ _ _⟩, (Ext.refl W).alloc _⟩
        case rgIdle =>
            intro ρ W hS hx hout hpre
            have f68 := hpre 6 68 (by kernel_rfl)
            obtain ⟨A6, c6, e68, ho⟩ := f68
            exact ⟨.int .i64 0, fun W' => by simp [go_sem, e68], rfl⟩
        case rgRest =>
          intro vs W hl hD hx
          match vs, hl with
          | [v69, v70, v71, v72, v73, v74, v68, v75, v76, v15], _ =>
            obtain rfl : v69 = .agg #[.int .i64 k3, .int .i64 l3, .slice A3 Q.length c3] := hD 0 v69 rfl
            obtain rfl : v70 = .int .i64 i := hD 1 v70 rfl
            obtain rfl : v71 = .agg #[.int .i64 k3, .int .i64 l3, .slice A2 I.length c2] := hD 2 v71 rfl
            obtain rfl : v72 = .int .i64 i := hD 3 v72 rfl
            have d73 : v73 = .string s := hD 4 v73 rfl
            have d74 : PeVal k3 l3 I 0 0 v74 W := hD 5 v74 rfl
            have d68 : PeVal k3 l3 I 0 0 v68 W := hD 6 v68 rfl
            have d75 : PgVal k3 l3 I 0 v75 W := hD 7 v75 rfl
            obtain rfl : v76 = .int .i64 0 := hD 8 v76 rfl
            have d15 : NewVar 26 PZ (w3.heap.size + 1) v15 W := hD 9 v15 rfl
            clear hD
            rw [show headDsts _ 10 = [69, 70, 71, 72, 73, 74, 68, 75, 76, 15] by kernel_rfl]
            simp only [putAll, List.setIfInBounds_toArray, List.set_cons_succ, List.set_cons_zero, List.drop_succ_cons, List.drop_zero]
        -- END
            obtain ⟨A15, c15, rfl, hown15⟩ := d75
            obtain ⟨B15, rfl, hB15, hblk15⟩ := d15
            have Hblk15 := Lib.hid hblk15
            have HX16 := Lib.hid (HXW.out.trans hx)
            have q0 : W.cell? ⟨B15, 0, none⟩ = some (.int .i64 0) := Hblk15.out.cell 0
            have q1 : W.cell? ⟨B15, 1, none⟩ = some (.int .i64 0) := Hblk15.out.cell 1
            have q2 : W.cell? ⟨B15, 2, none⟩ = some (.slice none 0 0) := Hblk15.out.cell 2
            have f0 := Hblk15.out.frozen 0
            have f1 := Hblk15.out.frozen 1
            have f2 := Hblk15.out.frozen 2
            have hne := own_ne hown15 hblk15 (by decide)
            have ho15 := Lib.hid (own_set (own_set (own_set hown15 hne 0 (.int .i64 k3)) hne 1 (.int .i64 l3)) hne 2 (.slice A15 I.length c15))
            have hb15 := Lib.hid (show Blk _ B15 26 #[.int .i64 k3, .int .i64 l3, .slice A15 I.length c15] from ((hblk15.set_ 0 (.int .i64 k3)).set_ 1 (.int .i64 l3)).set_ 2 (.slice A15 I.length c15))
            clear hblk15 hx hown15 d73 d74 d68 hne
            refine ⟨_, by simp [go_sem, q0, q1, q2, f0, f1, f2]; exact rfl, ?_⟩
            have hB15' : (w3.alloc (.cells #[.int .i64 k3, .int .i64 l3, .slice A3 Q.length c3] 26)).heap.size ≤ B15 := by simpa using hB15
            have hx16 := HX16.out.set (p := ⟨B15, 0, none⟩) hB15' (.int .i64 k3) |>.set (p := ⟨B15, 1, none⟩) hB15' (.int .i64 l3) |>.set (p := ⟨B15, 2, none⟩) hB15' (.slice A15 I.length c15)
            have HY := Lib.hid hx16
            clear q0 q1 q2 f0 f1 f2 HX16 Hblk15 pk0 pk1 pk2 qk0 qk1 qk2 HXW XR hx16 C8 C11 HIr HQr HAI HAQ
            obtain ⟨wy, hwy⟩ : ∃ x, x = ((W.setCell ⟨B15, 0, none⟩ (.int .i64 k3)).setCell ⟨B15, 1, none⟩ (.int .i64 l3)).setCell ⟨B15, 2, none⟩ (.slice A15 I.length c15) := ⟨_, rfl⟩
            rw [← hwy] at HY ho15 hb15 ⊢
            clear hwy
            have C8 := Lib.hid ((B8.out.alloc (.cells #[.int .i64 k3, .int .i64 l3, .slice A3 Q.length c3] 26)).ext HY.out)
            have C11 := Lib.hid ((Blk.new w3 26 #[.int .i64 k3, .int .i64 l3, .slice A3 Q.length c3]).ext HY.out)
            have HIy := Lib.hid ((HI3.out.ext ((Ext.refl w3).alloc _)).ext HY.out)
            have HQy := Lib.hid (((At.of_own O3.out).ext ((Ext.refl w3).alloc _)).ext HY.out)
            have H15 := Lib.hid (At.of_own ho15.out)
            have XY := Lib.hid ((X3.out.alloc _).trans HY.out)
            have p0 : wy.cell? ⟨w2.heap.size, 0, none⟩ = some (.int .i64 k3) := C8.out.cell 0
            have p1 : wy.cell? ⟨w2.heap.size, 1, none⟩ = some (.int .i64 l3) := C8.out.cell 1
            have p2 : wy.cell? ⟨w2.heap.size, 2, none⟩ = some (.slice A2 I.length c2) := C8.out.cell 2
            go_wp2_with fail
            refine (do_right _ _ _ _ _ _ _ _ _ _ _ rfl HIy.out HR.out (by omega) (by omega) (by omega)).mono ?_
            rw [HD.out.1, HD.out.2.1, HD.out.2.2.1, HD.out.2.2.2]
            rintro e w4 ⟨A4, c4, rfl, hown4, hx⟩
            have E8 := Lib.hid (C8.out.ext hx)
            have E11 := Lib.hid (C11.out.ext hx)
            have E15 := Lib.hid (hb15.out.ext hx)
            have XZ := Lib.hid (XY.out.trans hx)
            have HI4 := Lib.hid (HIy.out.ext hx)
            have HQ4 := Lib.hid (HQy.out.ext hx)
            have HA15 := Lib.hid (H15.out.ext hx)
            have HA4 := Lib.hid (At.of_own hown4)
            clear hx hown4 p0 p1 p2 C8 C11 XY HIy HQy H15
            have p0 : w4.cell? ⟨w2.heap.size, 0, none⟩ = some (.int .i64 k3) := E8.out.cell 0
            have p1 : w4.cell? ⟨w2.heap.size, 1, none⟩ = some (.int .i64 l3) := E8.out.cell 1
            have p2 : w4.cell? ⟨w2.heap.size, 2, none⟩ = some (.slice A2 I.length c2) := E8.out.cell 2
            have q0 : w4.cell? ⟨w3.heap.size, 0, none⟩ = some (.int .i64 k3) := E11.out.cell 0
            have q1 : w4.cell? ⟨w3.heap.size, 1, none⟩ = some (.int .i64 l3) := E11.out.cell 1
            have q2 : w4.cell? ⟨w3.heap.size, 2, none⟩ = some (.slice A3 Q.length c3) := E11.out.cell 2
            have r0 : w4.cell? ⟨B15, 0, none⟩ = some (.int .i64 k3) := E15.out.cell 0
            have r1 : w4.cell? ⟨B15, 1, none⟩ = some (.int .i64 l3) := E15.out.cell 1
            have r2 : w4.cell? ⟨B15, 2, none⟩ = some (.slice A15 I.length c15) := E15.out.cell 2
            have hzz8 := E8.out.lt
            have hzz11 := E11.out.lt
            have hzz15 := E15.out.lt
            go_must (go_wp2_with fail)
            refine (same_any _ _ _ _ _ _ _ _ _ _ _ _ _ rfl rfl ((HA15.out.ext ((Ext.refl w4).alloc _)).ext ((Ext.refl _).alloc _)) ((HI4.out.ext ((Ext.refl w4).alloc _)).ext ((Ext.refl _).alloc _)) (by omega) (by omega)).mono ?_
            rw [same_self]
            rintro e w5 ⟨rfl, hx⟩
            have G17 := Lib.hid (show Blk w5 w4.heap.size 26 #[.int .i64 k3, .int .i64 77, .slice A4 Q.length c4] from ((Blk.new' rfl).alloc _).ext hx)
            have G19 := Lib.hid (show Blk w5 (w4.heap.size + 1) 26 #[.int .i64 k3, .int .i64 77, .slice A3 Q.length c3] from (Blk.new' (by simp)).ext hx)
            have XV := Lib.hid (((XZ.out.alloc _).alloc _).trans hx)
            have HQ5 := Lib.hid (((HQ4.out.ext ((Ext.refl w4).alloc _)).ext ((Ext.refl _).alloc _)).ext hx)
            have HA5 := Lib.hid (((HA4.out.ext ((Ext.refl w4).alloc _)).ext ((Ext.refl _).alloc _)).ext hx)
            clear hx p0 p1 p2 q0 q1 q2 r0 r1 r2 hzz8 hzz11 hzz15 E8 E11 E15
            have p0 : w5.cell? ⟨w4.heap.size, 0, none⟩ = some (.int .i64 k3) := G17.out.cell 0
            have p1 : w5.cell? ⟨w4.heap.size, 1, none⟩ = some (.int .i64 77) := G17.out.cell 1
            have p2 : w5.cell? ⟨w4.heap.size, 2, none⟩ = some (.slice A4 Q.length c4) := G17.out.cell 2
            have q0 : w5.cell? ⟨w4.heap.size + 1, 0, none⟩ = some (.int .i64 k3) := G19.out.cell 0
            have q1 : w5.cell? ⟨w4.heap.size + 1, 1, none⟩ = some (.int .i64 77) := G19.out.cell 1
            have q2 : w5.cell? ⟨w4.heap.size + 1, 2, none⟩ = some (.slice A3 Q.length c3) := G19.out.cell 2
            go_must (go_wp2_with fail)
            refine (same_any _ _ _ _ _ _ _ _ _ _ _ _ _ rfl rfl HA5.out HQ5.out (by omega) (by omega)).mono ?_
            rw [same_self]
            rintro e w6 ⟨rfl, hx⟩
            have XW := Lib.hid (XV.out.trans hx)
            clear hx p0 p1 p2 q0 q1 q2
            go_wp2
            go_ret
            exact ⟨rfl, XW.out⟩
  · obtain ⟨h20, hQ⟩ := only_room HR.out (by omega) hxs P3.out z3
    subst h20
    subst hQ
    go_wp2
    go_ret
    exact ⟨rfl, X3.out.alloc _⟩
end Go.Proofs.Ytkkldciofndedaa

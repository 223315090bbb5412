/- the walk of PageOrder. -/
import Derived.Test.YtkkldciofndedaaAlg
import Derived.Test.YtkkldciofndedaaLawMade
import Derived.Test.YtkkldciofndedaaZeros
import Derived.Test.YtkkldciofndedaaPageRoom
namespace Go.Proofs.Ytkkldciofndedaa
open Go.RowKit
set_option linter.unusedVariables false

theorem cut_at (s : ByteArray) (n : Int) (h : 0 ≤ n) : ∃ X : Nat, (if n < (s.size : Int) then n else (s.size : Int)) = X ∧ X ≤ s.size ∧ (X : Int) ≤ n := by
  split
  · exact ⟨n.toNat, by omega, by omega, by omega⟩
  · exact ⟨s.size, rfl, by omega, by omega⟩
theorem cut_size (s : ByteArray) {X n : Nat} (h : X ≤ n) : (s.extract 0 X).size ≤ n := by
  rw [ByteArray.size_extract]; omega
theorem mod_slot (a : Int) (m : Int) (hm : 0 < m) (hm2 : m ≤ 1000) : ∃ i : Nat, (i : Int) < m ∧ (wrap64 (a.tmod m + m)).tmod m = i := by
  have h1 : -m < a.tmod m := by have := Int.lt_tmod_of_pos a hm; omega
  have h2 : a.tmod m < m := Int.tmod_lt_of_pos a hm
  have e : wrap64 (a.tmod m + m) = a.tmod m + m := IntWalk.wrap64_in _ ⟨by omega, by omega⟩
  rw [e]
  have h3 := Int.tmod_nonneg (a := a.tmod m + m) m (by omega)
  have h4 := Int.tmod_lt_of_pos (a.tmod m + m) hm
  obtain ⟨i, hi⟩ := Int.eq_ofNat_of_zero_le h3
  exact ⟨i, by omega, hi⟩
theorem two_slots (a0 a1 : Int) : ∃ i k : Nat, i < 24 ∧ k < 24 ∧ i ≠ k ∧ (wrap64 (a0.tmod 24 + 24)).tmod 24 = i ∧ (wrap64 (wrap64 ((i : Int) + 1) + (wrap64 (a1.tmod 23 + 23)).tmod 23)).tmod 24 = k := by
  obtain ⟨i, hi, ei⟩ := mod_slot a0 24 (by omega) (by omega)
  obtain ⟨j, hj, ej⟩ := mod_slot a1 23 (by omega) (by omega)
  have e1 : wrap64 ((i : Int) + 1) = i + 1 := IntWalk.wrap64_in _ ⟨by omega, by omega⟩
  have e2 : wrap64 ((i : Int) + 1 + j) = i + 1 + j := IntWalk.wrap64_in _ ⟨by omega, by omega⟩
  refine ⟨i, (i + 1 + j) % 24, by omega, by omega, by omega, ei, ?_⟩
  rw [ej, e1, e2, Int.tmod_eq_emod_of_nonneg (by omega)]
  omega

set_option maxRecDepth 100000 in
set_option maxHeartbeats 4000000 in
theorem pageorder_any (kA lA : Int) (A : Option Addr) (n c : Nat) (ss : List ByteArray) (a0 a1 : Int) (s0 s1 : ByteArray) (w : World) (hn : n = ss.length) (h : At w A (ss.map Value.string)) (hl : ss.length ≤ 9223372036854775807)
    (hs0 : s0.size ≤ 9223372036854775807) (hs1 : s1.size ≤ 9223372036854775807) :
    Calls Try.prog 4 #[.agg #[.int .i64 kA, .int .i64 lA, .slice A n c], .agg #[.int .i64 a0, .int .i64 a1], .agg #[.string s0, .string s1]] w (Ret1 (.bool true) w) := by
  subst hn
  have H := Lib.hid h; clear h
  obtain ⟨kk, hkk⟩ : ∃ x, x = kindF kA := ⟨_, rfl⟩
  obtain ⟨ll, hll⟩ : ∃ x, x = lsnF lA := ⟨_, rfl⟩
  obtain ⟨I, hI⟩ : ∃ x, x = mkL kA lA ss := ⟨_, rfl⟩
  have hr : rightB kk ll I = true := by rw [hkk, hll, hI]; exact mkL_right kA lA ss
  have HM := Lib.hid (show ∀ (A : Option Addr) (c : Nat) (w : World), At w A (ss.map Value.string) → Calls Try.prog 14 #[.agg #[.int .i64 kA, .int .i64 lA, .slice A ss.length c]] w (PgOne kk ll I w) by
    rw [hkk, hll, hI]; exact fun A c w h => lmade_any kA lA A _ c ss w rfl h hl)
  clear hkk hll hI
  have HR := Lib.hid hr
  clear hr
  go_enter Try.func4, Try.ntmps4
  go_wp2_with fail
  refine (sanity_any _).mono ?_
  rintro e w1 ⟨rfl, hx⟩
  have X1 := Lib.hid ((((Ext.refl w).alloc _).alloc _).alloc _ |>.trans hx)
  have Y1 := Lib.hid hx
  clear hx
  have B3 := Lib.hid (show Blk w1 w.heap.size 24 #[.int .i64 kA, .int .i64 lA, .slice A ss.length c] from (((Blk.new' rfl).alloc _).alloc _).ext Y1.out)
  have B4 := Lib.hid (show Blk w1 (w.heap.size + 1) 36 #[.int .i64 a0, .int .i64 a1] from ((Blk.new' (by simp)).alloc _).ext Y1.out)
  have B5 := Lib.hid (show Blk w1 (w.heap.size + 1 + 1) 37 #[.string s0, .string s1] from (Blk.new' (by simp)).ext Y1.out)
  have p0 : w1.cell? ⟨w.heap.size, 0, none⟩ = some (.int .i64 kA) := B3.out.cell 0
  have p1 : w1.cell? ⟨w.heap.size, 1, none⟩ = some (.int .i64 lA) := B3.out.cell 1
  have p2 : w1.cell? ⟨w.heap.size, 2, none⟩ = some (.slice A ss.length c) := B3.out.cell 2
  go_wp2_with fail
  refine (HM.out _ _ _ (H.out.ext X1.out)).mono ?_
  rintro e w2 ⟨A2, c2, rfl, hown, hx⟩
  have X2 := Lib.hid (X1.out.trans hx)
  have Hown := Lib.hid hown
  have C4 := Lib.hid (B4.out.ext hx)
  have C5 := Lib.hid (B5.out.ext hx)
  clear p0 p1 p2 hx hown B3 B4 B5 Y1
  have p0 : w2.cell? ⟨w.heap.size + 1, 0, none⟩ = some (.int .i64 a0) := C4.out.cell 0
  have p1 : w2.cell? ⟨w.heap.size + 1, 1, none⟩ = some (.int .i64 a1) := C4.out.cell 1
  have p2 : w2.cell? ⟨w.heap.size + 1 + 1, 0, none⟩ = some (.string s0) := C5.out.cell 0
  have p3 : w2.cell? ⟨w.heap.size + 1 + 1, 1, none⟩ = some (.string s1) := C5.out.cell 1
  have hz4 := C4.out.lt
  have hz5 := C5.out.lt
  go_must (go_upto_region 5 with fail)
  obtain ⟨i, k, hi, hk, hik, ei, ek⟩ := two_slots a0 a1
  rw [ei, ek]
  clear ei ek
  obtain ⟨X0, hX0, hX0s, hX0n⟩ := cut_at s0 200 (by omega)
  obtain ⟨X1, hX1, hX1s, hX1n⟩ := cut_at s1 200 (by omega)
  go_must (go_upto_region 7 with fail)
  obtain ⟨x, hx⟩ : ∃ x, x = s0.extract 0 X0 := ⟨_, rfl⟩
  obtain ⟨y, hy⟩ : ∃ y, y = s1.extract 0 X1 := ⟨_, rfl⟩
  have hxs : x.size ≤ 200 := by rw [hx]; exact cut_size s0 (by omega)
  have hys : y.size ≤ 200 := by rw [hy]; exact cut_size s1 (by omega)
  rw [← hx, ← hy]
  clear hX0 hX0s hX0n hX1 hX1s hX1n
  clear hx hy p0 p1 p2 p3 hz4 hz5 C4 C5
  have HI := Lib.hid (At.of_own Hown.out)
  go_wp2_with fail
  refine (put_abs _ _ _ _ _ _ _ _ _ rfl (HI.out.ext ((Ext.refl w2).alloc _)) HR.out (by omega)).mono ?_
  rintro e w3 ⟨k3, l3, Q, e3, A3, c3, rfl, P3, O3, Z3⟩
  have B8 := Lib.hid ((Blk.new w2 26 #[.int .i64 kk, .int .i64 ll, .slice A2 I.length c2]).ext Z3.out)
  have X3 := Lib.hid ((X2.out.alloc _).trans Z3.out)
  have HI3 := Lib.hid ((HI.out.ext ((Ext.refl w2).alloc _)).ext Z3.out)
  clear Z3 HI Hown X2
  go_wp2_with fail
  refine (put_abs _ _ _ _ _ _ _ _ _ rfl ((At.of_own O3.out).ext ((Ext.refl w3).alloc _)) P3.out.right (by omega)).mono ?_
  rintro e w4 ⟨k4, l4, R, e4, A4, c4, rfl, P4, O4, Z4⟩
  have D8 := Lib.hid ((B8.out.alloc _).ext Z4.out)
  have X4 := Lib.hid ((X3.out.alloc _).trans Z4.out)
  have HI4 := Lib.hid ((HI3.out.ext ((Ext.refl w3).alloc _)).ext Z4.out)
  clear Z4 B8 HI3 X3
  have p0 : w4.cell? ⟨w2.heap.size, 0, none⟩ = some (.int .i64 kk) := D8.out.cell 0
  have p1 : w4.cell? ⟨w2.heap.size, 1, none⟩ = some (.int .i64 ll) := D8.out.cell 1
  have p2 : w4.cell? ⟨w2.heap.size, 2, none⟩ = some (.slice A2 I.length c2) := D8.out.cell 2
  have hz8 := D8.out.lt
  go_wp2_with fail
  refine (put_abs _ _ _ _ _ _ _ _ _ rfl (HI4.out.ext ((Ext.refl w4).alloc _)) HR.out (by omega)).mono ?_
  rintro e w5 ⟨k5, l5, S, e5, A5, c5, rfl, P5, O5, Z5⟩
  have B15 := Lib.hid ((Blk.new w4 26 #[.int .i64 k4, .int .i64 l4, .slice A4 R.length c4]).ext Z5.out)
  have X5 := Lib.hid ((X4.out.alloc _).trans Z5.out)
  have HR5 := Lib.hid (((At.of_own O4.out).ext ((Ext.refl w4).alloc _)).ext Z5.out)
  clear p0 p1 p2 hz8 D8 HI4 Z5 X4 O3
  go_wp2_with fail
  refine (put_abs _ _ _ _ _ _ _ _ _ rfl ((At.of_own O5.out).ext ((Ext.refl w5).alloc _)) P5.out.right (by omega)).mono ?_
  rintro e w6 ⟨k6, l6, T, e6, A6, c6, rfl, P6, O6, Z6⟩
  have D15 := Lib.hid ((B15.out.alloc _).ext Z6.out)
  have X6 := Lib.hid ((X5.out.alloc _).trans Z6.out)
  have HR6 := Lib.hid ((HR5.out.ext ((Ext.refl w5).alloc _)).ext Z6.out)
  have HT6 := Lib.hid (At.of_own O6.out)
  clear Z6 B15 HR5 X5
  by_cases z3 : e3 = 0
  · by_cases z4 : e4 = 0
    · by_cases z5 : e5 = 0
      · by_cases z6 : e6 = 0
        · have HL := Lib.hid (order_law hik P3.out P4.out P5.out P6.out z3 z4 z5 z6)
          subst z3; subst z4; subst z5; subst z6
          go_wp2_with fail
          refine (put_abs _ _ _ _ _ _ _ _ _ rfl (HT6.out.ext ((Ext.refl w6).alloc _)) P6.out.right (by omega)).mono ?_
          rintro e w7 ⟨k7, l7, U, e7, A7, c7, rfl, P7, O7, Z7⟩
          obtain ⟨z7, hsame7⟩ := HL.out.2.2 _ _ _ _ P7.out
          have HS7 := Lib.hid hsame7
          have HS6 := Lib.hid HL.out.1
          subst z7
          clear hsame7 HL
          have B15 := Lib.hid ((D15.out.alloc _).ext Z7.out)
          have B19 := Lib.hid ((Blk.new w6 26 #[.int .i64 k6, .int .i64 l6, .slice A6 T.length c6]).ext Z7.out)
          have X7 := Lib.hid ((X6.out.alloc _).trans Z7.out)
          have HR7 := Lib.hid ((HR6.out.ext ((Ext.refl w6).alloc _)).ext Z7.out)
          have HT7 := Lib.hid ((HT6.out.ext ((Ext.refl w6).alloc _)).ext Z7.out)
          clear Z7 D15 X6 HR6 HT6
          have p0 : w7.cell? ⟨w4.heap.size, 0, none⟩ = some (.int .i64 k4) := B15.out.cell 0
          have p1 : w7.cell? ⟨w4.heap.size, 1, none⟩ = some (.int .i64 l4) := B15.out.cell 1
          have p2 : w7.cell? ⟨w4.heap.size, 2, none⟩ = some (.slice A4 R.length c4) := B15.out.cell 2
          have p3 : w7.cell? ⟨w6.heap.size, 0, none⟩ = some (.int .i64 k6) := B19.out.cell 0
          have p4 : w7.cell? ⟨w6.heap.size, 1, none⟩ = some (.int .i64 l6) := B19.out.cell 1
          have p5 : w7.cell? ⟨w6.heap.size, 2, none⟩ = some (.slice A6 T.length c6) := B19.out.cell 2
          have hz15 := B15.out.lt
          have hz19 := B19.out.lt
          go_wp2_with fail
          refine (same_any _ _ _ _ _ _ _ _ _ _ _ _ _ rfl rfl (HR7.out.ext ((Ext.refl w7).alloc _)) (HT7.out.ext ((Ext.refl w7).alloc _)) (right_small P4.out.right).1 (right_small P6.out.right).1).mono ?_
          rw [HS6.out]
          rintro e w8 ⟨rfl, hx⟩
          have B19' := Lib.hid ((B19.out.alloc _).ext hx)
          have B21 := Lib.hid ((Blk.new w7 26 #[.int .i64 k7, .int .i64 l7, .slice A7 U.length c7]).ext hx)
          have X8 := Lib.hid ((X7.out.alloc _).trans hx)
          have HT8 := Lib.hid ((HT7.out.ext ((Ext.refl w7).alloc _)).ext hx)
          have HU8 := Lib.hid (((At.of_own O7.out).ext ((Ext.refl w7).alloc _)).ext hx)
          clear hx p0 p1 p2 p3 p4 p5 hz15 hz19 B15 B19
          have p0 : w8.cell? ⟨w6.heap.size, 0, none⟩ = some (.int .i64 k6) := B19'.out.cell 0
          have p1 : w8.cell? ⟨w6.heap.size, 1, none⟩ = some (.int .i64 l6) := B19'.out.cell 1
          have p2 : w8.cell? ⟨w6.heap.size, 2, none⟩ = some (.slice A6 T.length c6) := B19'.out.cell 2
          have p3 : w8.cell? ⟨w7.heap.size, 0, none⟩ = some (.int .i64 k7) := B21.out.cell 0
          have p4 : w8.cell? ⟨w7.heap.size, 1, none⟩ = some (.int .i64 l7) := B21.out.cell 1
          have p5 : w8.cell? ⟨w7.heap.size, 2, none⟩ = some (.slice A7 U.length c7) := B21.out.cell 2
          go_wp2_with fail
          refine (same_any _ _ _ _ _ _ _ _ _ _ _ _ _ rfl rfl HU8.out HT8.out (right_small P7.out.right).1 (right_small P6.out.right).1).mono ?_
          rw [HS7.out]
          rintro e w9 ⟨rfl, hx⟩
          have X9 := Lib.hid (X8.out.trans hx)
          clear hx p0 p1 p2 p3 p4 p5
          go_wp2
          go_ret
          exact ⟨rfl, X9.out⟩
        · have zb : (e6 != 0) = true := by simpa using z6
          clear z6
          subst z3; subst z4; subst z5
          go_wp2
          go_ret
          exact ⟨rfl, X6.out.alloc _⟩
      · have zb : (e5 != 0) = true := by simpa using z5
        clear z5
        subst z3; subst z4
        go_wp2
        go_ret
        exact ⟨rfl, X6.out.alloc _⟩
    · have zb : (e4 != 0) = true := by simpa using z4
      clear z4
      subst z3
      go_wp2
      go_ret
      exact ⟨rfl, X6.out.alloc _⟩
  · have zb : (e3 != 0) = true := by simpa using z3
    clear z3
    go_wp2
    go_ret
    exact ⟨rfl, X6.out.alloc _⟩
end Go.Proofs.Ytkkldciofndedaa

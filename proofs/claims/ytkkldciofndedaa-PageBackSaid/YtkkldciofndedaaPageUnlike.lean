/- the walk of PageUnlike. -/
import Derived.Test.YtkkldciofndedaaRound
import Derived.Test.YtkkldciofndedaaDoAll
import Derived.Test.YtkkldciofndedaaItemsPlain
namespace Go.Proofs.Ytkkldciofndedaa
open Go.RowKit
set_option linter.unusedVariables false

/-- two right and plain pages: the same bytes where they are the same -/
theorem bytes_same {k l k' l' : Int} {I I' : List ByteArray} (h : rightB k l I = true) (h' : rightB k' l' I' = true) (hp : plainL I = I) (hp' : plainL I' = I') :
    ((bytesF k l (plainL I)).toList == (bytesF k' l' (plainL I')).toList) = sameB k l I k' l' I' := by
  obtain ⟨hk, hl, ⟨h24, h400⟩, h512⟩ := right_parts h
  obtain ⟨hk', hl', ⟨h24', h400'⟩, h512'⟩ := right_parts h'
  rw [sizeL, hp] at h512
  rw [sizeL, hp'] at h512'
  rw [hp, hp']
  by_cases e : bytesF k l I = bytesF k' l' I'
  · obtain ⟨rfl, rfl, rfl⟩ := bytesF_inj ⟨hk.1, by omega⟩ ⟨hl.1, by omega⟩ ⟨hk'.1, by omega⟩ ⟨hl'.1, by omega⟩ (by omega) (by omega) (by omega) (by omega) e
    rw [same_self]
    simp
  · rw [str_ne e]
    rcases hs : sameB k l I k' l' I' with _ | _
    · rfl
    · exfalso
      simp only [sameB, Bool.and_eq_true, decide_eq_true_eq] at hs
      obtain ⟨rfl, rfl, rfl⟩ := hs
      exact e rfl

set_option maxRecDepth 100000 in
set_option maxHeartbeats 8000000 in
theorem pageunlike_any (kA lA : Int) (A : Option Addr) (c : Nat) (sa : List ByteArray) (kB lB : Int) (B : Option Addr) (d : Nat) (sb : List ByteArray) (s0 : ByteArray) (w : World)
    (ha : At w A (sa.map Value.string)) (hla : sa.length ≤ 9223372036854775807) (hb : At w B (sb.map Value.string)) (hlb : sb.length ≤ 9223372036854775807) (hs0 : s0.size ≤ 9223372036854775807) :
    Calls Try.prog 8 #[.agg #[.int .i64 kA, .int .i64 lA, .slice A sa.length c], .agg #[.int .i64 kB, .int .i64 lB, .slice B sb.length d], .string s0] w (Ret1 (.bool true) w) := by
  have HA := Lib.hid ha; clear ha
  have HB := Lib.hid hb; clear hb
  obtain ⟨X, hX, hX0, hXs, hXn⟩ := cut_min s0 20 20 rfl
  have hX9 : min (s0.size : Int) 20 = (X : Int) := by omega
  clear hX0
  obtain ⟨x, hx⟩ : ∃ x, x = cutN s0 20 := ⟨_, rfl⟩
  have hxs : x.size ≤ 20 := by rw [hx]; exact cutN_size s0 20
  rw [← hx] at hX
  have HX := Lib.hid hX
  clear hX hx
  obtain ⟨sl, hsl⟩ : ∃ z, z = (sa.length : Int).tmod 24 := ⟨_, rfl⟩
  have HSL := Lib.hid hsl
  clear hsl
  obtain ⟨k1, hk1⟩ : ∃ z, z = kindF kA := ⟨_, rfl⟩
  obtain ⟨l1, hl1⟩ : ∃ z, z = lsnF lA := ⟨_, rfl⟩
  obtain ⟨I1, hI1⟩ : ∃ z, z = mkL kA lA sa := ⟨_, rfl⟩
  have hr1 : rightB k1 l1 I1 = true := by rw [hk1, hl1, hI1]; exact mkL_right kA lA sa
  have hp1 : plainL I1 = I1 := by rw [hI1]; exact mkL_plain kA lA sa
  have HM1 := Lib.hid (show ∀ (w : World), At w A (sa.map Value.string) → Calls Try.prog 14 #[.agg #[.int .i64 kA, .int .i64 lA, .slice A sa.length c]] w (PgOne k1 l1 I1 w) by
    rw [hk1, hl1, hI1]; exact fun w h => lmade_any kA lA A _ c sa w rfl h hla)
  clear hk1 hl1 hI1
  obtain ⟨k2, hk2⟩ : ∃ z, z = kindF kB := ⟨_, rfl⟩
  obtain ⟨l2, hl2⟩ : ∃ z, z = lsnF lB := ⟨_, rfl⟩
  obtain ⟨I2, hI2⟩ : ∃ z, z = mkL kB lB sb := ⟨_, rfl⟩
  have hr2 : rightB k2 l2 I2 = true := by rw [hk2, hl2, hI2]; exact mkL_right kB lB sb
  have hp2 : plainL I2 = I2 := by rw [hI2]; exact mkL_plain kB lB sb
  have HM2 := Lib.hid (show ∀ (w : World), At w B (sb.map Value.string) → Calls Try.prog 14 #[.agg #[.int .i64 kB, .int .i64 lB, .slice B sb.length d]] w (PgOne k2 l2 I2 w) by
    rw [hk2, hl2, hI2]; exact fun w h => lmade_any kB lB B _ d sb w rfl h hlb)
  clear hk2 hl2 hI2
  obtain ⟨q, hq⟩ : ∃ z, z = putErr k1 l1 I1 sl x := ⟨_, rfl⟩
  obtain ⟨K, hK⟩ : ∃ z, z = putKind k1 l1 I1 sl x := ⟨_, rfl⟩
  obtain ⟨L, hL⟩ : ∃ z, z = putLsn k1 l1 I1 sl x := ⟨_, rfl⟩
  obtain ⟨J, hJ⟩ : ∃ z, z = putItems k1 l1 I1 sl x := ⟨_, rfl⟩
  have hst := PutSt.of (slot := sl) (s := x) hr1
  rw [← hq, ← hK, ← hL, ← hJ] at hst
  have hr3 := hst.right
  have hp3 : plainL J = J := by
    by_cases hz : q = 0
    · rw [(hst.ok hz).2.2.1]; exact putL_plain _ _ _
    · rw [(hst.bad hz).2.2]; rfl
  have HPT := Lib.hid (show ∀ (A : Option Addr) (c : Nat) (w : World), At w A (I1.map Value.string) → Calls Try.prog 18 #[.agg #[.int .i64 k1, .int .i64 l1, .slice A I1.length c], .int .i64 sl, .string x] w (PgPost K L J q w) by
    rw [hq, hK, hL, hJ]; exact fun A c w h => by rw [← put_eq]; exact put_any k1 l1 A _ c I1 sl x w rfl h (right_small hr1) (by omega))
  clear hq hK hL hJ hst
  have HR1 := Lib.hid hr1
  have HR2 := Lib.hid hr2
  have HR3 := Lib.hid hr3
  have HP1 := Lib.hid hp1
  have HP2 := Lib.hid hp2
  have HP3 := Lib.hid hp3
  have hl1 : I1.length ≤ 24 := (right_parts hr1).2.2.1.1
  have hl2 : I2.length ≤ 24 := (right_parts hr2).2.2.1.1
  have hl3 : J.length ≤ 24 := (right_parts hr3).2.2.1.1
  have hb12 := bytes_same hr1 hr2 hp1 hp2
  have hb13 := bytes_same hr1 hr3 hp1 hp3
  clear hr1 hr2 hr3 hp1 hp2 hp3
  obtain ⟨S1, hS1⟩ : ∃ z, z = bytesF k1 l1 (plainL I1) := ⟨_, rfl⟩
  obtain ⟨S2, hS2⟩ : ∃ z, z = bytesF k2 l2 (plainL I2) := ⟨_, rfl⟩
  obtain ⟨S3, hS3⟩ : ∃ z, z = bytesF K L (plainL J) := ⟨_, rfl⟩
  have BY1 := Lib.hid (show ∀ (A : Option Addr) (c : Nat) (w : World), At w A (I1.map Value.string) → Calls Try.prog 27 #[.agg #[.int .i64 k1, .int .i64 l1, .slice A I1.length c]] w (Ret1 (.tuple #[.string S1, .int .i64 0]) w) by
    rw [hS1]; exact fun A c w h => bytes_right k1 l1 A _ c I1 w rfl h HR1.out)
  have BY2 := Lib.hid (show ∀ (A : Option Addr) (c : Nat) (w : World), At w A (I2.map Value.string) → Calls Try.prog 27 #[.agg #[.int .i64 k2, .int .i64 l2, .slice A I2.length c]] w (Ret1 (.tuple #[.string S2, .int .i64 0]) w) by
    rw [hS2]; exact fun A c w h => bytes_right k2 l2 A _ c I2 w rfl h HR2.out)
  have BY3 := Lib.hid (show ∀ (A : Option Addr) (c : Nat) (w : World), At w A (J.map Value.string) → Calls Try.prog 27 #[.agg #[.int .i64 K, .int .i64 L, .slice A J.length c]] w (Ret1 (.tuple #[.string S3, .int .i64 0]) w) by
    rw [hS3]; exact fun A c w h => bytes_right K L A _ c J w rfl h HR3.out)
  rw [← hS1, ← hS2] at hb12
  rw [← hS1, ← hS3] at hb13
  have HB12 := Lib.hid hb12
  have HB13 := Lib.hid hb13
  clear hS1 hS2 hS3 hb12 hb13
  go_enter Try.func8, Try.ntmps8
  go_wp2_with fail
  refine (sanity_any _).mono ?_
  rintro e w1 ⟨rfl, hx⟩
  replace HA := Lib.hid (HA.out.ext ((((Ext.refl _).alloc _).alloc _).trans hx))
  replace HB := Lib.hid (HB.out.ext ((((Ext.refl _).alloc _).alloc _).trans hx))
  have B3 : Hid (Blk w1 (w.heap.size) 24 #[.int .i64 kA, .int .i64 lA, .slice A sa.length c]) := Lib.hid (((Blk.new' (by simp)).alloc _).ext hx)
  have B4 : Hid (Blk w1 (w.heap.size + 1) 24 #[.int .i64 kB, .int .i64 lB, .slice B sb.length d]) := Lib.hid ((Blk.new' (by simp)).ext hx)
  have X1 := Lib.hid (((Ext.refl w).alloc _).alloc _ |>.trans hx)
  clear hx
  have B3_0 : w1.cell? ⟨w.heap.size, 0, none⟩ = some (.int .i64 kA) := B3.out.cell 0
  have B3_1 : w1.cell? ⟨w.heap.size, 1, none⟩ = some (.int .i64 lA) := B3.out.cell 1
  have B3_2 : w1.cell? ⟨w.heap.size, 2, none⟩ = some (.slice A sa.length c) := B3.out.cell 2
  have B3_lt : w.heap.size < w1.heap.size := B3.out.lt
  go_wp2_with fail
  refine (HM1.out _ HA.out).mono ?_
  rintro e w2 ⟨A8, c8, rfl, ho, hx⟩
  replace B3 := Lib.hid (B3.out.ext hx)
  replace B4 := Lib.hid (B4.out.ext hx)
  replace HA := Lib.hid (HA.out.ext ((Ext.refl _).trans hx))
  replace HB := Lib.hid (HB.out.ext ((Ext.refl _).trans hx))
  replace X1 := Lib.hid (X1.out.trans ((Ext.refl _).trans hx))
  have H8 := Lib.hid (At.of_own ho)
  have C8 := Lib.hid (own_cap ho)
  clear ho
  clear hx B3_0 B3_1 B3_2 B3_lt
  have B4_0 : w2.cell? ⟨w.heap.size + 1, 0, none⟩ = some (.int .i64 kB) := B4.out.cell 0
  have B4_1 : w2.cell? ⟨w.heap.size + 1, 1, none⟩ = some (.int .i64 lB) := B4.out.cell 1
  have B4_2 : w2.cell? ⟨w.heap.size + 1, 2, none⟩ = some (.slice B sb.length d) := B4.out.cell 2
  have B4_lt : w.heap.size + 1 < w2.heap.size := B4.out.lt
  go_wp2_with fail
  refine (HM2.out _ (HB.out.ext ((Ext.refl _).alloc _))).mono ?_
  rintro e w3 ⟨A9, c9, rfl, ho, hx⟩
  replace B3 := Lib.hid ((B3.out.alloc _).ext hx)
  replace B4 := Lib.hid ((B4.out.alloc _).ext hx)
  replace HA := Lib.hid (HA.out.ext (((Ext.refl _).alloc _).trans hx))
  replace HB := Lib.hid (HB.out.ext (((Ext.refl _).alloc _).trans hx))
  replace H8 := Lib.hid (H8.out.ext (((Ext.refl _).alloc _).trans hx))
  replace X1 := Lib.hid (X1.out.trans (((Ext.refl _).alloc _).trans hx))
  have B8 : Hid (Blk w3 (w2.heap.size) 26 #[.int .i64 k1, .int .i64 l1, .slice A8 I1.length c8]) := Lib.hid ((Blk.new' (by simp)).ext hx)
  have H9 := Lib.hid (At.of_own ho)
  clear ho
  clear hx B4_0 B4_1 B4_2 B4_lt
  have B8_0 : w3.cell? ⟨w2.heap.size, 0, none⟩ = some (.int .i64 k1) := B8.out.cell 0
  have B8_1 : w3.cell? ⟨w2.heap.size, 1, none⟩ = some (.int .i64 l1) := B8.out.cell 1
  have B8_2 : w3.cell? ⟨w2.heap.size, 2, none⟩ = some (.slice A8 I1.length c8) := B8.out.cell 2
  have B8_lt : w2.heap.size < w3.heap.size := B8.out.lt
  go_wp2_with fail
  refine (BY1.out _ _ _ (H8.out.ext ((Ext.refl _).alloc _))).mono ?_
  rintro e w4 ⟨rfl, hx⟩
  replace B3 := Lib.hid ((B3.out.alloc _).ext hx)
  replace B4 := Lib.hid ((B4.out.alloc _).ext hx)
  replace B8 := Lib.hid ((B8.out.alloc _).ext hx)
  replace HA := Lib.hid (HA.out.ext (((Ext.refl _).alloc _).trans hx))
  replace HB := Lib.hid (HB.out.ext (((Ext.refl _).alloc _).trans hx))
  replace H8 := Lib.hid (H8.out.ext (((Ext.refl _).alloc _).trans hx))
  replace H9 := Lib.hid (H9.out.ext (((Ext.refl _).alloc _).trans hx))
  replace X1 := Lib.hid (X1.out.trans (((Ext.refl _).alloc _).trans hx))
  have B9 : Hid (Blk w4 (w3.heap.size) 26 #[.int .i64 k2, .int .i64 l2, .slice A9 I2.length c9]) := Lib.hid ((Blk.new' (by simp)).ext hx)
  clear hx B8_0 B8_1 B8_2 B8_lt
  have B9_0 : w4.cell? ⟨w3.heap.size, 0, none⟩ = some (.int .i64 k2) := B9.out.cell 0
  have B9_1 : w4.cell? ⟨w3.heap.size, 1, none⟩ = some (.int .i64 l2) := B9.out.cell 1
  have B9_2 : w4.cell? ⟨w3.heap.size, 2, none⟩ = some (.slice A9 I2.length c9) := B9.out.cell 2
  have B9_lt : w3.heap.size < w4.heap.size := B9.out.lt
  go_wp2_with fail
  refine (BY2.out _ _ _ H9.out).mono ?_
  rintro e w5 ⟨rfl, hx⟩
  replace B3 := Lib.hid (B3.out.ext hx)
  replace B4 := Lib.hid (B4.out.ext hx)
  replace B8 := Lib.hid (B8.out.ext hx)
  replace B9 := Lib.hid (B9.out.ext hx)
  replace HA := Lib.hid (HA.out.ext ((Ext.refl _).trans hx))
  replace HB := Lib.hid (HB.out.ext ((Ext.refl _).trans hx))
  replace H8 := Lib.hid (H8.out.ext ((Ext.refl _).trans hx))
  replace H9 := Lib.hid (H9.out.ext ((Ext.refl _).trans hx))
  replace X1 := Lib.hid (X1.out.trans ((Ext.refl _).trans hx))
  clear hx B9_0 B9_1 B9_2 B9_lt
  go_wp2_with fail
  refine wp_region_U (by kernel_rfl) [0, 0, 2, 6, 14, 0, 0, 64, 192, 480, 1023, 2047, 4095, 4095, 0, 24575, 65535] [15] (fun kz W => match kz with | _ => Ext w5 W) (fun ix v σ W => match ix with | 0 => v = .agg #[.int .i64 k1, .int .i64 l1, .slice A8 I1.length c8] | 1 => v = .pointer (some ⟨w.heap.size, 2, none⟩) | 2 => v = .slice A sa.length c | 3 => v = .int .i64 sa.length | 4 => v = .int .i64 sl | 5 => v = .string s0 | 6 => v = .string s0 | 7 => v = .int .i64 s0.size | 8 => v = .int .i64 X | 9 => v = .string x | 10 => ∃ (A44 : Option Addr) (c44 : Nat), v = .tuple #[.agg #[.int .i64 K, .int .i64 L, .slice A44 J.length c44], .int .i64 q] ∧ W.ownsRow 0 9 1 (.slice A44 J.length c44) J.length (J.map Value.string) | 11 => ∃ (A44 : Option Addr) (c44 : Nat), v = .tuple #[.agg #[.int .i64 K, .int .i64 L, .slice A44 J.length c44], .int .i64 q] ∧ W.ownsRow 0 9 1 (.slice A44 J.length c44) J.length (J.map Value.string) | 12 => ∃ (A44 : Option Addr) (c44 : Nat), v = .agg #[.int .i64 K, .int .i64 L, .slice A44 J.length c44] ∧ W.ownsRow 0 9 1 (.slice A44 J.length c44) J.length (J.map Value.string) | 13 => v = .int .i64 q | 14 => NewA 3 26 w5.heap.size v W | 15 => ∃ (B : Nat) (A44 : Option Addr) (c44 : Nat), σ 14 = .pointer (some ⟨B, 0, none⟩) ∧ w5.heap.size ≤ B ∧ Blk W B 26 #[.int .i64 K, .int .i64 L, .slice A44 J.length c44] ∧ W.ownsRow 0 9 1 (.slice A44 J.length c44) J.length (J.map Value.string) | 16 => v = .int .i64 q | _ => True) (by kernel_rfl) (by kernel_rfl) (by decide) (by kernel_rfl) ?_ ?_ ?_ ?_ ?_ ?_ ?_
  · intro ix v σ σ' W hs h
    match ix, hs, h with
    | 0, hs, h => exact h
    | 1, hs, h => exact h
    | 2, hs, h => exact h
    | 3, hs, h => exact h
    | 4, hs, h => exact h
    | 5, hs, h => exact h
    | 6, hs, h => exact h
    | 7, hs, h => exact h
    | 8, hs, h => exact h
    | 9, hs, h => exact h
    | 10, hs, h => exact h
    | 11, hs, h => exact h
    | 12, hs, h => exact h
    | 13, hs, h => exact h
    | 14, hs, h => exact h
    | 15, hs, h => 
      have e14 := hs 14 14 (by kernel_rfl)
      simp only [e14] at h; exact h
    | 16, hs, h => exact h
    | _ + 17, _, _ => trivial
  · exact (Ext.refl w5).drew
  · intro kz W W' h hx
    match kz, h with
    | _, h => exact h.trans hx
  · intro ix v σ W W' h hx
    match ix, h with
    | 0, h => exact h
    | 1, h => exact h
    | 2, h => exact h
    | 3, h => exact h
    | 4, h => exact h
    | 5, h => exact h
    | 6, h => exact h
    | 7, h => exact h
    | 8, h => exact h
    | 9, h => exact h
    | 10, h => exact let ⟨A44, c44, he, ho44⟩ := h; ⟨A44, c44, he, own_ext ho44 hx⟩
    | 11, h => exact let ⟨A44, c44, he, ho44⟩ := h; ⟨A44, c44, he, own_ext ho44 hx⟩
    | 12, h => exact let ⟨A44, c44, he, ho44⟩ := h; ⟨A44, c44, he, own_ext ho44 hx⟩
    | 13, h => exact h
    | 14, h => exact NewA.ext h hx
    | 15, h => exact let ⟨B, A44, c44, he, hb, hk, ho44⟩ := h; ⟨B, A44, c44, he, hb, Blk.ext hk hx, own_ext ho44 hx⟩
    | 16, h => exact h
    | _ + 17, _ => trivial
  · refine ⟨⟨⟨⟨⟨⟨⟨⟨⟨⟨⟨⟨⟨⟨⟨⟨⟨trivial, ?_⟩, ?_⟩, ?_⟩, ?_⟩, ?_⟩, ?_⟩, ?_⟩, ?_⟩, ?_⟩, ?_⟩, ?_⟩, ?_⟩, ?_⟩, ?_⟩, ?_⟩, ?_⟩, ?_⟩
    · intro _ ρ W kz hS hJ hkl hbt hout hpre hpreN
      obtain rfl : kz = 0 := by have := hbt 0 0 (by kernel_rfl); omega
      have hx : Ext _ W := hJ
      refine GSay.none rfl ?_
      have f8 : ρ (.tmp 8) = .pointer (some ⟨w2.heap.size, 0, none⟩) := hout 8 (by kernel_rfl)
      exact DoesU.value (v := .agg #[.int .i64 k1, .int .i64 l1, .slice A8 I1.length c8]) (w' := W) (by simp [go_sem, f8, (show W.cell? ⟨w2.heap.size, 0, none⟩ = some (.int .i64 k1) from ((B8.out.ext hJ)).cell 0), (show W.cell? ⟨w2.heap.size, 1, none⟩ = some (.int .i64 l1) from ((B8.out.ext hJ)).cell 1), (show W.cell? ⟨w2.heap.size, 2, none⟩ = some (.slice A8 I1.length c8) from ((B8.out.ext hJ)).cell 2)]) ⟨rfl, Ext.refl _⟩
    · intro _ ρ W kz hS hJ hkl hbt hout hpre hpreN
      refine GSay.none rfl ?_
      have f3 : ρ (.tmp 3) = .pointer (some ⟨w.heap.size, 0, none⟩) := hout 3 (by kernel_rfl)
      exact DoesU.value (v := .pointer (some ⟨w.heap.size, 2, none⟩)) (w' := W) (by simp [go_sem, f3]) ⟨rfl, Ext.refl _⟩
    · intro _ ρ W kz hS hJ hkl hbt hout hpre hpreN
      obtain rfl : kz = 0 := by have := hbt 0 0 (by kernel_rfl); omega
      have hx : Ext _ W := hJ
      refine GSay.none rfl ?_
      have f35 : ρ (.tmp 35) = .pointer (some ⟨w.heap.size, 2, none⟩) := hpre 1 35 (by kernel_rfl)
      exact DoesU.value (v := .slice A sa.length c) (w' := W) (by simp [go_sem, f35, (show W.cell? ⟨w.heap.size, 2, none⟩ = some (.slice A sa.length c) from ((B3.out.ext hJ)).cell 2)]) ⟨rfl, Ext.refl _⟩
    · intro _ ρ W kz hS hJ hkl hbt hout hpre hpreN
      refine GSay.none rfl ?_
      have f36 : ρ (.tmp 36) = .slice A sa.length c := hpre 2 36 (by kernel_rfl)
      exact DoesU.value (v := .int .i64 sa.length) (w' := W) (by simp [go_sem, f36]) ⟨rfl, Ext.refl _⟩
    · intro _ ρ W kz hS hJ hkl hbt hout hpre hpreN
      obtain rfl : kz = 0 := by have := hbt 0 0 (by kernel_rfl); omega
      have hx : Ext _ W := hJ
      refine GSay.none rfl ?_
      have f37 : ρ (.tmp 37) = .int .i64 sa.length := hpre 3 37 (by kernel_rfl)
      exact DoesU.value (v := .int .i64 sl) (w' := W) (by rw [HSL.out]; simp [go_sem, hS.const, f37]) ⟨rfl, Ext.refl _⟩
    · intro _ ρ W kz hS hJ hkl hbt hout hpre hpreN
      refine GSay.none rfl ?_
      have f2 : ρ (.tmp 2) = .string s0 := hout 2 (by kernel_rfl)
      exact DoesU.value (v := .string s0) (w' := W) (by simp [go_sem, f2]) ⟨rfl, Ext.refl _⟩
    · intro _ ρ W kz hS hJ hkl hbt hout hpre hpreN
      refine GSay.none rfl ?_
      have f2 : ρ (.tmp 2) = .string s0 := hout 2 (by kernel_rfl)
      exact DoesU.value (v := .string s0) (w' := W) (by simp [go_sem, f2]) ⟨rfl, Ext.refl _⟩
    · intro _ ρ W kz hS hJ hkl hbt hout hpre hpreN
      refine GSay.none rfl ?_
      have f40 : ρ (.tmp 40) = .string s0 := hpre 6 40 (by kernel_rfl)
      exact DoesU.value (v := .int .i64 s0.size) (w' := W) (by simp [go_sem, f40]) ⟨rfl, Ext.refl _⟩
    · intro _ ρ W kz hS hJ hkl hbt hout hpre hpreN
      obtain rfl : kz = 0 := by have := hbt 0 0 (by kernel_rfl); omega
      have hx : Ext _ W := hJ
      refine GSay.none rfl ?_
      have f41 : ρ (.tmp 41) = .int .i64 s0.size := hpre 7 41 (by kernel_rfl)
      exact DoesU.value (v := .int .i64 X) (w' := W) (by simp [go_sem, hS.const, f41, hX9]) ⟨rfl, Ext.refl _⟩
    · intro _ ρ W kz hS hJ hkl hbt hout hpre hpreN
      obtain rfl : kz = 0 := by have := hbt 0 0 (by kernel_rfl); omega
      have hx : Ext _ W := hJ
      refine GSay.none rfl ?_
      have f39 : ρ (.tmp 39) = .string s0 := hpre 5 39 (by kernel_rfl)
      have f42 : ρ (.tmp 42) = .int .i64 X := hpre 8 42 (by kernel_rfl)
      exact DoesU.value (v := .string x) (w' := W) (by rw [HX.out]; simp [go_sem, f39, f42, hXs]) ⟨rfl, Ext.refl _⟩
    · intro _ ρ W kz hS hJ hkl hbt hout hpre hpreN
      obtain rfl : kz = 0 := by have := hbt 0 0 (by kernel_rfl); omega
      have hx : Ext _ W := hJ
      refine GSay.none rfl ?_
      have f34 : ρ (.tmp 34) = .agg #[.int .i64 k1, .int .i64 l1, .slice A8 I1.length c8] := hpre 0 34 (by kernel_rfl)
      have f38 : ρ (.tmp 38) = .int .i64 sl := hpre 4 38 (by kernel_rfl)
      have f43 : ρ (.tmp 43) = .string x := hpre 9 43 (by kernel_rfl)
      refine DoesU.call (f := 18) (args := #[.agg #[.int .i64 k1, .int .i64 l1, .slice A8 I1.length c8], .int .i64 sl, .string x]) (w' := W) (by simp [go_sem, hS.func, f34, f38, f43]) ?_
      refine (HPT.out _ _ _ (H8.out.ext hx)).mono ?_
      rintro e w6 ⟨A44, c44, rfl, ho44, hx6⟩
      exact ⟨_, rfl, ⟨A44, c44, rfl, own_mono ho44 (Nat.zero_le _)⟩, hx6⟩
    · intro _ ρ W kz hS hJ hkl hbt hout hpre hpreN
      refine GSay.none rfl ?_
      obtain ⟨A44, c44, f44, ho44⟩ := hpre 10 44 (by kernel_rfl)
      exact DoesU.value (v := .tuple #[.agg #[.int .i64 K, .int .i64 L, .slice A44 J.length c44], .int .i64 q]) (w' := W) (by simp [go_sem, f44]) ⟨⟨A44, c44, rfl, ho44⟩, Ext.refl _⟩
    · intro _ ρ W kz hS hJ hkl hbt hout hpre hpreN
      refine GSay.none rfl ?_
      obtain ⟨A44, c44, f33, ho44⟩ := hpre 11 33 (by kernel_rfl)
      exact DoesU.value (v := .agg #[.int .i64 K, .int .i64 L, .slice A44 J.length c44]) (w' := W) (by simp [go_sem, f33]) ⟨⟨A44, c44, rfl, ho44⟩, Ext.refl _⟩
    · intro _ ρ W kz hS hJ hkl hbt hout hpre hpreN
      refine GSay.none rfl ?_
      obtain ⟨A44, c44, f33, ho44⟩ := hpre 11 33 (by kernel_rfl)
      exact DoesU.value (v := .int .i64 q) (w' := W) (by simp [go_sem, f33]) ⟨rfl, Ext.refl _⟩
    · intro _ ρ W kz hS hJ hkl hbt hout hpre hpreN
      obtain rfl : kz = 0 := by have := hbt 0 0 (by kernel_rfl); omega
      have hx : Ext _ W := hJ
      refine GSay.none rfl ?_
      exact DoesU.value (v := .pointer (some ⟨W.heap.size, 0, none⟩)) (w' := W.alloc (.cells #[.int .i64 0, .int .i64 0, .slice none 0 0] 26)) (by simp [go_sem]) ⟨NewA.new hx.size, (Ext.refl W).alloc _⟩
    · intro hz; exact absurd (by decide) hz
    · intro _ ρ W kz hS hJ hkl hbt hout hpre hpreN
      refine GSay.none rfl ?_
      have f46 : ρ (.tmp 46) = .int .i64 q := hpre 13 46 (by kernel_rfl)
      exact DoesU.value (v := .int .i64 q) (w' := W) (by simp [go_sem, f46]) ⟨rfl, Ext.refl _⟩
  · refine ⟨trivial, ?_⟩
    · intro ρ W hS hJ hout hpre hpreN
      refine ⟨rfl, ?_⟩
      obtain ⟨B14, cs14, f14, hb14, hk14, hn14⟩ := hpre 14 14 (by kernel_rfl)
      obtain ⟨A44, c44, f45, ho44⟩ := hpre 12 45 (by kernel_rfl)
      obtain ⟨y0, y1, y2, rfl⟩ := arr3 hn14
      have c0 : W.cell? ⟨B14, 0, none⟩ = some y0 := hk14.cell 0; have z0 := hk14.frozen 0
      have c1 : W.cell? ⟨B14, 1, none⟩ = some y1 := hk14.cell 1; have z1 := hk14.frozen 1
      have c2 : W.cell? ⟨B14, 2, none⟩ = some y2 := hk14.cell 2; have z2 := hk14.frozen 2
      have hU : Upd [B14] W (((W.setCell ⟨B14, 0, none⟩ (.int .i64 K)).setCell ⟨B14, 1, none⟩ (.int .i64 L)).setCell ⟨B14, 2, none⟩ (.slice A44 J.length c44)) := ((((Upd.refl _ _).set (.inl (by simp)) _).set (.inl (by simp)) _).set (.inl (by simp)) _)
      refine DoesU.skip (w' := (((W.setCell ⟨B14, 0, none⟩ (.int .i64 K)).setCell ⟨B14, 1, none⟩ (.int .i64 L)).setCell ⟨B14, 2, none⟩ (.slice A44 J.length c44))) (by simp [go_sem, f14, f45, c0, c1, c2, z0, z1, z2]) ⟨⟨B14, A44, c44, f14, hb14, (((hk14.set_ 0 _).set_ 1 _).set_ 2 _), own_upd1 ho44 hk14 (by decide) hU⟩, hJ.upd hU (by simpa using hb14), fun jz u σ hj h => match jz, hj, h with | 0, _, h => h | 1, _, h => h | 2, _, h => h | 3, _, h => h | 4, _, h => h | 5, _, h => h | 6, _, h => h | 7, _, h => h | 8, _, h => h | 9, _, h => h | 10, _, h => let ⟨A44, c44, he, ho44⟩ := h; ⟨A44, c44, he, own_upd1 ho44 hk14 (by decide) hU⟩ | 11, _, h => let ⟨A44, c44, he, ho44⟩ := h; ⟨A44, c44, he, own_upd1 ho44 hk14 (by decide) hU⟩ | 12, _, h => let ⟨A44, c44, he, ho44⟩ := h; ⟨A44, c44, he, own_upd1 ho44 hk14 (by decide) hU⟩ | 13, _, h => h | 14, _, h => NewA.set (NewA.set (NewA.set (h))) | 15, hj, _ => absurd rfl hj | 16, _, h => h | _ + 17, _, _ => trivial⟩
  intro vs w6 σ hl hσ hD hN hJ
  replace hl := hl.trans (show (idxU _).length = 16 by kernel_rfl)
  rcases vs with _ | ⟨v34, vs⟩; · simp at hl
  rcases vs with _ | ⟨v35, vs⟩; · simp at hl
  rcases vs with _ | ⟨v36, vs⟩; · simp at hl
  rcases vs with _ | ⟨v37, vs⟩; · simp at hl
  rcases vs with _ | ⟨v38, vs⟩; · simp at hl
  rcases vs with _ | ⟨v39, vs⟩; · simp at hl
  rcases vs with _ | ⟨v40, vs⟩; · simp at hl
  rcases vs with _ | ⟨v41, vs⟩; · simp at hl
  rcases vs with _ | ⟨v42, vs⟩; · simp at hl
  rcases vs with _ | ⟨v43, vs⟩; · simp at hl
  rcases vs with _ | ⟨v44, vs⟩; · simp at hl
  rcases vs with _ | ⟨v33, vs⟩; · simp at hl
  rcases vs with _ | ⟨v45, vs⟩; · simp at hl
  rcases vs with _ | ⟨v46, vs⟩; · simp at hl
  rcases vs with _ | ⟨v14, vs⟩; · simp at hl
  rcases vs with _ | ⟨v15, vs⟩; · simp at hl
  obtain rfl : vs = [] := List.eq_nil_of_length_eq_zero (by simpa using hl)
  clear hl
  obtain rfl : v34 = .agg #[.int .i64 k1, .int .i64 l1, .slice A8 I1.length c8] := hD 0 0 v34 (by kernel_rfl) rfl
  obtain rfl : v35 = .pointer (some ⟨w.heap.size, 2, none⟩) := hD 1 1 v35 (by kernel_rfl) rfl
  obtain rfl : v36 = .slice A sa.length c := hD 2 2 v36 (by kernel_rfl) rfl
  obtain rfl : v37 = .int .i64 sa.length := hD 3 3 v37 (by kernel_rfl) rfl
  obtain rfl : v38 = .int .i64 sl := hD 4 4 v38 (by kernel_rfl) rfl
  obtain rfl : v39 = .string s0 := hD 5 5 v39 (by kernel_rfl) rfl
  obtain rfl : v40 = .string s0 := hD 6 6 v40 (by kernel_rfl) rfl
  obtain rfl : v41 = .int .i64 s0.size := hD 7 7 v41 (by kernel_rfl) rfl
  obtain rfl : v42 = .int .i64 X := hD 8 8 v42 (by kernel_rfl) rfl
  obtain rfl : v43 = .string x := hD 9 9 v43 (by kernel_rfl) rfl
  obtain ⟨A44, c44, rfl, ho44⟩ := hD 10 10 v44 (by kernel_rfl) rfl
  obtain ⟨A44, c44, rfl, ho44⟩ := hD 11 11 v33 (by kernel_rfl) rfl
  obtain ⟨A44, c44, rfl, ho44⟩ := hD 12 12 v45 (by kernel_rfl) rfl
  obtain rfl : v46 = .int .i64 q := hD 13 13 v46 (by kernel_rfl) rfl
  obtain ⟨B14, cs14, rfl, hb14, hk14, hn14⟩ := hD 14 14 v14 (by kernel_rfl) rfl
  obtain rfl : v15 = .int .i64 q := hD 15 16 v15 (by kernel_rfl) rfl
  have hz15 := hN 15 (by decide) (by kernel_rfl)
  simp only [] at hz15
  rw [hσ 14 14 _ (by kernel_rfl) rfl] at hz15
  obtain ⟨B', A44, c44, he14, hb', hk14, ho44⟩ := hz15
  obtain rfl := ptr_inj he14; clear he14 hb'
  clear hD hN hσ
  rw [show dstsU _ = [34, 35, 36, 37, 38, 39, 40, 41, 42, 43, 44, 33, 45, 46, 14, 15] by kernel_rfl]
  simp only [putAll, List.setIfInBounds_toArray, List.set_cons_succ, List.set_cons_zero]
  have H14 := Lib.hid (At.of_own ho44)
  have C14 := Lib.hid (own_cap ho44)
  have B14s := Lib.hid hk14
  have HJ := Lib.hid hJ
  clear hJ ho44 hk14
  have HB14 := Lib.hid hb14
  clear hb14
  by_cases hq : q = 0

  · subst hq
    replace B3 := Lib.hid (B3.out.ext HJ.out)
    replace B4 := Lib.hid (B4.out.ext HJ.out)
    replace B8 := Lib.hid (B8.out.ext HJ.out)
    replace B9 := Lib.hid (B9.out.ext HJ.out)
    replace H8 := Lib.hid (H8.out.ext HJ.out)
    replace H9 := Lib.hid (H9.out.ext HJ.out)
    replace X1 := Lib.hid (X1.out.trans HJ.out)
    clear HJ
    have B14s_0 : w6.cell? ⟨B14, 0, none⟩ = some (.int .i64 K) := B14s.out.cell 0
    have B14s_1 : w6.cell? ⟨B14, 1, none⟩ = some (.int .i64 L) := B14s.out.cell 1
    have B14s_2 : w6.cell? ⟨B14, 2, none⟩ = some (.slice A44 J.length c44) := B14s.out.cell 2
    have B14s_lt : B14 < w6.heap.size := B14s.out.lt
    go_wp2_with fail
    refine (BY3.out _ _ _ H14.out).mono ?_
    rintro e w8 ⟨rfl, hx⟩
    replace B3 := Lib.hid (B3.out.ext hx)
    replace B4 := Lib.hid (B4.out.ext hx)
    replace B8 := Lib.hid (B8.out.ext hx)
    replace B9 := Lib.hid (B9.out.ext hx)
    replace B14s := Lib.hid (B14s.out.ext hx)
    replace H8 := Lib.hid (H8.out.ext ((Ext.refl _).trans hx))
    replace H9 := Lib.hid (H9.out.ext ((Ext.refl _).trans hx))
    replace H14 := Lib.hid (H14.out.ext ((Ext.refl _).trans hx))
    replace X1 := Lib.hid (X1.out.trans ((Ext.refl _).trans hx))
    clear hx B14s_0 B14s_1 B14s_2 B14s_lt
    have B8_0 : w8.cell? ⟨w2.heap.size, 0, none⟩ = some (.int .i64 k1) := B8.out.cell 0
    have B8_1 : w8.cell? ⟨w2.heap.size, 1, none⟩ = some (.int .i64 l1) := B8.out.cell 1
    have B8_2 : w8.cell? ⟨w2.heap.size, 2, none⟩ = some (.slice A8 I1.length c8) := B8.out.cell 2
    have B8_lt : w2.heap.size < w8.heap.size := B8.out.lt
    have B9_0 : w8.cell? ⟨w3.heap.size, 0, none⟩ = some (.int .i64 k2) := B9.out.cell 0
    have B9_1 : w8.cell? ⟨w3.heap.size, 1, none⟩ = some (.int .i64 l2) := B9.out.cell 1
    have B9_2 : w8.cell? ⟨w3.heap.size, 2, none⟩ = some (.slice A9 I2.length c9) := B9.out.cell 2
    have B9_lt : w3.heap.size < w8.heap.size := B9.out.lt
    have B14s_0 : w8.cell? ⟨B14, 0, none⟩ = some (.int .i64 K) := B14s.out.cell 0
    have B14s_1 : w8.cell? ⟨B14, 1, none⟩ = some (.int .i64 L) := B14s.out.cell 1
    have B14s_2 : w8.cell? ⟨B14, 2, none⟩ = some (.slice A44 J.length c44) := B14s.out.cell 2
    have B14s_lt : B14 < w8.heap.size := B14s.out.lt
    have e12 := HB12.out
    rcases b12 : sameB k1 l1 I1 k2 l2 I2 with _ | _ <;> rw [b12] at e12
    all_goals have e13 := HB13.out
    all_goals rcases b13 : sameB k1 l1 I1 K L J with _ | _ <;> rw [b13] at e13
    all_goals
      go_wp2_with fail
      refine (same_any _ _ _ _ _ _ _ _ _ _ _ _ _ rfl rfl H8.out H9.out (by omega) (by omega)).mono ?_
      rw [b12]
      rintro e w9 ⟨rfl, hx⟩
      replace B3 := Lib.hid (B3.out.ext hx)
      replace B4 := Lib.hid (B4.out.ext hx)
      replace B8 := Lib.hid (B8.out.ext hx)
      replace B9 := Lib.hid (B9.out.ext hx)
      replace B14s := Lib.hid (B14s.out.ext hx)
      replace H8 := Lib.hid (H8.out.ext ((Ext.refl _).trans hx))
      replace H9 := Lib.hid (H9.out.ext ((Ext.refl _).trans hx))
      replace H14 := Lib.hid (H14.out.ext ((Ext.refl _).trans hx))
      replace X1 := Lib.hid (X1.out.trans ((Ext.refl _).trans hx))
      clear hx B8_0 B8_1 B8_2 B8_lt B9_0 B9_1 B9_2 B9_lt B14s_0 B14s_1 B14s_2 B14s_lt
      have B8_0 : w9.cell? ⟨w2.heap.size, 0, none⟩ = some (.int .i64 k1) := B8.out.cell 0
      have B8_1 : w9.cell? ⟨w2.heap.size, 1, none⟩ = some (.int .i64 l1) := B8.out.cell 1
      have B8_2 : w9.cell? ⟨w2.heap.size, 2, none⟩ = some (.slice A8 I1.length c8) := B8.out.cell 2
      have B8_lt : w2.heap.size < w9.heap.size := B8.out.lt
      have B14s_0 : w9.cell? ⟨B14, 0, none⟩ = some (.int .i64 K) := B14s.out.cell 0
      have B14s_1 : w9.cell? ⟨B14, 1, none⟩ = some (.int .i64 L) := B14s.out.cell 1
      have B14s_2 : w9.cell? ⟨B14, 2, none⟩ = some (.slice A44 J.length c44) := B14s.out.cell 2
      have B14s_lt : B14 < w9.heap.size := B14s.out.lt
      go_wp2_with fail
      refine (same_any _ _ _ _ _ _ _ _ _ _ _ _ _ rfl rfl H8.out H14.out (by omega) (by omega)).mono ?_
      rw [b13]
      rintro e w10 ⟨rfl, hx⟩
      replace B3 := Lib.hid (B3.out.ext hx)
      replace B4 := Lib.hid (B4.out.ext hx)
      replace B8 := Lib.hid (B8.out.ext hx)
      replace B9 := Lib.hid (B9.out.ext hx)
      replace B14s := Lib.hid (B14s.out.ext hx)
      replace H8 := Lib.hid (H8.out.ext ((Ext.refl _).trans hx))
      replace H9 := Lib.hid (H9.out.ext ((Ext.refl _).trans hx))
      replace H14 := Lib.hid (H14.out.ext ((Ext.refl _).trans hx))
      replace X1 := Lib.hid (X1.out.trans ((Ext.refl _).trans hx))
      clear hx B8_0 B8_1 B8_2 B8_lt B14s_0 B14s_1 B14s_2 B14s_lt
      go_wp2
      go_ret
      exact Ret1.bool rfl X1.out
  · have hq' : ¬ q = 0 := hq
    have BX := Lib.hid (B8.out.ext HJ.out)
    have BX_0 : w6.cell? ⟨w2.heap.size, 0, none⟩ = some (.int .i64 k1) := BX.out.cell 0
    have BX_1 : w6.cell? ⟨w2.heap.size, 1, none⟩ = some (.int .i64 l1) := BX.out.cell 1
    have BX_2 : w6.cell? ⟨w2.heap.size, 2, none⟩ = some (.slice A8 I1.length c8) := BX.out.cell 2
    have BX_lt : w2.heap.size < w6.heap.size := BX.out.lt
    have B14s_0 : w6.cell? ⟨B14, 0, none⟩ = some (.int .i64 K) := B14s.out.cell 0
    have B14s_1 : w6.cell? ⟨B14, 1, none⟩ = some (.int .i64 L) := B14s.out.cell 1
    have B14s_2 : w6.cell? ⟨B14, 2, none⟩ = some (.slice A44 J.length c44) := B14s.out.cell 2
    have B14s_lt : B14 < w6.heap.size := B14s.out.lt
    have f0 := B14s.out.frozen 0
    have f1 := B14s.out.frozen 1
    have f2 := B14s.out.frozen 2
    have hu := fun (a b c : Value) => ((HJ.out.set (p := ⟨B14, 0, none⟩) HB14.out a).set (p := ⟨B14, 1, none⟩) HB14.out b).set (p := ⟨B14, 2, none⟩) HB14.out c
    have HU := Lib.hid hu
    clear hu
    go_wp2_with fail
    refine (BY1.out _ _ _ (H8.out.ext (HU.out _ _ _))).mono ?_
    rintro e w8 ⟨rfl, hx⟩
    replace B14s := Lib.hid (show Blk w8 B14 26 #[.int .i64 k1, .int .i64 l1, .slice A8 I1.length c8] from (((B14s.out.set_ 0 _).set_ 1 _).set_ 2 _).ext hx)
    have HU8 := Lib.hid ((HU.out _ _ _).trans hx)
    clear hx f0 f1 f2 BX_0 BX_1 BX_2 BX_lt B14s_0 B14s_1 B14s_2 B14s_lt
    replace B3 := Lib.hid (B3.out.ext HU8.out)
    replace B4 := Lib.hid (B4.out.ext HU8.out)
    replace B8 := Lib.hid (B8.out.ext HU8.out)
    replace B9 := Lib.hid (B9.out.ext HU8.out)
    replace H8 := Lib.hid (H8.out.ext HU8.out)
    replace H9 := Lib.hid (H9.out.ext HU8.out)
    replace X1 := Lib.hid (X1.out.trans HU8.out)
    have B8_0 : w8.cell? ⟨w2.heap.size, 0, none⟩ = some (.int .i64 k1) := B8.out.cell 0
    have B8_1 : w8.cell? ⟨w2.heap.size, 1, none⟩ = some (.int .i64 l1) := B8.out.cell 1
    have B8_2 : w8.cell? ⟨w2.heap.size, 2, none⟩ = some (.slice A8 I1.length c8) := B8.out.cell 2
    have B8_lt : w2.heap.size < w8.heap.size := B8.out.lt
    have B9_0 : w8.cell? ⟨w3.heap.size, 0, none⟩ = some (.int .i64 k2) := B9.out.cell 0
    have B9_1 : w8.cell? ⟨w3.heap.size, 1, none⟩ = some (.int .i64 l2) := B9.out.cell 1
    have B9_2 : w8.cell? ⟨w3.heap.size, 2, none⟩ = some (.slice A9 I2.length c9) := B9.out.cell 2
    have B9_lt : w3.heap.size < w8.heap.size := B9.out.lt
    have B14s_0 : w8.cell? ⟨B14, 0, none⟩ = some (.int .i64 k1) := B14s.out.cell 0
    have B14s_1 : w8.cell? ⟨B14, 1, none⟩ = some (.int .i64 l1) := B14s.out.cell 1
    have B14s_2 : w8.cell? ⟨B14, 2, none⟩ = some (.slice A8 I1.length c8) := B14s.out.cell 2
    have B14s_lt : B14 < w8.heap.size := B14s.out.lt
    have e12 := HB12.out
    rcases b12 : sameB k1 l1 I1 k2 l2 I2 with _ | _ <;> rw [b12] at e12
    all_goals have b13 := same_self k1 l1 I1
    all_goals
      go_wp2_with fail
      refine (same_any _ _ _ _ _ _ _ _ _ _ _ _ _ rfl rfl H8.out H9.out (by omega) (by omega)).mono ?_
      rw [b12]
      rintro e w9 ⟨rfl, hx⟩
      replace B3 := Lib.hid (B3.out.ext hx)
      replace B4 := Lib.hid (B4.out.ext hx)
      replace B8 := Lib.hid (B8.out.ext hx)
      replace B9 := Lib.hid (B9.out.ext hx)
      replace B14s := Lib.hid (B14s.out.ext hx)
      replace H8 := Lib.hid (H8.out.ext ((Ext.refl _).trans hx))
      replace H9 := Lib.hid (H9.out.ext ((Ext.refl _).trans hx))
      replace X1 := Lib.hid (X1.out.trans ((Ext.refl _).trans hx))
      clear hx B8_0 B8_1 B8_2 B8_lt B9_0 B9_1 B9_2 B9_lt B14s_0 B14s_1 B14s_2 B14s_lt
      have B8_0 : w9.cell? ⟨w2.heap.size, 0, none⟩ = some (.int .i64 k1) := B8.out.cell 0
      have B8_1 : w9.cell? ⟨w2.heap.size, 1, none⟩ = some (.int .i64 l1) := B8.out.cell 1
      have B8_2 : w9.cell? ⟨w2.heap.size, 2, none⟩ = some (.slice A8 I1.length c8) := B8.out.cell 2
      have B8_lt : w2.heap.size < w9.heap.size := B8.out.lt
      have B14s_0 : w9.cell? ⟨B14, 0, none⟩ = some (.int .i64 k1) := B14s.out.cell 0
      have B14s_1 : w9.cell? ⟨B14, 1, none⟩ = some (.int .i64 l1) := B14s.out.cell 1
      have B14s_2 : w9.cell? ⟨B14, 2, none⟩ = some (.slice A8 I1.length c8) := B14s.out.cell 2
      have B14s_lt : B14 < w9.heap.size := B14s.out.lt
      go_wp2_with fail
      refine (same_any _ _ _ _ _ _ _ _ _ _ _ _ _ rfl rfl H8.out H8.out (by omega) (by omega)).mono ?_
      rw [b13]
      rintro e w10 ⟨rfl, hx⟩
      replace B3 := Lib.hid (B3.out.ext hx)
      replace B4 := Lib.hid (B4.out.ext hx)
      replace B8 := Lib.hid (B8.out.ext hx)
      replace B9 := Lib.hid (B9.out.ext hx)
      replace B14s := Lib.hid (B14s.out.ext hx)
      replace H8 := Lib.hid (H8.out.ext ((Ext.refl _).trans hx))
      replace H9 := Lib.hid (H9.out.ext ((Ext.refl _).trans hx))
      replace X1 := Lib.hid (X1.out.trans ((Ext.refl _).trans hx))
      clear hx B8_0 B8_1 B8_2 B8_lt B14s_0 B14s_1 B14s_2 B14s_lt
      go_wp2
      go_ret
      exact Ret1.bool rfl X1.out
end Go.Proofs.Ytkkldciofndedaa

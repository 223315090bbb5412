/- the walk of PageOwn. -/
import Derived.Test.YtkkldciofndedaaDoAll
import Derived.Test.YtkkldciofndedaaPageOrder
import Derived.Test.YtkkldciofndedaaUpd2
namespace Go.Proofs.Ytkkldciofndedaa
open Go.RowKit
set_option linter.unusedVariables false

theorem low2 (l : Int) : 0 ≤ bits .and .i64 l 3 ∧ bits .and .i64 l 3 ≤ 3 := by
  have e : bits .and .i64 l 3 = IntKind.i64.wrap ((BitVec.ofInt 64 l &&& BitVec.ofInt 64 3).toNat : Int) := rfl
  have h : (BitVec.ofInt 64 l &&& BitVec.ofInt 64 3).toNat ≤ 3 := by
    rw [BitVec.toNat_and]
    exact Nat.le_trans (Nat.and_le_right) (by decide)
  rw [e, IntKind.wrap_i64]
  omega
def OTHER : Value := .string ⟨#[111, 116, 104, 101, 114]⟩
/-- the relation of the loops that write 'other' into every item -/
def OthRel (n : Nat) (base : Nat) (A : Option Addr) (c : Nat) (wL : World) (v : Value) (wr : World) : Prop :=
  ∃ (j : Nat) (xs : List Value), v = .int .i64 j ∧ j ≤ n ∧ wr.ownsRow base 9 1 (.slice A n c) n xs ∧ Upd (Value.slice A n c).ownBlock.toList wL wr
theorem own_mem {w : World} {base : Nat} {e : TypeId} {A : Option Addr} {n c m : Nat} {xs : List Value} (h : w.ownsRow base e 1 (.slice A n c) m xs) : ∀ k ∈ (Value.slice A n c).ownBlock.toList, base ≤ k := fun k hk => own_block h k (by simpa using hk)

theorem run_cv_one (m : Nat) (W : World) : (convert 34 9 (.slice (some ⟨W.heap.size, 0, none⟩) 1 1)).run Try.prog (W.alloc (.cells #[.int .u8 m] 5)) = .ok (.string (strOfNums [(m : Int)])) (W.alloc (.cells #[.int .u8 m] 5)) :=
  run_convert_bytes_arg _ 34 5 Try.underlying34 Try.underlying5 W.heap.size 0 1 1 [(m : Int)] rfl (fun i hi => by
    obtain rfl : i = 0 := by omega
    exact World.cell?_alloc_at _ _ _ _ rfl) 9 Try.underlying9
theorem kind_ok (m : Nat) (hm : m < 3) (k l : Int) (ss : List ByteArray) (hs : Small ss) (hr : rightB k l ss = true) : ∀ (A : Option Addr) (c : Nat) (w : World), At w A (ss.map Value.string) →
    Calls Try.prog 21 #[.agg #[.int .i64 k, .int .i64 l, .slice A ss.length c], .agg #[.int .i64 0, .int .i64 (-1), .string (strOfNums [(m : Int)])], .int .i64 9] w (PgPost m 9 [] 0 w) := by
  intro A c w h
  match m, hm with
  | 0, _ => exact do_kind_ok k l A _ c ss 0 _ 9 w rfl h hs hr (by decide) rfl (by show (0 : Nat) ≤ 2; omega)
  | 1, _ => exact do_kind_ok k l A _ c ss 0 _ 9 w rfl h hs hr (by decide) rfl (by show (1 : Nat) ≤ 2; omega)
  | 2, _ => exact do_kind_ok k l A _ c ss 0 _ 9 w rfl h hs hr (by decide) rfl (by show (2 : Nat) ≤ 2; omega)
theorem kind_bad (m : Nat) (hm : m = 3) (k l : Int) (ss : List ByteArray) (hs : Small ss) (hr : rightB k l ss = true) : ∀ (A : Option Addr) (c : Nat) (w : World), At w A (ss.map Value.string) →
    Calls Try.prog 21 #[.agg #[.int .i64 k, .int .i64 l, .slice A ss.length c], .agg #[.int .i64 0, .int .i64 (-1), .string (strOfNums [(m : Int)])], .int .i64 9] w (PgPost 0 0 [] 21 w) := by
  intro A c w h
  subst hm
  exact do_kind_bad k l A _ c ss 0 _ 9 w rfl h hs hr (by decide) rfl (by show 2 < (3 : Nat); omega)
set_option maxRecDepth 100000 in
set_option maxHeartbeats 8000000 in
theorem pageown_any (kA lA : Int) (Aa : Option Addr) (ca : Nat) (sa : List ByteArray) (pg slot : Int) (s0 : ByteArray) (lsn from_ : Int) (w : World)
    (ha : At w Aa (sa.map Value.string)) (hla : sa.length ≤ 9223372036854775807) (hs0 : s0.size ≤ 9223372036854775807) :
    Calls Try.prog 7 #[.agg #[.int .i64 kA, .int .i64 lA, .slice Aa sa.length ca], .agg #[.int .i64 pg, .int .i64 slot, .string s0, .int .i64 lsn, .int .i64 from_]] w (Ret1 (.bool true) w) := by
  have HA := Lib.hid ha
  have HA0 := Lib.hid ha; clear ha
  obtain ⟨k2, hk2⟩ : ∃ x, x = kindF kA := ⟨_, rfl⟩
  obtain ⟨l2, hl2⟩ : ∃ x, x = lsnF lA := ⟨_, rfl⟩
  obtain ⟨I2, hI2⟩ : ∃ x, x = mkL kA lA sa := ⟨_, rfl⟩
  have hr2 : rightB k2 l2 I2 = true := by rw [hk2, hl2, hI2]; exact mkL_right kA lA sa
  have HR2 := Lib.hid hr2
  have HS2 := Lib.hid (right_small hr2)
  have h24 : I2.length ≤ 24 := (right_parts hr2).2.2.1.1
  have HM := Lib.hid (show ∀ (w : World), At w Aa (sa.map Value.string) → Calls Try.prog 14 #[.agg #[.int .i64 kA, .int .i64 lA, .slice Aa sa.length ca]] w (PgOne k2 l2 I2 w) by
    rw [hk2, hl2, hI2]; exact fun w h => lmade_any kA lA Aa _ ca sa w rfl h hla)
  clear hk2 hl2 hI2 hr2
  obtain ⟨X, hX, hX0, hXs, hXn⟩ := cut_min s0 60 60 rfl
  obtain ⟨x, hx⟩ : ∃ x, x = cutN s0 60 := ⟨_, rfl⟩
  have hxs : x.size ≤ 60 := by rw [hx]; exact cutN_size s0 60
  rw [← hx] at hX
  have HX := Lib.hid hX
  clear hX hx
  obtain ⟨i, hi, ei⟩ := mod_slot slot 24 (by omega) (by omega)
  have HE := Lib.hid ei
  clear ei
  obtain ⟨q, hq⟩ : ∃ z, z = putErr k2 l2 I2 i x := ⟨_, rfl⟩
  obtain ⟨K1, hK1⟩ : ∃ z, z = putKind k2 l2 I2 i x := ⟨_, rfl⟩
  obtain ⟨L1, hL1⟩ : ∃ z, z = doLsn k2 l2 I2 i x 5 := ⟨_, rfl⟩
  obtain ⟨L3, hL3⟩ : ∃ z, z = putLsn k2 l2 I2 i x := ⟨_, rfl⟩
  obtain ⟨J, hJ⟩ : ∃ z, z = putItems k2 l2 I2 i x := ⟨_, rfl⟩
  have hJl : J.length ≤ 24 := by rw [hJ]; exact putItems_len _ _ _ _ _
  have P1 := Lib.hid (show ∀ (A : Option Addr) (c : Nat) (w : World), At w A (I2.map Value.string) → Calls Try.prog 21 #[.agg #[.int .i64 k2, .int .i64 l2, .slice A I2.length c], .agg #[.int .i64 pg, .int .i64 i, .string x], .int .i64 5] w (PgPost K1 L1 J q w) by
    rw [hq, hK1, hL1, hJ]; exact fun A c w h => do_right k2 l2 A _ c I2 pg i x 5 w rfl h HR2.out (by omega) (by omega) (by omega))
  have P2 := Lib.hid (show ∀ (A : Option Addr) (c : Nat) (w : World), At w A (I2.map Value.string) → Calls Try.prog 18 #[.agg #[.int .i64 k2, .int .i64 l2, .slice A I2.length c], .int .i64 i, .string x] w (PgPost K1 L3 J q w) by
    rw [hq, hK1, hL3, hJ]; exact fun A c w h => by rw [← put_eq]; exact put_any k2 l2 A _ c I2 i x w rfl h HS2.out (by omega))
  clear hq hK1 hL1 hL3 hJ
  obtain ⟨m, hm⟩ : ∃ x, x = bits .and .i64 lsn 3 := ⟨_, rfl⟩
  have hm0 : 0 ≤ m ∧ m ≤ 3 := by rw [hm]; exact low2 lsn
  have HMM := Lib.hid hm
  clear hm
  go_enter Try.func7, Try.ntmps7
  go_wp2_with fail
  refine (sanity_any _).mono ?_
  rintro e w1 ⟨rfl, hx⟩
  replace HA := Lib.hid (HA.out.ext ((((Ext.refl _).alloc _).alloc _).trans hx))
  have B2 : Hid (Blk w1 (w.heap.size) 24 #[.int .i64 kA, .int .i64 lA, .slice Aa sa.length ca]) := Lib.hid (((Blk.new' (by simp)).alloc _).ext hx)
  have B3 : Hid (Blk w1 (w.heap.size + 1) 43 #[.int .i64 pg, .int .i64 slot, .string s0, .int .i64 lsn, .int .i64 from_]) := Lib.hid ((Blk.new' (by simp)).ext hx)
  have X1 := Lib.hid (((Ext.refl w).alloc _).alloc _ |>.trans hx)
  clear hx
  have B2_0 : w1.cell? ⟨w.heap.size, 0, none⟩ = some (.int .i64 kA) := B2.out.cell 0
  have B2_1 : w1.cell? ⟨w.heap.size, 1, none⟩ = some (.int .i64 lA) := B2.out.cell 1
  have B2_2 : w1.cell? ⟨w.heap.size, 2, none⟩ = some (.slice Aa sa.length ca) := B2.out.cell 2
  have B2_lt : w.heap.size < w1.heap.size := B2.out.lt
  go_wp2_with fail
  refine (HM.out _ HA.out).mono ?_
  rintro e w2 ⟨A6, c6, rfl, ho, hx⟩
  replace B2 := Lib.hid (B2.out.ext hx)
  replace B3 := Lib.hid (B3.out.ext hx)
  replace HA := Lib.hid (HA.out.ext ((Ext.refl _).trans hx))
  replace X1 := Lib.hid (X1.out.trans ((Ext.refl _).trans hx))
  have H6 := Lib.hid (At.of_own ho)
  have XW2 := X1
  have H6w2 := H6
  clear ho
  clear hx B2_0 B2_1 B2_2 B2_lt
  have B3_0 : w2.cell? ⟨w.heap.size + 1, 0, none⟩ = some (.int .i64 pg) := B3.out.cell 0
  have B3_1 : w2.cell? ⟨w.heap.size + 1, 1, none⟩ = some (.int .i64 slot) := B3.out.cell 1
  have B3_2 : w2.cell? ⟨w.heap.size + 1, 2, none⟩ = some (.string s0) := B3.out.cell 2
  have B3_3 : w2.cell? ⟨w.heap.size + 1, 3, none⟩ = some (.int .i64 lsn) := B3.out.cell 3
  have B3_4 : w2.cell? ⟨w.heap.size + 1, 4, none⟩ = some (.int .i64 from_) := B3.out.cell 4
  have B3_lt : w.heap.size + 1 < w2.heap.size := B3.out.lt
  go_wp2_with fail
  rw [HE.out, ← HX.out]
  refine (P1.out _ _ _ (H6.out.ext (((Ext.refl _).alloc _).alloc _))).mono ?_
  rintro e w3 ⟨A8, c8, rfl, ho, hx⟩
  replace B2 := Lib.hid (((B2.out.alloc _).alloc _).ext hx)
  replace B3 := Lib.hid (((B3.out.alloc _).alloc _).ext hx)
  replace HA := Lib.hid (HA.out.ext ((((Ext.refl _).alloc _).alloc _).trans hx))
  replace H6 := Lib.hid (H6.out.ext ((((Ext.refl _).alloc _).alloc _).trans hx))
  replace X1 := Lib.hid (X1.out.trans ((((Ext.refl _).alloc _).alloc _).trans hx))
  have B6 : Hid (Blk w3 (w2.heap.size) 26 #[.int .i64 k2, .int .i64 l2, .slice A6 I2.length c6]) := Lib.hid (((Blk.new' (by simp)).alloc _).ext hx)
  have B7 : Hid (Blk w3 (w2.heap.size + 1) 41 #[.int .i64 pg, .int .i64 i, .string x]) := Lib.hid ((Blk.new' (by simp)).ext hx)
  have O8 := Lib.hid (own_mono (base' := w2.heap.size + 1 + 1) ho (by simp))
  have L8 : Hid (∀ k, (Value.slice A8 J.length c8).ownBlock = some k → k < w3.heap.size) := Lib.hid (fun k hk => (ho.lt k hk).2)
  have E2 := Lib.hid (Ext.trans (((Ext.refl _).alloc _).alloc _) hx)
  have hle1 := XW2.out.size
  have hle2 := E2.out.size
  clear ho hX0
  clear hx B3_0 B3_1 B3_2 B3_3 B3_4 B3_lt
  have B6_0 : w3.cell? ⟨w2.heap.size, 0, none⟩ = some (.int .i64 k2) := B6.out.cell 0
  have B6_1 : w3.cell? ⟨w2.heap.size, 1, none⟩ = some (.int .i64 l2) := B6.out.cell 1
  have B6_2 : w3.cell? ⟨w2.heap.size, 2, none⟩ = some (.slice A6 I2.length c6) := B6.out.cell 2
  have B6_lt : w2.heap.size < w3.heap.size := B6.out.lt
  have B7_0 : w3.cell? ⟨w2.heap.size + 1, 0, none⟩ = some (.int .i64 pg) := B7.out.cell 0
  have B7_1 : w3.cell? ⟨w2.heap.size + 1, 1, none⟩ = some (.int .i64 i) := B7.out.cell 1
  have B7_2 : w3.cell? ⟨w2.heap.size + 1, 2, none⟩ = some (.string x) := B7.out.cell 2
  have B7_lt : w2.heap.size + 1 < w3.heap.size := B7.out.lt
  go_wp2_with fail
  refine (P2.out _ _ _ (H6.out.ext ((Ext.refl _).alloc _))).mono ?_
  rintro e w4 ⟨A10, c10, rfl, ho, hx⟩
  replace B2 := Lib.hid ((B2.out.alloc _).ext hx)
  replace B3 := Lib.hid ((B3.out.alloc _).ext hx)
  replace B6 := Lib.hid ((B6.out.alloc _).ext hx)
  replace B7 := Lib.hid ((B7.out.alloc _).ext hx)
  replace HA := Lib.hid (HA.out.ext (((Ext.refl _).alloc _).trans hx))
  replace H6 := Lib.hid (H6.out.ext (((Ext.refl _).alloc _).trans hx))
  replace X1 := Lib.hid (X1.out.trans (((Ext.refl _).alloc _).trans hx))
  replace E2 := Lib.hid (E2.out.trans (((Ext.refl _).alloc _).trans hx))
  have B8 : Hid (Blk w4 (w3.heap.size) 26 #[.int .i64 K1, .int .i64 L1, .slice A8 J.length c8]) := Lib.hid ((Blk.new' (by simp)).ext hx)
  replace O8 := Lib.hid (own_ext O8.out (Ext.trans ((Ext.refl _).alloc _) hx))
  have O10 := Lib.hid (own_mono (base' := w3.heap.size + 1) ho (by simp))
  clear ho
  clear hx B6_0 B6_1 B6_2 B6_lt B7_0 B7_1 B7_2 B7_lt
  go_wp2
  refine at_world ?_
  intro w5 hw5
  have hx := Ext.of_eq hw5.symm
  clear hw5
  replace B2 := Lib.hid ((B2.out.alloc _).ext hx)
  replace B3 := Lib.hid ((B3.out.alloc _).ext hx)
  replace B6 := Lib.hid ((B6.out.alloc _).ext hx)
  replace B7 := Lib.hid ((B7.out.alloc _).ext hx)
  replace B8 := Lib.hid ((B8.out.alloc _).ext hx)
  replace HA := Lib.hid (HA.out.ext (((Ext.refl _).alloc _).trans hx))
  replace H6 := Lib.hid (H6.out.ext (((Ext.refl _).alloc _).trans hx))
  replace X1 := Lib.hid (X1.out.trans (((Ext.refl _).alloc _).trans hx))
  replace E2 := Lib.hid (E2.out.trans (((Ext.refl _).alloc _).trans hx))
  have B10 : Hid (Blk w5 (w4.heap.size) 26 #[.int .i64 K1, .int .i64 L3, .slice A10 J.length c10]) := Lib.hid ((Blk.new' (by simp)).ext hx)
  replace O8 := Lib.hid (own_ext O8.out (Ext.trans ((Ext.refl _).alloc _) hx))
  replace O10 := Lib.hid (own_ext O10.out (Ext.trans ((Ext.refl _).alloc _) hx))
  clear hx
  go_loopw [12] (fun v wr => OthRel J.length (w2.heap.size + 1 + 1) A8 c8 w5 v wr) (fun v _ => J.length - (intOf v).toNat)
  case atStart => exact ⟨0, _, rfl, Nat.zero_le _, O8.out, Upd.refl _ _⟩
  case round =>
    obtain ⟨j, xs, rfl, hj, ho, hu⟩ := hrel
    have B8r := Blk.updo B8.out O8.out (by decide) hu
    have b8 : wr.cell? ⟨w3.heap.size, 2, none⟩ = some (.slice A8 J.length c8) := B8r.cell 2
    have b8l := B8r.lt
    have HO := Lib.hid ho
    have HU := Lib.hid hu
    clear B8r ho hu
    rcases Nat.lt_or_ge j J.length with hlt | hge
    · obtain ⟨g, rfl, hg1, hg2⟩ := own_pos HO.out (by omega)
      have hxl : xs.length = J.length := by have := HO.out.1; omega
      have hoj := (At.of_own HO.out).get0 (k := j) (by omega)
      have hfz := HO.out.frozenAt (xs := xs) j
      generalize xs[j]'(by omega) = ov at hoj
      have i1 : (0 : Int) ≤ (j : Int) := by omega
      have i2 : (j : Int) < (J.length : Int) := by omega
      clear hxl
      go_wp2
      go_roundw
      case rel => exact ⟨j + 1, xs.set j OTHER, by go_num, by omega, (HO.out.stored j OTHER).1, HU.out.set (.inl (by simp [Value.ownBlock])) _⟩
      case measure => simp [intOf]; omega
    · obtain rfl : j = J.length := by omega
      have hu := HU.out
      have hm8 := own_mem O8.out
      replace O10 := Lib.hid (own_upd O10.out hu (fun k hk hm => by
        have h1 := own_block O10.out k hk
        have h2 := L8.out k (by simpa using hm)
        omega))
      have w23 := XW2.out.size
      replace X1 := Lib.hid (X1.out.upd hu (fun k hk => by have := hm8 k hk; omega))
      replace E2 := Lib.hid (E2.out.upd hu (fun k hk => by have := hm8 k hk; omega))
      replace B2 := Lib.hid (Blk.updo B2.out O8.out (by decide) hu)
      replace B3 := Lib.hid (Blk.updo B3.out O8.out (by decide) hu)
      replace B6 := Lib.hid (Blk.updo B6.out O8.out (by decide) hu)
      replace B10 := Lib.hid (Blk.updo B10.out O8.out (by decide) hu)
      clear hu hm8 HU HO O8 B8 B7 b8l hge L8 w23
      obtain ⟨w6, rfl⟩ : ∃ a : World, a = wr := ⟨_, rfl⟩
      have b10 : w6.cell? ⟨w4.heap.size, 2, none⟩ = some (.slice A10 J.length c10) := B10.out.cell 2
      go_wp2
      clear b10 b8
      go_loopw [13] (fun v wr => OthRel J.length (w3.heap.size + 1) A10 c10 w6 v wr) (fun v _ => J.length - (intOf v).toNat)
      case atStart => exact ⟨0, _, rfl, Nat.zero_le _, O10.out, Upd.refl _ _⟩
      case round =>
        obtain ⟨j, xs, rfl, hj, ho, hu⟩ := hrel
        have B10r := Blk.updo B10.out O10.out (by decide) hu
        have b10 : wr.cell? ⟨w4.heap.size, 2, none⟩ = some (.slice A10 J.length c10) := B10r.cell 2
        have b10l := B10r.lt
        have HO := Lib.hid ho
        have HU := Lib.hid hu
        clear B10r ho hu
        rcases Nat.lt_or_ge j J.length with hlt | hge
        · obtain ⟨g, rfl, hg1, hg2⟩ := own_pos HO.out (by omega)
          have hxl : xs.length = J.length := by have := HO.out.1; omega
          have hoj := (At.of_own HO.out).get0 (k := j) (by omega)
          have hfz := HO.out.frozenAt (xs := xs) j
          generalize xs[j]'(by omega) = ov at hoj
          have i1 : (0 : Int) ≤ (j : Int) := by omega
          have i2 : (j : Int) < (J.length : Int) := by omega
          clear hxl
          go_wp2
          go_roundw
          case rel => exact ⟨j + 1, xs.set j OTHER, by go_num, by omega, (HO.out.stored j OTHER).1, HU.out.set (.inl (by simp [Value.ownBlock])) _⟩
          case measure => simp [intOf]; omega
        · have hca : ¬ (j : Int) < (J.length : Int) := by omega
          have hu := HU.out
          have hm10 := own_mem O10.out
          replace X1 := Lib.hid (X1.out.upd hu (fun k hk => by have := hm10 k hk; omega))
          replace E2 := Lib.hid (E2.out.upd hu (fun k hk => by have := hm10 k hk; omega))
          replace B2 := Lib.hid (Blk.updo B2.out O10.out (by decide) hu)
          replace B3 := Lib.hid (Blk.updo B3.out O10.out (by decide) hu)
          replace B6 := Lib.hid (Blk.updo B6.out O10.out (by decide) hu)
          clear hu hm10 HU HO O10 B10 b10l hge
          obtain ⟨w7, rfl⟩ : ∃ a : World, a = wr := ⟨_, rfl⟩
          have b3 : w7.cell? ⟨w.heap.size + 1, 3, none⟩ = some (.int .i64 lsn) := B3.out.cell 3
          have b6 : w7.cell? ⟨w2.heap.size, 0, none⟩ = some (.int .i64 k2) := B6.out.cell 0
          have b6a : w7.cell? ⟨w2.heap.size, 1, none⟩ = some (.int .i64 l2) := B6.out.cell 1
          have b6b : w7.cell? ⟨w2.heap.size, 2, none⟩ = some (.slice A6 I2.length c6) := B6.out.cell 2
          obtain ⟨m', hm'⟩ : ∃ m' : Nat, m = m' ∧ m' < 4 := ⟨m.toNat, by omega, by omega⟩
          obtain ⟨rfl, hm4⟩ := hm'
          have hmm := HMM.out.symm
          clear HMM
          match m', hm4 with
          | 0, _ =>
            have hcv : (convert 34 9 (.slice (some ⟨w7.heap.size, 0, none⟩) 1 1)).run Try.prog (w7.alloc (.cells #[.int .u8 0] 5)) = .ok (.string (strOfNums [0])) (w7.alloc (.cells #[.int .u8 0] 5)) := run_cv_one 0 w7
            have P3 := Lib.hid (kind_ok 0 (by decide) k2 l2 I2 HS2.out HR2.out)
            go_wp2_with fail
            clear hcv
            refine (P3.out _ _ _ ((H6w2.out.ext E2.out).ext ((Ext.refl _).alloc _))).mono ?_
            rintro e w8 ⟨A15, c15, rfl, ho, hx⟩
            replace B2 := Lib.hid ((B2.out.alloc _).ext hx)
            replace B3 := Lib.hid ((B3.out.alloc _).ext hx)
            replace B6 := Lib.hid ((B6.out.alloc _).ext hx)
            replace X1 := Lib.hid (X1.out.trans (((Ext.refl _).alloc _).trans hx))
            replace E2 := Lib.hid (E2.out.trans (((Ext.refl _).alloc _).trans hx))
            have BY : Hid (Blk w8 (w7.heap.size) 5 #[.int .u8 0]) := Lib.hid ((Blk.new' (by simp)).ext hx)
            have O15 := Lib.hid (At.of_own ho)
            clear ho b6 b6a b6b b3
            clear hx
            go_wp2_with fail
            refine at_world ?_
            intro w9 hw9
            have hx := Ext.of_eq hw9.symm
            clear hw9
            replace B2 := Lib.hid (((B2.out.alloc _).alloc _).ext hx)
            replace B3 := Lib.hid (((B3.out.alloc _).alloc _).ext hx)
            replace B6 := Lib.hid (((B6.out.alloc _).alloc _).ext hx)
            replace O15 := Lib.hid (O15.out.ext ((((Ext.refl _).alloc _).alloc _).trans hx))
            replace X1 := Lib.hid (X1.out.trans ((((Ext.refl _).alloc _).alloc _).trans hx))
            replace E2 := Lib.hid (E2.out.trans ((((Ext.refl _).alloc _).alloc _).trans hx))
            have B15 : Hid (Blk w9 (w8.heap.size) 26 #[.int .i64 0, .int .i64 9, .slice A15 0 c15]) := Lib.hid (((Blk.new' (by simp)).alloc _).ext hx)
            have B17 : Hid (Blk w9 (w8.heap.size + 1) 26 #[.int .i64 0, .int .i64 9, .slice none 0 0]) := Lib.hid ((Blk.new' (by simp)).ext hx)
            clear hx
            refine wp_region_E (by kernel_rfl) [0, 1, 3, 3, 15, 31, 63, 127, 127, 383, 1023, 2047, 4095, 8191, 8191, 32767, 65535, 131071, 262143, 262143, 1048575, 2097151, 4194303] (fun ix v W => match ix with | 0 => v = .bool true | 1 => v = .bool true | 2 => v = .int .i64 q | 3 => v = .int .i64 q | 4 => v = .bool true | 5 => v = .bool true | 6 => v = .bool true | 7 => v = .agg #[.int .i64 k2, .int .i64 l2, .slice A6 I2.length c6] | 8 => v = .agg #[.int .i64 kA, .int .i64 lA, .slice Aa sa.length ca] | 9 => ∃ (A102 : Option Addr) (c102 : Nat), v = .agg #[.int .i64 k2, .int .i64 l2, .slice A102 I2.length c102] ∧ W.ownsRow 0 9 1 (.slice A102 I2.length c102) I2.length (I2.map Value.string) | 10 => v = .bool true | 11 => v = .bool true | 12 => v = .bool true | 13 => v = .int .i64 0 | 14 => v = .int .i64 0 | 15 => v = .bool true | 16 => v = .bool true | 17 => v = .bool true | 18 => v = .agg #[.int .i64 0, .int .i64 9, .slice A15 0 c15] | 19 => v = .agg #[.int .i64 0, .int .i64 9, .slice none 0 0] | 20 => v = .bool true | 21 => v = .bool true | 22 => v = .bool true | _ => True) (by kernel_rfl) (by kernel_rfl) ?_ ?_ ?_
            · intro ix v W W' h hx
              match ix, h with
              | 0, h => exact h
              | 1, h => exact h
              | 2, h => exact h
              | 3, h => exact h
              | 4, h => exact h
              | 5, h => exact h
              | 6, h => exact h
              | 7, h => exact h
              | 8, h => exact h
              | 9, h => exact let ⟨A102, c102, he, ho102⟩ := h; ⟨A102, c102, he, own_ext ho102 hx⟩
              | 10, h => exact h
              | 11, h => exact h
              | 12, h => exact h
              | 13, h => exact h
              | 14, h => exact h
              | 15, h => exact h
              | 16, h => exact h
              | 17, h => exact h
              | 18, h => exact h
              | 19, h => exact h
              | 20, h => exact h
              | 21, h => exact h
              | 22, h => exact h
              | _ + 23, _ => trivial
            · refine ⟨⟨⟨⟨⟨⟨⟨⟨⟨⟨⟨⟨⟨⟨⟨⟨⟨⟨⟨⟨⟨⟨⟨trivial, ?_⟩, ?_⟩, ?_⟩, ?_⟩, ?_⟩, ?_⟩, ?_⟩, ?_⟩, ?_⟩, ?_⟩, ?_⟩, ?_⟩, ?_⟩, ?_⟩, ?_⟩, ?_⟩, ?_⟩, ?_⟩, ?_⟩, ?_⟩, ?_⟩, ?_⟩, ?_⟩
              · intro ρ W hS hx hout hpre
                refine GSay.none rfl ?_
                have f5 : ρ (.tmp 5) = .bool true := hout 5 (by kernel_rfl)
                exact DoesU.value (v := .bool true) (w' := W) (by simp [go_sem, f5]) ⟨rfl, Ext.refl _⟩
              · intro ρ W hS hx hout hpre
                refine GSay.none rfl ?_
                have f93 : ρ (.tmp 93) = .bool true := hpre 0 93 (by kernel_rfl)
                exact DoesU.value (v := .bool true) (w' := W) (by simp [go_sem, f93]) ⟨rfl, Ext.refl _⟩
              · intro ρ W hS hx hout hpre
                have fg : ρ (.tmp 94) = .bool true := hpre 1 94 (by kernel_rfl)
                refine GSay.on (g := 1) (d := 94) rfl rfl fg ?_
                have f9 : ρ (.tmp 9) = .int .i64 q := hout 9 (by kernel_rfl)
                exact DoesU.value (v := .int .i64 q) (w' := W) (by simp [go_sem, f9]) ⟨rfl, Ext.refl _⟩
              · intro ρ W hS hx hout hpre
                have fg : ρ (.tmp 94) = .bool true := hpre 1 94 (by kernel_rfl)
                refine GSay.on (g := 1) (d := 94) rfl rfl fg ?_
                have f11 : ρ (.tmp 11) = .int .i64 q := hout 11 (by kernel_rfl)
                exact DoesU.value (v := .int .i64 q) (w' := W) (by simp [go_sem, f11]) ⟨rfl, Ext.refl _⟩
              · intro ρ W hS hx hout hpre
                have fg : ρ (.tmp 94) = .bool true := hpre 1 94 (by kernel_rfl)
                refine GSay.on (g := 1) (d := 94) rfl rfl fg ?_
                have f95 : ρ (.tmp 95) = .int .i64 q := hpre 2 95 (by kernel_rfl)
                have f96 : ρ (.tmp 96) = .int .i64 q := hpre 3 96 (by kernel_rfl)
                exact DoesU.value (v := .bool true) (w' := W) (by simp [go_sem, f95, f96]) ⟨rfl, Ext.refl _⟩
              · intro ρ W hS hx hout hpre
                refine GSay.none rfl ?_
                have f94 : ρ (.tmp 94) = .bool true := hpre 1 94 (by kernel_rfl)
                have f97 : ρ (.tmp 97) = .bool true := hpre 4 97 (by kernel_rfl)
                exact DoesU.value (v := .bool true) (w' := W) (by simp [go_sem, f94, f97, hS.const]) ⟨rfl, Ext.refl _⟩
              · intro ρ W hS hx hout hpre
                refine GSay.none rfl ?_
                have f98 : ρ (.tmp 98) = .bool true := hpre 5 98 (by kernel_rfl)
                exact DoesU.value (v := .bool true) (w' := W) (by simp [go_sem, f98]) ⟨rfl, Ext.refl _⟩
              · intro ρ W hS hx hout hpre
                have fg : ρ (.tmp 99) = .bool true := hpre 6 99 (by kernel_rfl)
                refine GSay.on (g := 6) (d := 99) rfl rfl fg ?_
                have f6 : ρ (.tmp 6) = .pointer (some ⟨w2.heap.size, 0, none⟩) := hout 6 (by kernel_rfl)
                exact DoesU.value (v := .agg #[.int .i64 k2, .int .i64 l2, .slice A6 I2.length c6]) (w' := W) (by simp [go_sem, f6, (show W.cell? ⟨w2.heap.size, 0, none⟩ = some (.int .i64 k2) from ((B6.out.ext hx)).cell 0), (show W.cell? ⟨w2.heap.size, 1, none⟩ = some (.int .i64 l2) from ((B6.out.ext hx)).cell 1), (show W.cell? ⟨w2.heap.size, 2, none⟩ = some (.slice A6 I2.length c6) from ((B6.out.ext hx)).cell 2)]) ⟨rfl, Ext.refl _⟩
              · intro ρ W hS hx hout hpre
                have fg : ρ (.tmp 99) = .bool true := hpre 6 99 (by kernel_rfl)
                refine GSay.on (g := 6) (d := 99) rfl rfl fg ?_
                have f2 : ρ (.tmp 2) = .pointer (some ⟨w.heap.size, 0, none⟩) := hout 2 (by kernel_rfl)
                exact DoesU.value (v := .agg #[.int .i64 kA, .int .i64 lA, .slice Aa sa.length ca]) (w' := W) (by simp [go_sem, f2, (show W.cell? ⟨w.heap.size, 0, none⟩ = some (.int .i64 kA) from ((B2.out.ext hx)).cell 0), (show W.cell? ⟨w.heap.size, 1, none⟩ = some (.int .i64 lA) from ((B2.out.ext hx)).cell 1), (show W.cell? ⟨w.heap.size, 2, none⟩ = some (.slice Aa sa.length ca) from ((B2.out.ext hx)).cell 2)]) ⟨rfl, Ext.refl _⟩
              · intro ρ W hS hx hout hpre
                have fg : ρ (.tmp 99) = .bool true := hpre 6 99 (by kernel_rfl)
                refine GSay.on (g := 6) (d := 99) rfl rfl fg ?_
                have f101 : ρ (.tmp 101) = .agg #[.int .i64 kA, .int .i64 lA, .slice Aa sa.length ca] := hpre 8 101 (by kernel_rfl)
                refine DoesU.call (f := 14) (args := #[.agg #[.int .i64 kA, .int .i64 lA, .slice Aa sa.length ca]]) (w' := W) (by simp [go_sem, hS.func, f101]) ?_
                refine (HM.out _ (HA0.out.ext (X1.out.trans hx))).mono ?_
                rintro e w6 ⟨A102, c102, rfl, ho102, hx6⟩
                exact ⟨_, rfl, ⟨A102, c102, rfl, own_mono ho102 (Nat.zero_le _)⟩, hx6⟩
              · intro ρ W hS hx hout hpre
                have fg : ρ (.tmp 99) = .bool true := hpre 6 99 (by kernel_rfl)
                refine GSay.on (g := 6) (d := 99) rfl rfl fg ?_
                have f100 : ρ (.tmp 100) = .agg #[.int .i64 k2, .int .i64 l2, .slice A6 I2.length c6] := hpre 7 100 (by kernel_rfl)
                obtain ⟨A102, c102, f102, ho102⟩ := hpre 9 102 (by kernel_rfl)
                refine DoesU.call (f := 19) (args := #[.agg #[.int .i64 k2, .int .i64 l2, .slice A6 I2.length c6], .agg #[.int .i64 k2, .int .i64 l2, .slice A102 I2.length c102]]) (w' := W) (by simp [go_sem, hS.func, f100, f102]) ?_
                refine (same_any _ _ _ _ _ _ _ _ _ _ _ _ _ rfl rfl (H6w2.out.ext (E2.out.trans hx)) (At.of_own ho102) (by omega) (by omega)).mono ?_
                rw [same_self]
                rintro e w6 ⟨rfl, hx6⟩
                exact ⟨_, rfl, rfl, hx6⟩
              · intro ρ W hS hx hout hpre
                refine GSay.none rfl ?_
                have f99 : ρ (.tmp 99) = .bool true := hpre 6 99 (by kernel_rfl)
                have f103 : ρ (.tmp 103) = .bool true := hpre 10 103 (by kernel_rfl)
                exact DoesU.value (v := .bool true) (w' := W) (by simp [go_sem, f99, f103, hS.const]) ⟨rfl, Ext.refl _⟩
              · intro ρ W hS hx hout hpre
                refine GSay.none rfl ?_
                have f104 : ρ (.tmp 104) = .bool true := hpre 11 104 (by kernel_rfl)
                exact DoesU.value (v := .bool true) (w' := W) (by simp [go_sem, f104]) ⟨rfl, Ext.refl _⟩
              · intro ρ W hS hx hout hpre
                have fg : ρ (.tmp 105) = .bool true := hpre 12 105 (by kernel_rfl)
                refine GSay.on (g := 12) (d := 105) rfl rfl fg ?_
                have f16 : ρ (.tmp 16) = .int .i64 0 := hout 16 (by kernel_rfl)
                exact DoesU.value (v := .int .i64 0) (w' := W) (by simp [go_sem, f16]) ⟨rfl, Ext.refl _⟩
              · intro ρ W hS hx hout hpre
                have fg : ρ (.tmp 105) = .bool true := hpre 12 105 (by kernel_rfl)
                refine GSay.on (g := 12) (d := 105) rfl rfl fg ?_
                have f18 : ρ (.tmp 18) = .int .i64 0 := hout 18 (by kernel_rfl)
                exact DoesU.value (v := .int .i64 0) (w' := W) (by simp [go_sem, f18]) ⟨rfl, Ext.refl _⟩
              · intro ρ W hS hx hout hpre
                have fg : ρ (.tmp 105) = .bool true := hpre 12 105 (by kernel_rfl)
                refine GSay.on (g := 12) (d := 105) rfl rfl fg ?_
                have f106 : ρ (.tmp 106) = .int .i64 0 := hpre 13 106 (by kernel_rfl)
                have f107 : ρ (.tmp 107) = .int .i64 0 := hpre 14 107 (by kernel_rfl)
                exact DoesU.value (v := .bool true) (w' := W) (by simp [go_sem, f106, f107]) ⟨rfl, Ext.refl _⟩
              · intro ρ W hS hx hout hpre
                refine GSay.none rfl ?_
                have f105 : ρ (.tmp 105) = .bool true := hpre 12 105 (by kernel_rfl)
                have f108 : ρ (.tmp 108) = .bool true := hpre 15 108 (by kernel_rfl)
                exact DoesU.value (v := .bool true) (w' := W) (by simp [go_sem, f105, f108, hS.const]) ⟨rfl, Ext.refl _⟩
              · intro ρ W hS hx hout hpre
                refine GSay.none rfl ?_
                have f109 : ρ (.tmp 109) = .bool true := hpre 16 109 (by kernel_rfl)
                exact DoesU.value (v := .bool true) (w' := W) (by simp [go_sem, f109]) ⟨rfl, Ext.refl _⟩
              · intro ρ W hS hx hout hpre
                have fg : ρ (.tmp 110) = .bool true := hpre 17 110 (by kernel_rfl)
                refine GSay.on (g := 17) (d := 110) rfl rfl fg ?_
                have f15 : ρ (.tmp 15) = .pointer (some ⟨w8.heap.size, 0, none⟩) := hout 15 (by kernel_rfl)
                exact DoesU.value (v := .agg #[.int .i64 0, .int .i64 9, .slice A15 0 c15]) (w' := W) (by simp [go_sem, f15, (show W.cell? ⟨w8.heap.size, 0, none⟩ = some (.int .i64 0) from ((B15.out.ext hx)).cell 0), (show W.cell? ⟨w8.heap.size, 1, none⟩ = some (.int .i64 9) from ((B15.out.ext hx)).cell 1), (show W.cell? ⟨w8.heap.size, 2, none⟩ = some (.slice A15 0 c15) from ((B15.out.ext hx)).cell 2)]) ⟨rfl, Ext.refl _⟩
              · intro ρ W hS hx hout hpre
                have fg : ρ (.tmp 110) = .bool true := hpre 17 110 (by kernel_rfl)
                refine GSay.on (g := 17) (d := 110) rfl rfl fg ?_
                have f17 : ρ (.tmp 17) = .pointer (some ⟨w8.heap.size + 1, 0, none⟩) := hout 17 (by kernel_rfl)
                exact DoesU.value (v := .agg #[.int .i64 0, .int .i64 9, .slice none 0 0]) (w' := W) (by simp [go_sem, f17, (show W.cell? ⟨w8.heap.size + 1, 0, none⟩ = some (.int .i64 0) from ((B17.out.ext hx)).cell 0), (show W.cell? ⟨w8.heap.size + 1, 1, none⟩ = some (.int .i64 9) from ((B17.out.ext hx)).cell 1), (show W.cell? ⟨w8.heap.size + 1, 2, none⟩ = some (.slice none 0 0) from ((B17.out.ext hx)).cell 2)]) ⟨rfl, Ext.refl _⟩
              · intro ρ W hS hx hout hpre
                have fg : ρ (.tmp 110) = .bool true := hpre 17 110 (by kernel_rfl)
                refine GSay.on (g := 17) (d := 110) rfl rfl fg ?_
                have f111 : ρ (.tmp 111) = .agg #[.int .i64 0, .int .i64 9, .slice A15 0 c15] := hpre 18 111 (by kernel_rfl)
                have f112 : ρ (.tmp 112) = .agg #[.int .i64 0, .int .i64 9, .slice none 0 0] := hpre 19 112 (by kernel_rfl)
                refine DoesU.call (f := 19) (args := #[.agg #[.int .i64 0, .int .i64 9, .slice A15 0 c15], .agg #[.int .i64 0, .int .i64 9, .slice none 0 0]]) (w' := W) (by simp [go_sem, hS.func, f111, f112]) ?_
                refine (same_any _ _ _ _ _ [] _ _ _ _ _ [] _ rfl rfl (O15.out.ext hx) (At.nil _ _) (by simp) (by simp)).mono ?_
                rw [same_self]
                rintro e w6 ⟨rfl, hx6⟩
                exact ⟨_, rfl, rfl, hx6⟩
              · intro ρ W hS hx hout hpre
                refine GSay.none rfl ?_
                have f110 : ρ (.tmp 110) = .bool true := hpre 17 110 (by kernel_rfl)
                have f113 : ρ (.tmp 113) = .bool true := hpre 20 113 (by kernel_rfl)
                exact DoesU.value (v := .bool true) (w' := W) (by simp [go_sem, f110, f113, hS.const]) ⟨rfl, Ext.refl _⟩
              · intro ρ W hS hx hout hpre
                refine GSay.none rfl ?_
                have f114 : ρ (.tmp 114) = .bool true := hpre 21 114 (by kernel_rfl)
                exact DoesU.value (v := .bool true) (w' := W) (by simp [go_sem, f114]) ⟨rfl, Ext.refl _⟩
            intro vs w10 hl hD hx
            replace hl := hl.trans (show (idxU _).length = 23 by kernel_rfl)
            rcases vs with _ | ⟨v93, vs⟩; · simp at hl
            rcases vs with _ | ⟨v94, vs⟩; · simp at hl
            rcases vs with _ | ⟨v95, vs⟩; · simp at hl
            rcases vs with _ | ⟨v96, vs⟩; · simp at hl
            rcases vs with _ | ⟨v97, vs⟩; · simp at hl
            rcases vs with _ | ⟨v98, vs⟩; · simp at hl
            rcases vs with _ | ⟨v99, vs⟩; · simp at hl
            rcases vs with _ | ⟨v100, vs⟩; · simp at hl
            rcases vs with _ | ⟨v101, vs⟩; · simp at hl
            rcases vs with _ | ⟨v102, vs⟩; · simp at hl
            rcases vs with _ | ⟨v103, vs⟩; · simp at hl
            rcases vs with _ | ⟨v104, vs⟩; · simp at hl
            rcases vs with _ | ⟨v105, vs⟩; · simp at hl
            rcases vs with _ | ⟨v106, vs⟩; · simp at hl
            rcases vs with _ | ⟨v107, vs⟩; · simp at hl
            rcases vs with _ | ⟨v108, vs⟩; · simp at hl
            rcases vs with _ | ⟨v109, vs⟩; · simp at hl
            rcases vs with _ | ⟨v110, vs⟩; · simp at hl
            rcases vs with _ | ⟨v111, vs⟩; · simp at hl
            rcases vs with _ | ⟨v112, vs⟩; · simp at hl
            rcases vs with _ | ⟨v113, vs⟩; · simp at hl
            rcases vs with _ | ⟨v114, vs⟩; · simp at hl
            rcases vs with _ | ⟨v4, vs⟩; · simp at hl
            obtain rfl : vs = [] := List.eq_nil_of_length_eq_zero (by simpa using hl)
            clear hl
            obtain rfl : v93 = .bool true := hD 0 0 v93 (by kernel_rfl) rfl
            obtain rfl : v94 = .bool true := hD 1 1 v94 (by kernel_rfl) rfl
            obtain rfl : v95 = .int .i64 q := hD 2 2 v95 (by kernel_rfl) rfl
            obtain rfl : v96 = .int .i64 q := hD 3 3 v96 (by kernel_rfl) rfl
            obtain rfl : v97 = .bool true := hD 4 4 v97 (by kernel_rfl) rfl
            obtain rfl : v98 = .bool true := hD 5 5 v98 (by kernel_rfl) rfl
            obtain rfl : v99 = .bool true := hD 6 6 v99 (by kernel_rfl) rfl
            obtain rfl : v100 = .agg #[.int .i64 k2, .int .i64 l2, .slice A6 I2.length c6] := hD 7 7 v100 (by kernel_rfl) rfl
            obtain rfl : v101 = .agg #[.int .i64 kA, .int .i64 lA, .slice Aa sa.length ca] := hD 8 8 v101 (by kernel_rfl) rfl
            obtain ⟨A102, c102, rfl, ho102⟩ := hD 9 9 v102 (by kernel_rfl) rfl
            obtain rfl : v103 = .bool true := hD 10 10 v103 (by kernel_rfl) rfl
            obtain rfl : v104 = .bool true := hD 11 11 v104 (by kernel_rfl) rfl
            obtain rfl : v105 = .bool true := hD 12 12 v105 (by kernel_rfl) rfl
            obtain rfl : v106 = .int .i64 0 := hD 13 13 v106 (by kernel_rfl) rfl
            obtain rfl : v107 = .int .i64 0 := hD 14 14 v107 (by kernel_rfl) rfl
            obtain rfl : v108 = .bool true := hD 15 15 v108 (by kernel_rfl) rfl
            obtain rfl : v109 = .bool true := hD 16 16 v109 (by kernel_rfl) rfl
            obtain rfl : v110 = .bool true := hD 17 17 v110 (by kernel_rfl) rfl
            obtain rfl : v111 = .agg #[.int .i64 0, .int .i64 9, .slice A15 0 c15] := hD 18 18 v111 (by kernel_rfl) rfl
            obtain rfl : v112 = .agg #[.int .i64 0, .int .i64 9, .slice none 0 0] := hD 19 19 v112 (by kernel_rfl) rfl
            obtain rfl : v113 = .bool true := hD 20 20 v113 (by kernel_rfl) rfl
            obtain rfl : v114 = .bool true := hD 21 21 v114 (by kernel_rfl) rfl
            obtain rfl : v4 = .bool true := hD 22 22 v4 (by kernel_rfl) rfl
            clear hD
            rw [show dstsU _ = [93, 94, 95, 96, 97, 98, 99, 100, 101, 102, 103, 104, 105, 106, 107, 108, 109, 110, 111, 112, 113, 114, 4] by kernel_rfl]
            simp only [putAll, List.setIfInBounds_toArray, List.set_cons_succ, List.set_cons_zero]
            have XF := Lib.hid (X1.out.trans hx)
            clear hx
            go_wp2
            go_ret
            exact Ret1.bool rfl XF.out
          | 1, _ =>
            have hcv : (convert 34 9 (.slice (some ⟨w7.heap.size, 0, none⟩) 1 1)).run Try.prog (w7.alloc (.cells #[.int .u8 1] 5)) = .ok (.string (strOfNums [1])) (w7.alloc (.cells #[.int .u8 1] 5)) := run_cv_one 1 w7
            have P3 := Lib.hid (kind_ok 1 (by decide) k2 l2 I2 HS2.out HR2.out)
            go_wp2_with fail
            clear hcv
            refine (P3.out _ _ _ ((H6w2.out.ext E2.out).ext ((Ext.refl _).alloc _))).mono ?_
            rintro e w8 ⟨A15, c15, rfl, ho, hx⟩
            replace B2 := Lib.hid ((B2.out.alloc _).ext hx)
            replace B3 := Lib.hid ((B3.out.alloc _).ext hx)
            replace B6 := Lib.hid ((B6.out.alloc _).ext hx)
            replace X1 := Lib.hid (X1.out.trans (((Ext.refl _).alloc _).trans hx))
            replace E2 := Lib.hid (E2.out.trans (((Ext.refl _).alloc _).trans hx))
            have BY : Hid (Blk w8 (w7.heap.size) 5 #[.int .u8 1]) := Lib.hid ((Blk.new' (by simp)).ext hx)
            have O15 := Lib.hid (At.of_own ho)
            clear ho b6 b6a b6b b3
            clear hx
            go_wp2_with fail
            refine at_world ?_
            intro w9 hw9
            have hx := Ext.of_eq hw9.symm
            clear hw9
            replace B2 := Lib.hid (((B2.out.alloc _).alloc _).ext hx)
            replace B3 := Lib.hid (((B3.out.alloc _).alloc _).ext hx)
            replace B6 := Lib.hid (((B6.out.alloc _).alloc _).ext hx)
            replace O15 := Lib.hid (O15.out.ext ((((Ext.refl _).alloc _).alloc _).trans hx))
            replace X1 := Lib.hid (X1.out.trans ((((Ext.refl _).alloc _).alloc _).trans hx))
            replace E2 := Lib.hid (E2.out.trans ((((Ext.refl _).alloc _).alloc _).trans hx))
            have B15 : Hid (Blk w9 (w8.heap.size) 26 #[.int .i64 1, .int .i64 9, .slice A15 0 c15]) := Lib.hid (((Blk.new' (by simp)).alloc _).ext hx)
            have B17 : Hid (Blk w9 (w8.heap.size + 1) 26 #[.int .i64 1, .int .i64 9, .slice none 0 0]) := Lib.hid ((Blk.new' (by simp)).ext hx)
            clear hx
            refine wp_region_E (by kernel_rfl) [0, 1, 3, 3, 15, 31, 63, 127, 127, 383, 1023, 2047, 4095, 8191, 8191, 32767, 65535, 131071, 262143, 262143, 1048575, 2097151, 4194303] (fun ix v W => match ix with | 0 => v = .bool true | 1 => v = .bool true | 2 => v = .int .i64 q | 3 => v = .int .i64 q | 4 => v = .bool true | 5 => v = .bool true | 6 => v = .bool true | 7 => v = .agg #[.int .i64 k2, .int .i64 l2, .slice A6 I2.length c6] | 8 => v = .agg #[.int .i64 kA, .int .i64 lA, .slice Aa sa.length ca] | 9 => ∃ (A102 : Option Addr) (c102 : Nat), v = .agg #[.int .i64 k2, .int .i64 l2, .slice A102 I2.length c102] ∧ W.ownsRow 0 9 1 (.slice A102 I2.length c102) I2.length (I2.map Value.string) | 10 => v = .bool true | 11 => v = .bool true | 12 => v = .bool true | 13 => v = .int .i64 0 | 14 => v = .int .i64 0 | 15 => v = .bool true | 16 => v = .bool true | 17 => v = .bool true | 18 => v = .agg #[.int .i64 1, .int .i64 9, .slice A15 0 c15] | 19 => v = .agg #[.int .i64 1, .int .i64 9, .slice none 0 0] | 20 => v = .bool true | 21 => v = .bool true | 22 => v = .bool true | _ => True) (by kernel_rfl) (by kernel_rfl) ?_ ?_ ?_
            · intro ix v W W' h hx
              match ix, h with
              | 0, h => exact h
              | 1, h => exact h
              | 2, h => exact h
              | 3, h => exact h
              | 4, h => exact h
              | 5, h => exact h
              | 6, h => exact h
              | 7, h => exact h
              | 8, h => exact h
              | 9, h => exact let ⟨A102, c102, he, ho102⟩ := h; ⟨A102, c102, he, own_ext ho102 hx⟩
              | 10, h => exact h
              | 11, h => exact h
              | 12, h => exact h
              | 13, h => exact h
              | 14, h => exact h
              | 15, h => exact h
              | 16, h => exact h
              | 17, h => exact h
              | 18, h => exact h
              | 19, h => exact h
              | 20, h => exact h
              | 21, h => exact h
              | 22, h => exact h
              | _ + 23, _ => trivial
            · refine ⟨⟨⟨⟨⟨⟨⟨⟨⟨⟨⟨⟨⟨⟨⟨⟨⟨⟨⟨⟨⟨⟨⟨trivial, ?_⟩, ?_⟩, ?_⟩, ?_⟩, ?_⟩, ?_⟩, ?_⟩, ?_⟩, ?_⟩, ?_⟩, ?_⟩, ?_⟩, ?_⟩, ?_⟩, ?_⟩, ?_⟩, ?_⟩, ?_⟩, ?_⟩, ?_⟩, ?_⟩, ?_⟩, ?_⟩
              · intro ρ W hS hx hout hpre
                refine GSay.none rfl ?_
                have f5 : ρ (.tmp 5) = .bool true := hout 5 (by kernel_rfl)
                exact DoesU.value (v := .bool true) (w' := W) (by simp [go_sem, f5]) ⟨rfl, Ext.refl _⟩
              · intro ρ W hS hx hout hpre
                refine GSay.none rfl ?_
                have f93 : ρ (.tmp 93) = .bool true := hpre 0 93 (by kernel_rfl)
                exact DoesU.value (v := .bool true) (w' := W) (by simp [go_sem, f93]) ⟨rfl, Ext.refl _⟩
              · intro ρ W hS hx hout hpre
                have fg : ρ (.tmp 94) = .bool true := hpre 1 94 (by kernel_rfl)
                refine GSay.on (g := 1) (d := 94) rfl rfl fg ?_
                have f9 : ρ (.tmp 9) = .int .i64 q := hout 9 (by kernel_rfl)
                exact DoesU.value (v := .int .i64 q) (w' := W) (by simp [go_sem, f9]) ⟨rfl, Ext.refl _⟩
              · intro ρ W hS hx hout hpre
                have fg : ρ (.tmp 94) = .bool true := hpre 1 94 (by kernel_rfl)
                refine GSay.on (g := 1) (d := 94) rfl rfl fg ?_
                have f11 : ρ (.tmp 11) = .int .i64 q := hout 11 (by kernel_rfl)
                exact DoesU.value (v := .int .i64 q) (w' := W) (by simp [go_sem, f11]) ⟨rfl, Ext.refl _⟩
              · intro ρ W hS hx hout hpre
                have fg : ρ (.tmp 94) = .bool true := hpre 1 94 (by kernel_rfl)
                refine GSay.on (g := 1) (d := 94) rfl rfl fg ?_
                have f95 : ρ (.tmp 95) = .int .i64 q := hpre 2 95 (by kernel_rfl)
                have f96 : ρ (.tmp 96) = .int .i64 q := hpre 3 96 (by kernel_rfl)
                exact DoesU.value (v := .bool true) (w' := W) (by simp [go_sem, f95, f96]) ⟨rfl, Ext.refl _⟩
              · intro ρ W hS hx hout hpre
                refine GSay.none rfl ?_
                have f94 : ρ (.tmp 94) = .bool true := hpre 1 94 (by kernel_rfl)
                have f97 : ρ (.tmp 97) = .bool true := hpre 4 97 (by kernel_rfl)
                exact DoesU.value (v := .bool true) (w' := W) (by simp [go_sem, f94, f97, hS.const]) ⟨rfl, Ext.refl _⟩
              · intro ρ W hS hx hout hpre
                refine GSay.none rfl ?_
                have f98 : ρ (.tmp 98) = .bool true := hpre 5 98 (by kernel_rfl)
                exact DoesU.value (v := .bool true) (w' := W) (by simp [go_sem, f98]) ⟨rfl, Ext.refl _⟩
              · intro ρ W hS hx hout hpre
                have fg : ρ (.tmp 99) = .bool true := hpre 6 99 (by kernel_rfl)
                refine GSay.on (g := 6) (d := 99) rfl rfl fg ?_
                have f6 : ρ (.tmp 6) = .pointer (some ⟨w2.heap.size, 0, none⟩) := hout 6 (by kernel_rfl)
                exact DoesU.value (v := .agg #[.int .i64 k2, .int .i64 l2, .slice A6 I2.length c6]) (w' := W) (by simp [go_sem, f6, (show W.cell? ⟨w2.heap.size, 0, none⟩ = some (.int .i64 k2) from ((B6.out.ext hx)).cell 0), (show W.cell? ⟨w2.heap.size, 1, none⟩ = some (.int .i64 l2) from ((B6.out.ext hx)).cell 1), (show W.cell? ⟨w2.heap.size, 2, none⟩ = some (.slice A6 I2.length c6) from ((B6.out.ext hx)).cell 2)]) ⟨rfl, Ext.refl _⟩
              · intro ρ W hS hx hout hpre
                have fg : ρ (.tmp 99) = .bool true := hpre 6 99 (by kernel_rfl)
                refine GSay.on (g := 6) (d := 99) rfl rfl fg ?_
                have f2 : ρ (.tmp 2) = .pointer (some ⟨w.heap.size, 0, none⟩) := hout 2 (by kernel_rfl)
                exact DoesU.value (v := .agg #[.int .i64 kA, .int .i64 lA, .slice Aa sa.length ca]) (w' := W) (by simp [go_sem, f2, (show W.cell? ⟨w.heap.size, 0, none⟩ = some (.int .i64 kA) from ((B2.out.ext hx)).cell 0), (show W.cell? ⟨w.heap.size, 1, none⟩ = some (.int .i64 lA) from ((B2.out.ext hx)).cell 1), (show W.cell? ⟨w.heap.size, 2, none⟩ = some (.slice Aa sa.length ca) from ((B2.out.ext hx)).cell 2)]) ⟨rfl, Ext.refl _⟩
              · intro ρ W hS hx hout hpre
                have fg : ρ (.tmp 99) = .bool true := hpre 6 99 (by kernel_rfl)
                refine GSay.on (g := 6) (d := 99) rfl rfl fg ?_
                have f101 : ρ (.tmp 101) = .agg #[.int .i64 kA, .int .i64 lA, .slice Aa sa.length ca] := hpre 8 101 (by kernel_rfl)
                refine DoesU.call (f := 14) (args := #[.agg #[.int .i64 kA, .int .i64 lA, .slice Aa sa.length ca]]) (w' := W) (by simp [go_sem, hS.func, f101]) ?_
                refine (HM.out _ (HA0.out.ext (X1.out.trans hx))).mono ?_
                rintro e w6 ⟨A102, c102, rfl, ho102, hx6⟩
                exact ⟨_, rfl, ⟨A102, c102, rfl, own_mono ho102 (Nat.zero_le _)⟩, hx6⟩
              · intro ρ W hS hx hout hpre
                have fg : ρ (.tmp 99) = .bool true := hpre 6 99 (by kernel_rfl)
                refine GSay.on (g := 6) (d := 99) rfl rfl fg ?_
                have f100 : ρ (.tmp 100) = .agg #[.int .i64 k2, .int .i64 l2, .slice A6 I2.length c6] := hpre 7 100 (by kernel_rfl)
                obtain ⟨A102, c102, f102, ho102⟩ := hpre 9 102 (by kernel_rfl)
                refine DoesU.call (f := 19) (args := #[.agg #[.int .i64 k2, .int .i64 l2, .slice A6 I2.length c6], .agg #[.int .i64 k2, .int .i64 l2, .slice A102 I2.length c102]]) (w' := W) (by simp [go_sem, hS.func, f100, f102]) ?_
                refine (same_any _ _ _ _ _ _ _ _ _ _ _ _ _ rfl rfl (H6w2.out.ext (E2.out.trans hx)) (At.of_own ho102) (by omega) (by omega)).mono ?_
                rw [same_self]
                rintro e w6 ⟨rfl, hx6⟩
                exact ⟨_, rfl, rfl, hx6⟩
              · intro ρ W hS hx hout hpre
                refine GSay.none rfl ?_
                have f99 : ρ (.tmp 99) = .bool true := hpre 6 99 (by kernel_rfl)
                have f103 : ρ (.tmp 103) = .bool true := hpre 10 103 (by kernel_rfl)
                exact DoesU.value (v := .bool true) (w' := W) (by simp [go_sem, f99, f103, hS.const]) ⟨rfl, Ext.refl _⟩
              · intro ρ W hS hx hout hpre
                refine GSay.none rfl ?_
                have f104 : ρ (.tmp 104) = .bool true := hpre 11 104 (by kernel_rfl)
                exact DoesU.value (v := .bool true) (w' := W) (by simp [go_sem, f104]) ⟨rfl, Ext.refl _⟩
              · intro ρ W hS hx hout hpre
                have fg : ρ (.tmp 105) = .bool true := hpre 12 105 (by kernel_rfl)
                refine GSay.on (g := 12) (d := 105) rfl rfl fg ?_
                have f16 : ρ (.tmp 16) = .int .i64 0 := hout 16 (by kernel_rfl)
                exact DoesU.value (v := .int .i64 0) (w' := W) (by simp [go_sem, f16]) ⟨rfl, Ext.refl _⟩
              · intro ρ W hS hx hout hpre
                have fg : ρ (.tmp 105) = .bool true := hpre 12 105 (by kernel_rfl)
                refine GSay.on (g := 12) (d := 105) rfl rfl fg ?_
                have f18 : ρ (.tmp 18) = .int .i64 0 := hout 18 (by kernel_rfl)
                exact DoesU.value (v := .int .i64 0) (w' := W) (by simp [go_sem, f18]) ⟨rfl, Ext.refl _⟩
              · intro ρ W hS hx hout hpre
                have fg : ρ (.tmp 105) = .bool true := hpre 12 105 (by kernel_rfl)
                refine GSay.on (g := 12) (d := 105) rfl rfl fg ?_
                have f106 : ρ (.tmp 106) = .int .i64 0 := hpre 13 106 (by kernel_rfl)
                have f107 : ρ (.tmp 107) = .int .i64 0 := hpre 14 107 (by kernel_rfl)
                exact DoesU.value (v := .bool true) (w' := W) (by simp [go_sem, f106, f107]) ⟨rfl, Ext.refl _⟩
              · intro ρ W hS hx hout hpre
                refine GSay.none rfl ?_
                have f105 : ρ (.tmp 105) = .bool true := hpre 12 105 (by kernel_rfl)
                have f108 : ρ (.tmp 108) = .bool true := hpre 15 108 (by kernel_rfl)
                exact DoesU.value (v := .bool true) (w' := W) (by simp [go_sem, f105, f108, hS.const]) ⟨rfl, Ext.refl _⟩
              · intro ρ W hS hx hout hpre
                refine GSay.none rfl ?_
                have f109 : ρ (.tmp 109) = .bool true := hpre 16 109 (by kernel_rfl)
                exact DoesU.value (v := .bool true) (w' := W) (by simp [go_sem, f109]) ⟨rfl, Ext.refl _⟩
              · intro ρ W hS hx hout hpre
                have fg : ρ (.tmp 110) = .bool true := hpre 17 110 (by kernel_rfl)
                refine GSay.on (g := 17) (d := 110) rfl rfl fg ?_
                have f15 : ρ (.tmp 15) = .pointer (some ⟨w8.heap.size, 0, none⟩) := hout 15 (by kernel_rfl)
                exact DoesU.value (v := .agg #[.int .i64 1, .int .i64 9, .slice A15 0 c15]) (w' := W) (by simp [go_sem, f15, (show W.cell? ⟨w8.heap.size, 0, none⟩ = some (.int .i64 1) from ((B15.out.ext hx)).cell 0), (show W.cell? ⟨w8.heap.size, 1, none⟩ = some (.int .i64 9) from ((B15.out.ext hx)).cell 1), (show W.cell? ⟨w8.heap.size, 2, none⟩ = some (.slice A15 0 c15) from ((B15.out.ext hx)).cell 2)]) ⟨rfl, Ext.refl _⟩
              · intro ρ W hS hx hout hpre
                have fg : ρ (.tmp 110) = .bool true := hpre 17 110 (by kernel_rfl)
                refine GSay.on (g := 17) (d := 110) rfl rfl fg ?_
                have f17 : ρ (.tmp 17) = .pointer (some ⟨w8.heap.size + 1, 0, none⟩) := hout 17 (by kernel_rfl)
                exact DoesU.value (v := .agg #[.int .i64 1, .int .i64 9, .slice none 0 0]) (w' := W) (by simp [go_sem, f17, (show W.cell? ⟨w8.heap.size + 1, 0, none⟩ = some (.int .i64 1) from ((B17.out.ext hx)).cell 0), (show W.cell? ⟨w8.heap.size + 1, 1, none⟩ = some (.int .i64 9) from ((B17.out.ext hx)).cell 1), (show W.cell? ⟨w8.heap.size + 1, 2, none⟩ = some (.slice none 0 0) from ((B17.out.ext hx)).cell 2)]) ⟨rfl, Ext.refl _⟩
              · intro ρ W hS hx hout hpre
                have fg : ρ (.tmp 110) = .bool true := hpre 17 110 (by kernel_rfl)
                refine GSay.on (g := 17) (d := 110) rfl rfl fg ?_
                have f111 : ρ (.tmp 111) = .agg #[.int .i64 1, .int .i64 9, .slice A15 0 c15] := hpre 18 111 (by kernel_rfl)
                have f112 : ρ (.tmp 112) = .agg #[.int .i64 1, .int .i64 9, .slice none 0 0] := hpre 19 112 (by kernel_rfl)
                refine DoesU.call (f := 19) (args := #[.agg #[.int .i64 1, .int .i64 9, .slice A15 0 c15], .agg #[.int .i64 1, .int .i64 9, .slice none 0 0]]) (w' := W) (by simp [go_sem, hS.func, f111, f112]) ?_
                refine (same_any _ _ _ _ _ [] _ _ _ _ _ [] _ rfl rfl (O15.out.ext hx) (At.nil _ _) (by simp) (by simp)).mono ?_
                rw [same_self]
                rintro e w6 ⟨rfl, hx6⟩
                exact ⟨_, rfl, rfl, hx6⟩
              · intro ρ W hS hx hout hpre
                refine GSay.none rfl ?_
                have f110 : ρ (.tmp 110) = .bool true := hpre 17 110 (by kernel_rfl)
                have f113 : ρ (.tmp 113) = .bool true := hpre 20 113 (by kernel_rfl)
                exact DoesU.value (v := .bool true) (w' := W) (by simp [go_sem, f110, f113, hS.const]) ⟨rfl, Ext.refl _⟩
              · intro ρ W hS hx hout hpre
                refine GSay.none rfl ?_
                have f114 : ρ (.tmp 114) = .bool true := hpre 21 114 (by kernel_rfl)
                exact DoesU.value (v := .bool true) (w' := W) (by simp [go_sem, f114]) ⟨rfl, Ext.refl _⟩
            intro vs w10 hl hD hx
            replace hl := hl.trans (show (idxU _).length = 23 by kernel_rfl)
            rcases vs with _ | ⟨v93, vs⟩; · simp at hl
            rcases vs with _ | ⟨v94, vs⟩; · simp at hl
            rcases vs with _ | ⟨v95, vs⟩; · simp at hl
            rcases vs with _ | ⟨v96, vs⟩; · simp at hl
            rcases vs with _ | ⟨v97, vs⟩; · simp at hl
            rcases vs with _ | ⟨v98, vs⟩; · simp at hl
            rcases vs with _ | ⟨v99, vs⟩; · simp at hl
            rcases vs with _ | ⟨v100, vs⟩; · simp at hl
            rcases vs with _ | ⟨v101, vs⟩; · simp at hl
            rcases vs with _ | ⟨v102, vs⟩; · simp at hl
            rcases vs with _ | ⟨v103, vs⟩; · simp at hl
            rcases vs with _ | ⟨v104, vs⟩; · simp at hl
            rcases vs with _ | ⟨v105, vs⟩; · simp at hl
            rcases vs with _ | ⟨v106, vs⟩; · simp at hl
            rcases vs with _ | ⟨v107, vs⟩; · simp at hl
            rcases vs with _ | ⟨v108, vs⟩; · simp at hl
            rcases vs with _ | ⟨v109, vs⟩; · simp at hl
            rcases vs with _ | ⟨v110, vs⟩; · simp at hl
            rcases vs with _ | ⟨v111, vs⟩; · simp at hl
            rcases vs with _ | ⟨v112, vs⟩; · simp at hl
            rcases vs with _ | ⟨v113, vs⟩; · simp at hl
            rcases vs with _ | ⟨v114, vs⟩; · simp at hl
            rcases vs with _ | ⟨v4, vs⟩; · simp at hl
            obtain rfl : vs = [] := List.eq_nil_of_length_eq_zero (by simpa using hl)
            clear hl
            obtain rfl : v93 = .bool true := hD 0 0 v93 (by kernel_rfl) rfl
            obtain rfl : v94 = .bool true := hD 1 1 v94 (by kernel_rfl) rfl
            obtain rfl : v95 = .int .i64 q := hD 2 2 v95 (by kernel_rfl) rfl
            obtain rfl : v96 = .int .i64 q := hD 3 3 v96 (by kernel_rfl) rfl
            obtain rfl : v97 = .bool true := hD 4 4 v97 (by kernel_rfl) rfl
            obtain rfl : v98 = .bool true := hD 5 5 v98 (by kernel_rfl) rfl
            obtain rfl : v99 = .bool true := hD 6 6 v99 (by kernel_rfl) rfl
            obtain rfl : v100 = .agg #[.int .i64 k2, .int .i64 l2, .slice A6 I2.length c6] := hD 7 7 v100 (by kernel_rfl) rfl
            obtain rfl : v101 = .agg #[.int .i64 kA, .int .i64 lA, .slice Aa sa.length ca] := hD 8 8 v101 (by kernel_rfl) rfl
            obtain ⟨A102, c102, rfl, ho102⟩ := hD 9 9 v102 (by kernel_rfl) rfl
            obtain rfl : v103 = .bool true := hD 10 10 v103 (by kernel_rfl) rfl
            obtain rfl : v104 = .bool true := hD 11 11 v104 (by kernel_rfl) rfl
            obtain rfl : v105 = .bool true := hD 12 12 v105 (by kernel_rfl) rfl
            obtain rfl : v106 = .int .i64 0 := hD 13 13 v106 (by kernel_rfl) rfl
            obtain rfl : v107 = .int .i64 0 := hD 14 14 v107 (by kernel_rfl) rfl
            obtain rfl : v108 = .bool true := hD 15 15 v108 (by kernel_rfl) rfl
            obtain rfl : v109 = .bool true := hD 16 16 v109 (by kernel_rfl) rfl
            obtain rfl : v110 = .bool true := hD 17 17 v110 (by kernel_rfl) rfl
            obtain rfl : v111 = .agg #[.int .i64 1, .int .i64 9, .slice A15 0 c15] := hD 18 18 v111 (by kernel_rfl) rfl
            obtain rfl : v112 = .agg #[.int .i64 1, .int .i64 9, .slice none 0 0] := hD 19 19 v112 (by kernel_rfl) rfl
            obtain rfl : v113 = .bool true := hD 20 20 v113 (by kernel_rfl) rfl
            obtain rfl : v114 = .bool true := hD 21 21 v114 (by kernel_rfl) rfl
            obtain rfl : v4 = .bool true := hD 22 22 v4 (by kernel_rfl) rfl
            clear hD
            rw [show dstsU _ = [93, 94, 95, 96, 97, 98, 99, 100, 101, 102, 103, 104, 105, 106, 107, 108, 109, 110, 111, 112, 113, 114, 4] by kernel_rfl]
            simp only [putAll, List.setIfInBounds_toArray, List.set_cons_succ, List.set_cons_zero]
            have XF := Lib.hid (X1.out.trans hx)
            clear hx
            go_wp2
            go_ret
            exact Ret1.bool rfl XF.out
          | 2, _ =>
            have hcv : (convert 34 9 (.slice (some ⟨w7.heap.size, 0, none⟩) 1 1)).run Try.prog (w7.alloc (.cells #[.int .u8 2] 5)) = .ok (.string (strOfNums [2])) (w7.alloc (.cells #[.int .u8 2] 5)) := run_cv_one 2 w7
            have P3 := Lib.hid (kind_ok 2 (by decide) k2 l2 I2 HS2.out HR2.out)
            go_wp2_with fail
            clear hcv
            refine (P3.out _ _ _ ((H6w2.out.ext E2.out).ext ((Ext.refl _).alloc _))).mono ?_
            rintro e w8 ⟨A15, c15, rfl, ho, hx⟩
            replace B2 := Lib.hid ((B2.out.alloc _).ext hx)
            replace B3 := Lib.hid ((B3.out.alloc _).ext hx)
            replace B6 := Lib.hid ((B6.out.alloc _).ext hx)
            replace X1 := Lib.hid (X1.out.trans (((Ext.refl _).alloc _).trans hx))
            replace E2 := Lib.hid (E2.out.trans (((Ext.refl _).alloc _).trans hx))
            have BY : Hid (Blk w8 (w7.heap.size) 5 #[.int .u8 2]) := Lib.hid ((Blk.new' (by simp)).ext hx)
            have O15 := Lib.hid (At.of_own ho)
            clear ho b6 b6a b6b b3
            clear hx
            go_wp2_with fail
            refine at_world ?_
            intro w9 hw9
            have hx := Ext.of_eq hw9.symm
            clear hw9
            replace B2 := Lib.hid (((B2.out.alloc _).alloc _).ext hx)
            replace B3 := Lib.hid (((B3.out.alloc _).alloc _).ext hx)
            replace B6 := Lib.hid (((B6.out.alloc _).alloc _).ext hx)
            replace O15 := Lib.hid (O15.out.ext ((((Ext.refl _).alloc _).alloc _).trans hx))
            replace X1 := Lib.hid (X1.out.trans ((((Ext.refl _).alloc _).alloc _).trans hx))
            replace E2 := Lib.hid (E2.out.trans ((((Ext.refl _).alloc _).alloc _).trans hx))
            have B15 : Hid (Blk w9 (w8.heap.size) 26 #[.int .i64 2, .int .i64 9, .slice A15 0 c15]) := Lib.hid (((Blk.new' (by simp)).alloc _).ext hx)
            have B17 : Hid (Blk w9 (w8.heap.size + 1) 26 #[.int .i64 2, .int .i64 9, .slice none 0 0]) := Lib.hid ((Blk.new' (by simp)).ext hx)
            clear hx
            refine wp_region_E (by kernel_rfl) [0, 1, 3, 3, 15, 31, 63, 127, 127, 383, 1023, 2047, 4095, 8191, 8191, 32767, 65535, 131071, 262143, 262143, 1048575, 2097151, 4194303] (fun ix v W => match ix with | 0 => v = .bool true | 1 => v = .bool true | 2 => v = .int .i64 q | 3 => v = .int .i64 q | 4 => v = .bool true | 5 => v = .bool true | 6 => v = .bool true | 7 => v = .agg #[.int .i64 k2, .int .i64 l2, .slice A6 I2.length c6] | 8 => v = .agg #[.int .i64 kA, .int .i64 lA, .slice Aa sa.length ca] | 9 => ∃ (A102 : Option Addr) (c102 : Nat), v = .agg #[.int .i64 k2, .int .i64 l2, .slice A102 I2.length c102] ∧ W.ownsRow 0 9 1 (.slice A102 I2.length c102) I2.length (I2.map Value.string) | 10 => v = .bool true | 11 => v = .bool true | 12 => v = .bool true | 13 => v = .int .i64 0 | 14 => v = .int .i64 0 | 15 => v = .bool true | 16 => v = .bool true | 17 => v = .bool true | 18 => v = .agg #[.int .i64 2, .int .i64 9, .slice A15 0 c15] | 19 => v = .agg #[.int .i64 2, .int .i64 9, .slice none 0 0] | 20 => v = .bool true | 21 => v = .bool true | 22 => v = .bool true | _ => True) (by kernel_rfl) (by kernel_rfl) ?_ ?_ ?_
            · intro ix v W W' h hx
              match ix, h with
              | 0, h => exact h
              | 1, h => exact h
              | 2, h => exact h
              | 3, h => exact h
              | 4, h => exact h
              | 5, h => exact h
              | 6, h => exact h
              | 7, h => exact h
              | 8, h => exact h
              | 9, h => exact let ⟨A102, c102, he, ho102⟩ := h; ⟨A102, c102, he, own_ext ho102 hx⟩
              | 10, h => exact h
              | 11, h => exact h
              | 12, h => exact h
              | 13, h => exact h
              | 14, h => exact h
              | 15, h => exact h
              | 16, h => exact h
              | 17, h => exact h
              | 18, h => exact h
              | 19, h => exact h
              | 20, h => exact h
              | 21, h => exact h
              | 22, h => exact h
              | _ + 23, _ => trivial
            · refine ⟨⟨⟨⟨⟨⟨⟨⟨⟨⟨⟨⟨⟨⟨⟨⟨⟨⟨⟨⟨⟨⟨⟨trivial, ?_⟩, ?_⟩, ?_⟩, ?_⟩, ?_⟩, ?_⟩, ?_⟩, ?_⟩, ?_⟩, ?_⟩, ?_⟩, ?_⟩, ?_⟩, ?_⟩, ?_⟩, ?_⟩, ?_⟩, ?_⟩, ?_⟩, ?_⟩, ?_⟩, ?_⟩, ?_⟩
              · intro ρ W hS hx hout hpre
                refine GSay.none rfl ?_
                have f5 : ρ (.tmp 5) = .bool true := hout 5 (by kernel_rfl)
                exact DoesU.value (v := .bool true) (w' := W) (by simp [go_sem, f5]) ⟨rfl, Ext.refl _⟩
              · intro ρ W hS hx hout hpre
                refine GSay.none rfl ?_
                have f93 : ρ (.tmp 93) = .bool true := hpre 0 93 (by kernel_rfl)
                exact DoesU.value (v := .bool true) (w' := W) (by simp [go_sem, f93]) ⟨rfl, Ext.refl _⟩
              · intro ρ W hS hx hout hpre
                have fg : ρ (.tmp 94) = .bool true := hpre 1 94 (by kernel_rfl)
                refine GSay.on (g := 1) (d := 94) rfl rfl fg ?_
                have f9 : ρ (.tmp 9) = .int .i64 q := hout 9 (by kernel_rfl)
                exact DoesU.value (v := .int .i64 q) (w' := W) (by simp [go_sem, f9]) ⟨rfl, Ext.refl _⟩
              · intro ρ W hS hx hout hpre
                have fg : ρ (.tmp 94) = .bool true := hpre 1 94 (by kernel_rfl)
                refine GSay.on (g := 1) (d := 94) rfl rfl fg ?_
                have f11 : ρ (.tmp 11) = .int .i64 q := hout 11 (by kernel_rfl)
                exact DoesU.value (v := .int .i64 q) (w' := W) (by simp [go_sem, f11]) ⟨rfl, Ext.refl _⟩
              · intro ρ W hS hx hout hpre
                have fg : ρ (.tmp 94) = .bool true := hpre 1 94 (by kernel_rfl)
                refine GSay.on (g := 1) (d := 94) rfl rfl fg ?_
                have f95 : ρ (.tmp 95) = .int .i64 q := hpre 2 95 (by kernel_rfl)
                have f96 : ρ (.tmp 96) = .int .i64 q := hpre 3 96 (by kernel_rfl)
                exact DoesU.value (v := .bool true) (w' := W) (by simp [go_sem, f95, f96]) ⟨rfl, Ext.refl _⟩
              · intro ρ W hS hx hout hpre
                refine GSay.none rfl ?_
                have f94 : ρ (.tmp 94) = .bool true := hpre 1 94 (by kernel_rfl)
                have f97 : ρ (.tmp 97) = .bool true := hpre 4 97 (by kernel_rfl)
                exact DoesU.value (v := .bool true) (w' := W) (by simp [go_sem, f94, f97, hS.const]) ⟨rfl, Ext.refl _⟩
              · intro ρ W hS hx hout hpre
                refine GSay.none rfl ?_
                have f98 : ρ (.tmp 98) = .bool true := hpre 5 98 (by kernel_rfl)
                exact DoesU.value (v := .bool true) (w' := W) (by simp [go_sem, f98]) ⟨rfl, Ext.refl _⟩
              · intro ρ W hS hx hout hpre
                have fg : ρ (.tmp 99) = .bool true := hpre 6 99 (by kernel_rfl)
                refine GSay.on (g := 6) (d := 99) rfl rfl fg ?_
                have f6 : ρ (.tmp 6) = .pointer (some ⟨w2.heap.size, 0, none⟩) := hout 6 (by kernel_rfl)
                exact DoesU.value (v := .agg #[.int .i64 k2, .int .i64 l2, .slice A6 I2.length c6]) (w' := W) (by simp [go_sem, f6, (show W.cell? ⟨w2.heap.size, 0, none⟩ = some (.int .i64 k2) from ((B6.out.ext hx)).cell 0), (show W.cell? ⟨w2.heap.size, 1, none⟩ = some (.int .i64 l2) from ((B6.out.ext hx)).cell 1), (show W.cell? ⟨w2.heap.size, 2, none⟩ = some (.slice A6 I2.length c6) from ((B6.out.ext hx)).cell 2)]) ⟨rfl, Ext.refl _⟩
              · intro ρ W hS hx hout hpre
                have fg : ρ (.tmp 99) = .bool true := hpre 6 99 (by kernel_rfl)
                refine GSay.on (g := 6) (d := 99) rfl rfl fg ?_
                have f2 : ρ (.tmp 2) = .pointer (some ⟨w.heap.size, 0, none⟩) := hout 2 (by kernel_rfl)
                exact DoesU.value (v := .agg #[.int .i64 kA, .int .i64 lA, .slice Aa sa.length ca]) (w' := W) (by simp [go_sem, f2, (show W.cell? ⟨w.heap.size, 0, none⟩ = some (.int .i64 kA) from ((B2.out.ext hx)).cell 0), (show W.cell? ⟨w.heap.size, 1, none⟩ = some (.int .i64 lA) from ((B2.out.ext hx)).cell 1), (show W.cell? ⟨w.heap.size, 2, none⟩ = some (.slice Aa sa.length ca) from ((B2.out.ext hx)).cell 2)]) ⟨rfl, Ext.refl _⟩
              · intro ρ W hS hx hout hpre
                have fg : ρ (.tmp 99) = .bool true := hpre 6 99 (by kernel_rfl)
                refine GSay.on (g := 6) (d := 99) rfl rfl fg ?_
                have f101 : ρ (.tmp 101) = .agg #[.int .i64 kA, .int .i64 lA, .slice Aa sa.length ca] := hpre 8 101 (by kernel_rfl)
                refine DoesU.call (f := 14) (args := #[.agg #[.int .i64 kA, .int .i64 lA, .slice Aa sa.length ca]]) (w' := W) (by simp [go_sem, hS.func, f101]) ?_
                refine (HM.out _ (HA0.out.ext (X1.out.trans hx))).mono ?_
                rintro e w6 ⟨A102, c102, rfl, ho102, hx6⟩
                exact ⟨_, rfl, ⟨A102, c102, rfl, own_mono ho102 (Nat.zero_le _)⟩, hx6⟩
              · intro ρ W hS hx hout hpre
                have fg : ρ (.tmp 99) = .bool true := hpre 6 99 (by kernel_rfl)
                refine GSay.on (g := 6) (d := 99) rfl rfl fg ?_
                have f100 : ρ (.tmp 100) = .agg #[.int .i64 k2, .int .i64 l2, .slice A6 I2.length c6] := hpre 7 100 (by kernel_rfl)
                obtain ⟨A102, c102, f102, ho102⟩ := hpre 9 102 (by kernel_rfl)
                refine DoesU.call (f := 19) (args := #[.agg #[.int .i64 k2, .int .i64 l2, .slice A6 I2.length c6], .agg #[.int .i64 k2, .int .i64 l2, .slice A102 I2.length c102]]) (w' := W) (by simp [go_sem, hS.func, f100, f102]) ?_
                refine (same_any _ _ _ _ _ _ _ _ _ _ _ _ _ rfl rfl (H6w2.out.ext (E2.out.trans hx)) (At.of_own ho102) (by omega) (by omega)).mono ?_
                rw [same_self]
                rintro e w6 ⟨rfl, hx6⟩
                exact ⟨_, rfl, rfl, hx6⟩
              · intro ρ W hS hx hout hpre
                refine GSay.none rfl ?_
                have f99 : ρ (.tmp 99) = .bool true := hpre 6 99 (by kernel_rfl)
                have f103 : ρ (.tmp 103) = .bool true := hpre 10 103 (by kernel_rfl)
                exact DoesU.value (v := .bool true) (w' := W) (by simp [go_sem, f99, f103, hS.const]) ⟨rfl, Ext.refl _⟩
              · intro ρ W hS hx hout hpre
                refine GSay.none rfl ?_
                have f104 : ρ (.tmp 104) = .bool true := hpre 11 104 (by kernel_rfl)
                exact DoesU.value (v := .bool true) (w' := W) (by simp [go_sem, f104]) ⟨rfl, Ext.refl _⟩
              · intro ρ W hS hx hout hpre
                have fg : ρ (.tmp 105) = .bool true := hpre 12 105 (by kernel_rfl)
                refine GSay.on (g := 12) (d := 105) rfl rfl fg ?_
                have f16 : ρ (.tmp 16) = .int .i64 0 := hout 16 (by kernel_rfl)
                exact DoesU.value (v := .int .i64 0) (w' := W) (by simp [go_sem, f16]) ⟨rfl, Ext.refl _⟩
              · intro ρ W hS hx hout hpre
                have fg : ρ (.tmp 105) = .bool true := hpre 12 105 (by kernel_rfl)
                refine GSay.on (g := 12) (d := 105) rfl rfl fg ?_
                have f18 : ρ (.tmp 18) = .int .i64 0 := hout 18 (by kernel_rfl)
                exact DoesU.value (v := .int .i64 0) (w' := W) (by simp [go_sem, f18]) ⟨rfl, Ext.refl _⟩
              · intro ρ W hS hx hout hpre
                have fg : ρ (.tmp 105) = .bool true := hpre 12 105 (by kernel_rfl)
                refine GSay.on (g := 12) (d := 105) rfl rfl fg ?_
                have f106 : ρ (.tmp 106) = .int .i64 0 := hpre 13 106 (by kernel_rfl)
                have f107 : ρ (.tmp 107) = .int .i64 0 := hpre 14 107 (by kernel_rfl)
                exact DoesU.value (v := .bool true) (w' := W) (by simp [go_sem, f106, f107]) ⟨rfl, Ext.refl _⟩
              · intro ρ W hS hx hout hpre
                refine GSay.none rfl ?_
                have f105 : ρ (.tmp 105) = .bool true := hpre 12 105 (by kernel_rfl)
                have f108 : ρ (.tmp 108) = .bool true := hpre 15 108 (by kernel_rfl)
                exact DoesU.value (v := .bool true) (w' := W) (by simp [go_sem, f105, f108, hS.const]) ⟨rfl, Ext.refl _⟩
              · intro ρ W hS hx hout hpre
                refine GSay.none rfl ?_
                have f109 : ρ (.tmp 109) = .bool true := hpre 16 109 (by kernel_rfl)
                exact DoesU.value (v := .bool true) (w' := W) (by simp [go_sem, f109]) ⟨rfl, Ext.refl _⟩
              · intro ρ W hS hx hout hpre
                have fg : ρ (.tmp 110) = .bool true := hpre 17 110 (by kernel_rfl)
                refine GSay.on (g := 17) (d := 110) rfl rfl fg ?_
                have f15 : ρ (.tmp 15) = .pointer (some ⟨w8.heap.size, 0, none⟩) := hout 15 (by kernel_rfl)
                exact DoesU.value (v := .agg #[.int .i64 2, .int .i64 9, .slice A15 0 c15]) (w' := W) (by simp [go_sem, f15, (show W.cell? ⟨w8.heap.size, 0, none⟩ = some (.int .i64 2) from ((B15.out.ext hx)).cell 0), (show W.cell? ⟨w8.heap.size, 1, none⟩ = some (.int .i64 9) from ((B15.out.ext hx)).cell 1), (show W.cell? ⟨w8.heap.size, 2, none⟩ = some (.slice A15 0 c15) from ((B15.out.ext hx)).cell 2)]) ⟨rfl, Ext.refl _⟩
              · intro ρ W hS hx hout hpre
                have fg : ρ (.tmp 110) = .bool true := hpre 17 110 (by kernel_rfl)
                refine GSay.on (g := 17) (d := 110) rfl rfl fg ?_
                have f17 : ρ (.tmp 17) = .pointer (some ⟨w8.heap.size + 1, 0, none⟩) := hout 17 (by kernel_rfl)
                exact DoesU.value (v := .agg #[.int .i64 2, .int .i64 9, .slice none 0 0]) (w' := W) (by simp [go_sem, f17, (show W.cell? ⟨w8.heap.size + 1, 0, none⟩ = some (.int .i64 2) from ((B17.out.ext hx)).cell 0), (show W.cell? ⟨w8.heap.size + 1, 1, none⟩ = some (.int .i64 9) from ((B17.out.ext hx)).cell 1), (show W.cell? ⟨w8.heap.size + 1, 2, none⟩ = some (.slice none 0 0) from ((B17.out.ext hx)).cell 2)]) ⟨rfl, Ext.refl _⟩
              · intro ρ W hS hx hout hpre
                have fg : ρ (.tmp 110) = .bool true := hpre 17 110 (by kernel_rfl)
                refine GSay.on (g := 17) (d := 110) rfl rfl fg ?_
                have f111 : ρ (.tmp 111) = .agg #[.int .i64 2, .int .i64 9, .slice A15 0 c15] := hpre 18 111 (by kernel_rfl)
                have f112 : ρ (.tmp 112) = .agg #[.int .i64 2, .int .i64 9, .slice none 0 0] := hpre 19 112 (by kernel_rfl)
                refine DoesU.call (f := 19) (args := #[.agg #[.int .i64 2, .int .i64 9, .slice A15 0 c15], .agg #[.int .i64 2, .int .i64 9, .slice none 0 0]]) (w' := W) (by simp [go_sem, hS.func, f111, f112]) ?_
                refine (same_any _ _ _ _ _ [] _ _ _ _ _ [] _ rfl rfl (O15.out.ext hx) (At.nil _ _) (by simp) (by simp)).mono ?_
                rw [same_self]
                rintro e w6 ⟨rfl, hx6⟩
                exact ⟨_, rfl, rfl, hx6⟩
              · intro ρ W hS hx hout hpre
                refine GSay.none rfl ?_
                have f110 : ρ (.tmp 110) = .bool true := hpre 17 110 (by kernel_rfl)
                have f113 : ρ (.tmp 113) = .bool true := hpre 20 113 (by kernel_rfl)
                exact DoesU.value (v := .bool true) (w' := W) (by simp [go_sem, f110, f113, hS.const]) ⟨rfl, Ext.refl _⟩
              · intro ρ W hS hx hout hpre
                refine GSay.none rfl ?_
                have f114 : ρ (.tmp 114) = .bool true := hpre 21 114 (by kernel_rfl)
                exact DoesU.value (v := .bool true) (w' := W) (by simp [go_sem, f114]) ⟨rfl, Ext.refl _⟩
            intro vs w10 hl hD hx
            replace hl := hl.trans (show (idxU _).length = 23 by kernel_rfl)
            rcases vs with _ | ⟨v93, vs⟩; · simp at hl
            rcases vs with _ | ⟨v94, vs⟩; · simp at hl
            rcases vs with _ | ⟨v95, vs⟩; · simp at hl
            rcases vs with _ | ⟨v96, vs⟩; · simp at hl
            rcases vs with _ | ⟨v97, vs⟩; · simp at hl
            rcases vs with _ | ⟨v98, vs⟩; · simp at hl
            rcases vs with _ | ⟨v99, vs⟩; · simp at hl
            rcases vs with _ | ⟨v100, vs⟩; · simp at hl
            rcases vs with _ | ⟨v101, vs⟩; · simp at hl
            rcases vs with _ | ⟨v102, vs⟩; · simp at hl
            rcases vs with _ | ⟨v103, vs⟩; · simp at hl
            rcases vs with _ | ⟨v104, vs⟩; · simp at hl
            rcases vs with _ | ⟨v105, vs⟩; · simp at hl
            rcases vs with _ | ⟨v106, vs⟩; · simp at hl
            rcases vs with _ | ⟨v107, vs⟩; · simp at hl
            rcases vs with _ | ⟨v108, vs⟩; · simp at hl
            rcases vs with _ | ⟨v109, vs⟩; · simp at hl
            rcases vs with _ | ⟨v110, vs⟩; · simp at hl
            rcases vs with _ | ⟨v111, vs⟩; · simp at hl
            rcases vs with _ | ⟨v112, vs⟩; · simp at hl
            rcases vs with _ | ⟨v113, vs⟩; · simp at hl
            rcases vs with _ | ⟨v114, vs⟩; · simp at hl
            rcases vs with _ | ⟨v4, vs⟩; · simp at hl
            obtain rfl : vs = [] := List.eq_nil_of_length_eq_zero (by simpa using hl)
            clear hl
            obtain rfl : v93 = .bool true := hD 0 0 v93 (by kernel_rfl) rfl
            obtain rfl : v94 = .bool true := hD 1 1 v94 (by kernel_rfl) rfl
            obtain rfl : v95 = .int .i64 q := hD 2 2 v95 (by kernel_rfl) rfl
            obtain rfl : v96 = .int .i64 q := hD 3 3 v96 (by kernel_rfl) rfl
            obtain rfl : v97 = .bool true := hD 4 4 v97 (by kernel_rfl) rfl
            obtain rfl : v98 = .bool true := hD 5 5 v98 (by kernel_rfl) rfl
            obtain rfl : v99 = .bool true := hD 6 6 v99 (by kernel_rfl) rfl
            obtain rfl : v100 = .agg #[.int .i64 k2, .int .i64 l2, .slice A6 I2.length c6] := hD 7 7 v100 (by kernel_rfl) rfl
            obtain rfl : v101 = .agg #[.int .i64 kA, .int .i64 lA, .slice Aa sa.length ca] := hD 8 8 v101 (by kernel_rfl) rfl
            obtain ⟨A102, c102, rfl, ho102⟩ := hD 9 9 v102 (by kernel_rfl) rfl
            obtain rfl : v103 = .bool true := hD 10 10 v103 (by kernel_rfl) rfl
            obtain rfl : v104 = .bool true := hD 11 11 v104 (by kernel_rfl) rfl
            obtain rfl : v105 = .bool true := hD 12 12 v105 (by kernel_rfl) rfl
            obtain rfl : v106 = .int .i64 0 := hD 13 13 v106 (by kernel_rfl) rfl
            obtain rfl : v107 = .int .i64 0 := hD 14 14 v107 (by kernel_rfl) rfl
            obtain rfl : v108 = .bool true := hD 15 15 v108 (by kernel_rfl) rfl
            obtain rfl : v109 = .bool true := hD 16 16 v109 (by kernel_rfl) rfl
            obtain rfl : v110 = .bool true := hD 17 17 v110 (by kernel_rfl) rfl
            obtain rfl : v111 = .agg #[.int .i64 2, .int .i64 9, .slice A15 0 c15] := hD 18 18 v111 (by kernel_rfl) rfl
            obtain rfl : v112 = .agg #[.int .i64 2, .int .i64 9, .slice none 0 0] := hD 19 19 v112 (by kernel_rfl) rfl
            obtain rfl : v113 = .bool true := hD 20 20 v113 (by kernel_rfl) rfl
            obtain rfl : v114 = .bool true := hD 21 21 v114 (by kernel_rfl) rfl
            obtain rfl : v4 = .bool true := hD 22 22 v4 (by kernel_rfl) rfl
            clear hD
            rw [show dstsU _ = [93, 94, 95, 96, 97, 98, 99, 100, 101, 102, 103, 104, 105, 106, 107, 108, 109, 110, 111, 112, 113, 114, 4] by kernel_rfl]
            simp only [putAll, List.setIfInBounds_toArray, List.set_cons_succ, List.set_cons_zero]
            have XF := Lib.hid (X1.out.trans hx)
            clear hx
            go_wp2
            go_ret
            exact Ret1.bool rfl XF.out
          | 3, _ =>
            have hcv : (convert 34 9 (.slice (some ⟨w7.heap.size, 0, none⟩) 1 1)).run Try.prog (w7.alloc (.cells #[.int .u8 3] 5)) = .ok (.string (strOfNums [3])) (w7.alloc (.cells #[.int .u8 3] 5)) := run_cv_one 3 w7
            have P3 := Lib.hid (kind_bad 3 (by decide) k2 l2 I2 HS2.out HR2.out)
            go_wp2_with fail
            clear hcv
            refine (P3.out _ _ _ ((H6w2.out.ext E2.out).ext ((Ext.refl _).alloc _))).mono ?_
            rintro e w8 ⟨A15, c15, rfl, ho, hx⟩
            replace B2 := Lib.hid ((B2.out.alloc _).ext hx)
            replace B3 := Lib.hid ((B3.out.alloc _).ext hx)
            replace B6 := Lib.hid ((B6.out.alloc _).ext hx)
            replace X1 := Lib.hid (X1.out.trans (((Ext.refl _).alloc _).trans hx))
            replace E2 := Lib.hid (E2.out.trans (((Ext.refl _).alloc _).trans hx))
            have BY : Hid (Blk w8 (w7.heap.size) 5 #[.int .u8 3]) := Lib.hid ((Blk.new' (by simp)).ext hx)
            have O15 := Lib.hid (At.of_own ho)
            clear ho b6 b6a b6b b3
            clear hx
            go_wp2_with fail
            refine at_world ?_
            intro w9 hw9
            have hx := Ext.of_eq hw9.symm
            clear hw9
            replace B2 := Lib.hid (((B2.out.alloc _).alloc _).ext hx)
            replace B3 := Lib.hid (((B3.out.alloc _).alloc _).ext hx)
            replace B6 := Lib.hid (((B6.out.alloc _).alloc _).ext hx)
            replace O15 := Lib.hid (O15.out.ext ((((Ext.refl _).alloc _).alloc _).trans hx))
            replace X1 := Lib.hid (X1.out.trans ((((Ext.refl _).alloc _).alloc _).trans hx))
            replace E2 := Lib.hid (E2.out.trans ((((Ext.refl _).alloc _).alloc _).trans hx))
            have B15 : Hid (Blk w9 (w8.heap.size) 26 #[.int .i64 0, .int .i64 0, .slice A15 0 c15]) := Lib.hid (((Blk.new' (by simp)).alloc _).ext hx)
            have B17 : Hid (Blk w9 (w8.heap.size + 1) 26 #[.int .i64 0, .int .i64 0, .slice none 0 0]) := Lib.hid ((Blk.new' (by simp)).ext hx)
            clear hx
            refine wp_region_E (by kernel_rfl) [0, 1, 3, 3, 15, 31, 63, 127, 127, 383, 1023, 2047, 4095, 8191, 8191, 32767, 65535, 131071, 262143, 262143, 1048575, 2097151, 4194303] (fun ix v W => match ix with | 0 => v = .bool true | 1 => v = .bool true | 2 => v = .int .i64 q | 3 => v = .int .i64 q | 4 => v = .bool true | 5 => v = .bool true | 6 => v = .bool true | 7 => v = .agg #[.int .i64 k2, .int .i64 l2, .slice A6 I2.length c6] | 8 => v = .agg #[.int .i64 kA, .int .i64 lA, .slice Aa sa.length ca] | 9 => ∃ (A102 : Option Addr) (c102 : Nat), v = .agg #[.int .i64 k2, .int .i64 l2, .slice A102 I2.length c102] ∧ W.ownsRow 0 9 1 (.slice A102 I2.length c102) I2.length (I2.map Value.string) | 10 => v = .bool true | 11 => v = .bool true | 12 => v = .bool true | 13 => v = .int .i64 21 | 14 => v = .int .i64 21 | 15 => v = .bool true | 16 => v = .bool true | 17 => v = .bool true | 18 => v = .agg #[.int .i64 0, .int .i64 0, .slice A15 0 c15] | 19 => v = .agg #[.int .i64 0, .int .i64 0, .slice none 0 0] | 20 => v = .bool true | 21 => v = .bool true | 22 => v = .bool true | _ => True) (by kernel_rfl) (by kernel_rfl) ?_ ?_ ?_
            · intro ix v W W' h hx
              match ix, h with
              | 0, h => exact h
              | 1, h => exact h
              | 2, h => exact h
              | 3, h => exact h
              | 4, h => exact h
              | 5, h => exact h
              | 6, h => exact h
              | 7, h => exact h
              | 8, h => exact h
              | 9, h => exact let ⟨A102, c102, he, ho102⟩ := h; ⟨A102, c102, he, own_ext ho102 hx⟩
              | 10, h => exact h
              | 11, h => exact h
              | 12, h => exact h
              | 13, h => exact h
              | 14, h => exact h
              | 15, h => exact h
              | 16, h => exact h
              | 17, h => exact h
              | 18, h => exact h
              | 19, h => exact h
              | 20, h => exact h
              | 21, h => exact h
              | 22, h => exact h
              | _ + 23, _ => trivial
            · refine ⟨⟨⟨⟨⟨⟨⟨⟨⟨⟨⟨⟨⟨⟨⟨⟨⟨⟨⟨⟨⟨⟨⟨trivial, ?_⟩, ?_⟩, ?_⟩, ?_⟩, ?_⟩, ?_⟩, ?_⟩, ?_⟩, ?_⟩, ?_⟩, ?_⟩, ?_⟩, ?_⟩, ?_⟩, ?_⟩, ?_⟩, ?_⟩, ?_⟩, ?_⟩, ?_⟩, ?_⟩, ?_⟩, ?_⟩
              · intro ρ W hS hx hout hpre
                refine GSay.none rfl ?_
                have f5 : ρ (.tmp 5) = .bool true := hout 5 (by kernel_rfl)
                exact DoesU.value (v := .bool true) (w' := W) (by simp [go_sem, f5]) ⟨rfl, Ext.refl _⟩
              · intro ρ W hS hx hout hpre
                refine GSay.none rfl ?_
                have f93 : ρ (.tmp 93) = .bool true := hpre 0 93 (by kernel_rfl)
                exact DoesU.value (v := .bool true) (w' := W) (by simp [go_sem, f93]) ⟨rfl, Ext.refl _⟩
              · intro ρ W hS hx hout hpre
                have fg : ρ (.tmp 94) = .bool true := hpre 1 94 (by kernel_rfl)
                refine GSay.on (g := 1) (d := 94) rfl rfl fg ?_
                have f9 : ρ (.tmp 9) = .int .i64 q := hout 9 (by kernel_rfl)
                exact DoesU.value (v := .int .i64 q) (w' := W) (by simp [go_sem, f9]) ⟨rfl, Ext.refl _⟩
              · intro ρ W hS hx hout hpre
                have fg : ρ (.tmp 94) = .bool true := hpre 1 94 (by kernel_rfl)
                refine GSay.on (g := 1) (d := 94) rfl rfl fg ?_
                have f11 : ρ (.tmp 11) = .int .i64 q := hout 11 (by kernel_rfl)
                exact DoesU.value (v := .int .i64 q) (w' := W) (by simp [go_sem, f11]) ⟨rfl, Ext.refl _⟩
              · intro ρ W hS hx hout hpre
                have fg : ρ (.tmp 94) = .bool true := hpre 1 94 (by kernel_rfl)
                refine GSay.on (g := 1) (d := 94) rfl rfl fg ?_
                have f95 : ρ (.tmp 95) = .int .i64 q := hpre 2 95 (by kernel_rfl)
                have f96 : ρ (.tmp 96) = .int .i64 q := hpre 3 96 (by kernel_rfl)
                exact DoesU.value (v := .bool true) (w' := W) (by simp [go_sem, f95, f96]) ⟨rfl, Ext.refl _⟩
              · intro ρ W hS hx hout hpre
                refine GSay.none rfl ?_
                have f94 : ρ (.tmp 94) = .bool true := hpre 1 94 (by kernel_rfl)
                have f97 : ρ (.tmp 97) = .bool true := hpre 4 97 (by kernel_rfl)
                exact DoesU.value (v := .bool true) (w' := W) (by simp [go_sem, f94, f97, hS.const]) ⟨rfl, Ext.refl _⟩
              · intro ρ W hS hx hout hpre
                refine GSay.none rfl ?_
                have f98 : ρ (.tmp 98) = .bool true := hpre 5 98 (by kernel_rfl)
                exact DoesU.value (v := .bool true) (w' := W) (by simp [go_sem, f98]) ⟨rfl, Ext.refl _⟩
              · intro ρ W hS hx hout hpre
                have fg : ρ (.tmp 99) = .bool true := hpre 6 99 (by kernel_rfl)
                refine GSay.on (g := 6) (d := 99) rfl rfl fg ?_
                have f6 : ρ (.tmp 6) = .pointer (some ⟨w2.heap.size, 0, none⟩) := hout 6 (by kernel_rfl)
                exact DoesU.value (v := .agg #[.int .i64 k2, .int .i64 l2, .slice A6 I2.length c6]) (w' := W) (by simp [go_sem, f6, (show W.cell? ⟨w2.heap.size, 0, none⟩ = some (.int .i64 k2) from ((B6.out.ext hx)).cell 0), (show W.cell? ⟨w2.heap.size, 1, none⟩ = some (.int .i64 l2) from ((B6.out.ext hx)).cell 1), (show W.cell? ⟨w2.heap.size, 2, none⟩ = some (.slice A6 I2.length c6) from ((B6.out.ext hx)).cell 2)]) ⟨rfl, Ext.refl _⟩
              · intro ρ W hS hx hout hpre
                have fg : ρ (.tmp 99) = .bool true := hpre 6 99 (by kernel_rfl)
                refine GSay.on (g := 6) (d := 99) rfl rfl fg ?_
                have f2 : ρ (.tmp 2) = .pointer (some ⟨w.heap.size, 0, none⟩) := hout 2 (by kernel_rfl)
                exact DoesU.value (v := .agg #[.int .i64 kA, .int .i64 lA, .slice Aa sa.length ca]) (w' := W) (by simp [go_sem, f2, (show W.cell? ⟨w.heap.size, 0, none⟩ = some (.int .i64 kA) from ((B2.out.ext hx)).cell 0), (show W.cell? ⟨w.heap.size, 1, none⟩ = some (.int .i64 lA) from ((B2.out.ext hx)).cell 1), (show W.cell? ⟨w.heap.size, 2, none⟩ = some (.slice Aa sa.length ca) from ((B2.out.ext hx)).cell 2)]) ⟨rfl, Ext.refl _⟩
              · intro ρ W hS hx hout hpre
                have fg : ρ (.tmp 99) = .bool true := hpre 6 99 (by kernel_rfl)
                refine GSay.on (g := 6) (d := 99) rfl rfl fg ?_
                have f101 : ρ (.tmp 101) = .agg #[.int .i64 kA, .int .i64 lA, .slice Aa sa.length ca] := hpre 8 101 (by kernel_rfl)
                refine DoesU.call (f := 14) (args := #[.agg #[.int .i64 kA, .int .i64 lA, .slice Aa sa.length ca]]) (w' := W) (by simp [go_sem, hS.func, f101]) ?_
                refine (HM.out _ (HA0.out.ext (X1.out.trans hx))).mono ?_
                rintro e w6 ⟨A102, c102, rfl, ho102, hx6⟩
                exact ⟨_, rfl, ⟨A102, c102, rfl, own_mono ho102 (Nat.zero_le _)⟩, hx6⟩
              · intro ρ W hS hx hout hpre
                have fg : ρ (.tmp 99) = .bool true := hpre 6 99 (by kernel_rfl)
                refine GSay.on (g := 6) (d := 99) rfl rfl fg ?_
                have f100 : ρ (.tmp 100) = .agg #[.int .i64 k2, .int .i64 l2, .slice A6 I2.length c6] := hpre 7 100 (by kernel_rfl)
                obtain ⟨A102, c102, f102, ho102⟩ := hpre 9 102 (by kernel_rfl)
                refine DoesU.call (f := 19) (args := #[.agg #[.int .i64 k2, .int .i64 l2, .slice A6 I2.length c6], .agg #[.int .i64 k2, .int .i64 l2, .slice A102 I2.length c102]]) (w' := W) (by simp [go_sem, hS.func, f100, f102]) ?_
                refine (same_any _ _ _ _ _ _ _ _ _ _ _ _ _ rfl rfl (H6w2.out.ext (E2.out.trans hx)) (At.of_own ho102) (by omega) (by omega)).mono ?_
                rw [same_self]
                rintro e w6 ⟨rfl, hx6⟩
                exact ⟨_, rfl, rfl, hx6⟩
              · intro ρ W hS hx hout hpre
                refine GSay.none rfl ?_
                have f99 : ρ (.tmp 99) = .bool true := hpre 6 99 (by kernel_rfl)
                have f103 : ρ (.tmp 103) = .bool true := hpre 10 103 (by kernel_rfl)
                exact DoesU.value (v := .bool true) (w' := W) (by simp [go_sem, f99, f103, hS.const]) ⟨rfl, Ext.refl _⟩
              · intro ρ W hS hx hout hpre
                refine GSay.none rfl ?_
                have f104 : ρ (.tmp 104) = .bool true := hpre 11 104 (by kernel_rfl)
                exact DoesU.value (v := .bool true) (w' := W) (by simp [go_sem, f104]) ⟨rfl, Ext.refl _⟩
              · intro ρ W hS hx hout hpre
                have fg : ρ (.tmp 105) = .bool true := hpre 12 105 (by kernel_rfl)
                refine GSay.on (g := 12) (d := 105) rfl rfl fg ?_
                have f16 : ρ (.tmp 16) = .int .i64 21 := hout 16 (by kernel_rfl)
                exact DoesU.value (v := .int .i64 21) (w' := W) (by simp [go_sem, f16]) ⟨rfl, Ext.refl _⟩
              · intro ρ W hS hx hout hpre
                have fg : ρ (.tmp 105) = .bool true := hpre 12 105 (by kernel_rfl)
                refine GSay.on (g := 12) (d := 105) rfl rfl fg ?_
                have f18 : ρ (.tmp 18) = .int .i64 21 := hout 18 (by kernel_rfl)
                exact DoesU.value (v := .int .i64 21) (w' := W) (by simp [go_sem, f18]) ⟨rfl, Ext.refl _⟩
              · intro ρ W hS hx hout hpre
                have fg : ρ (.tmp 105) = .bool true := hpre 12 105 (by kernel_rfl)
                refine GSay.on (g := 12) (d := 105) rfl rfl fg ?_
                have f106 : ρ (.tmp 106) = .int .i64 21 := hpre 13 106 (by kernel_rfl)
                have f107 : ρ (.tmp 107) = .int .i64 21 := hpre 14 107 (by kernel_rfl)
                exact DoesU.value (v := .bool true) (w' := W) (by simp [go_sem, f106, f107]) ⟨rfl, Ext.refl _⟩
              · intro ρ W hS hx hout hpre
                refine GSay.none rfl ?_
                have f105 : ρ (.tmp 105) = .bool true := hpre 12 105 (by kernel_rfl)
                have f108 : ρ (.tmp 108) = .bool true := hpre 15 108 (by kernel_rfl)
                exact DoesU.value (v := .bool true) (w' := W) (by simp [go_sem, f105, f108, hS.const]) ⟨rfl, Ext.refl _⟩
              · intro ρ W hS hx hout hpre
                refine GSay.none rfl ?_
                have f109 : ρ (.tmp 109) = .bool true := hpre 16 109 (by kernel_rfl)
                exact DoesU.value (v := .bool true) (w' := W) (by simp [go_sem, f109]) ⟨rfl, Ext.refl _⟩
              · intro ρ W hS hx hout hpre
                have fg : ρ (.tmp 110) = .bool true := hpre 17 110 (by kernel_rfl)
                refine GSay.on (g := 17) (d := 110) rfl rfl fg ?_
                have f15 : ρ (.tmp 15) = .pointer (some ⟨w8.heap.size, 0, none⟩) := hout 15 (by kernel_rfl)
                exact DoesU.value (v := .agg #[.int .i64 0, .int .i64 0, .slice A15 0 c15]) (w' := W) (by simp [go_sem, f15, (show W.cell? ⟨w8.heap.size, 0, none⟩ = some (.int .i64 0) from ((B15.out.ext hx)).cell 0), (show W.cell? ⟨w8.heap.size, 1, none⟩ = some (.int .i64 0) from ((B15.out.ext hx)).cell 1), (show W.cell? ⟨w8.heap.size, 2, none⟩ = some (.slice A15 0 c15) from ((B15.out.ext hx)).cell 2)]) ⟨rfl, Ext.refl _⟩
              · intro ρ W hS hx hout hpre
                have fg : ρ (.tmp 110) = .bool true := hpre 17 110 (by kernel_rfl)
                refine GSay.on (g := 17) (d := 110) rfl rfl fg ?_
                have f17 : ρ (.tmp 17) = .pointer (some ⟨w8.heap.size + 1, 0, none⟩) := hout 17 (by kernel_rfl)
                exact DoesU.value (v := .agg #[.int .i64 0, .int .i64 0, .slice none 0 0]) (w' := W) (by simp [go_sem, f17, (show W.cell? ⟨w8.heap.size + 1, 0, none⟩ = some (.int .i64 0) from ((B17.out.ext hx)).cell 0), (show W.cell? ⟨w8.heap.size + 1, 1, none⟩ = some (.int .i64 0) from ((B17.out.ext hx)).cell 1), (show W.cell? ⟨w8.heap.size + 1, 2, none⟩ = some (.slice none 0 0) from ((B17.out.ext hx)).cell 2)]) ⟨rfl, Ext.refl _⟩
              · intro ρ W hS hx hout hpre
                have fg : ρ (.tmp 110) = .bool true := hpre 17 110 (by kernel_rfl)
                refine GSay.on (g := 17) (d := 110) rfl rfl fg ?_
                have f111 : ρ (.tmp 111) = .agg #[.int .i64 0, .int .i64 0, .slice A15 0 c15] := hpre 18 111 (by kernel_rfl)
                have f112 : ρ (.tmp 112) = .agg #[.int .i64 0, .int .i64 0, .slice none 0 0] := hpre 19 112 (by kernel_rfl)
                refine DoesU.call (f := 19) (args := #[.agg #[.int .i64 0, .int .i64 0, .slice A15 0 c15], .agg #[.int .i64 0, .int .i64 0, .slice none 0 0]]) (w' := W) (by simp [go_sem, hS.func, f111, f112]) ?_
                refine (same_any _ _ _ _ _ [] _ _ _ _ _ [] _ rfl rfl (O15.out.ext hx) (At.nil _ _) (by simp) (by simp)).mono ?_
                rw [same_self]
                rintro e w6 ⟨rfl, hx6⟩
                exact ⟨_, rfl, rfl, hx6⟩
              · intro ρ W hS hx hout hpre
                refine GSay.none rfl ?_
                have f110 : ρ (.tmp 110) = .bool true := hpre 17 110 (by kernel_rfl)
                have f113 : ρ (.tmp 113) = .bool true := hpre 20 113 (by kernel_rfl)
                exact DoesU.value (v := .bool true) (w' := W) (by simp [go_sem, f110, f113, hS.const]) ⟨rfl, Ext.refl _⟩
              · intro ρ W hS hx hout hpre
                refine GSay.none rfl ?_
                have f114 : ρ (.tmp 114) = .bool true := hpre 21 114 (by kernel_rfl)
                exact DoesU.value (v := .bool true) (w' := W) (by simp [go_sem, f114]) ⟨rfl, Ext.refl _⟩
            intro vs w10 hl hD hx
            replace hl := hl.trans (show (idxU _).length = 23 by kernel_rfl)
            rcases vs with _ | ⟨v93, vs⟩; · simp at hl
            rcases vs with _ | ⟨v94, vs⟩; · simp at hl
            rcases vs with _ | ⟨v95, vs⟩; · simp at hl
            rcases vs with _ | ⟨v96, vs⟩; · simp at hl
            rcases vs with _ | ⟨v97, vs⟩; · simp at hl
            rcases vs with _ | ⟨v98, vs⟩; · simp at hl
            rcases vs with _ | ⟨v99, vs⟩; · simp at hl
            rcases vs with _ | ⟨v100, vs⟩; · simp at hl
            rcases vs with _ | ⟨v101, vs⟩; · simp at hl
            rcases vs with _ | ⟨v102, vs⟩; · simp at hl
            rcases vs with _ | ⟨v103, vs⟩; · simp at hl
            rcases vs with _ | ⟨v104, vs⟩; · simp at hl
            rcases vs with _ | ⟨v105, vs⟩; · simp at hl
            rcases vs with _ | ⟨v106, vs⟩; · simp at hl
            rcases vs with _ | ⟨v107, vs⟩; · simp at hl
            rcases vs with _ | ⟨v108, vs⟩; · simp at hl
            rcases vs with _ | ⟨v109, vs⟩; · simp at hl
            rcases vs with _ | ⟨v110, vs⟩; · simp at hl
            rcases vs with _ | ⟨v111, vs⟩; · simp at hl
            rcases vs with _ | ⟨v112, vs⟩; · simp at hl
            rcases vs with _ | ⟨v113, vs⟩; · simp at hl
            rcases vs with _ | ⟨v114, vs⟩; · simp at hl
            rcases vs with _ | ⟨v4, vs⟩; · simp at hl
            obtain rfl : vs = [] := List.eq_nil_of_length_eq_zero (by simpa using hl)
            clear hl
            obtain rfl : v93 = .bool true := hD 0 0 v93 (by kernel_rfl) rfl
            obtain rfl : v94 = .bool true := hD 1 1 v94 (by kernel_rfl) rfl
            obtain rfl : v95 = .int .i64 q := hD 2 2 v95 (by kernel_rfl) rfl
            obtain rfl : v96 = .int .i64 q := hD 3 3 v96 (by kernel_rfl) rfl
            obtain rfl : v97 = .bool true := hD 4 4 v97 (by kernel_rfl) rfl
            obtain rfl : v98 = .bool true := hD 5 5 v98 (by kernel_rfl) rfl
            obtain rfl : v99 = .bool true := hD 6 6 v99 (by kernel_rfl) rfl
            obtain rfl : v100 = .agg #[.int .i64 k2, .int .i64 l2, .slice A6 I2.length c6] := hD 7 7 v100 (by kernel_rfl) rfl
            obtain rfl : v101 = .agg #[.int .i64 kA, .int .i64 lA, .slice Aa sa.length ca] := hD 8 8 v101 (by kernel_rfl) rfl
            obtain ⟨A102, c102, rfl, ho102⟩ := hD 9 9 v102 (by kernel_rfl) rfl
            obtain rfl : v103 = .bool true := hD 10 10 v103 (by kernel_rfl) rfl
            obtain rfl : v104 = .bool true := hD 11 11 v104 (by kernel_rfl) rfl
            obtain rfl : v105 = .bool true := hD 12 12 v105 (by kernel_rfl) rfl
            obtain rfl : v106 = .int .i64 21 := hD 13 13 v106 (by kernel_rfl) rfl
            obtain rfl : v107 = .int .i64 21 := hD 14 14 v107 (by kernel_rfl) rfl
            obtain rfl : v108 = .bool true := hD 15 15 v108 (by kernel_rfl) rfl
            obtain rfl : v109 = .bool true := hD 16 16 v109 (by kernel_rfl) rfl
            obtain rfl : v110 = .bool true := hD 17 17 v110 (by kernel_rfl) rfl
            obtain rfl : v111 = .agg #[.int .i64 0, .int .i64 0, .slice A15 0 c15] := hD 18 18 v111 (by kernel_rfl) rfl
            obtain rfl : v112 = .agg #[.int .i64 0, .int .i64 0, .slice none 0 0] := hD 19 19 v112 (by kernel_rfl) rfl
            obtain rfl : v113 = .bool true := hD 20 20 v113 (by kernel_rfl) rfl
            obtain rfl : v114 = .bool true := hD 21 21 v114 (by kernel_rfl) rfl
            obtain rfl : v4 = .bool true := hD 22 22 v4 (by kernel_rfl) rfl
            clear hD
            rw [show dstsU _ = [93, 94, 95, 96, 97, 98, 99, 100, 101, 102, 103, 104, 105, 106, 107, 108, 109, 110, 111, 112, 113, 114, 4] by kernel_rfl]
            simp only [putAll, List.setIfInBounds_toArray, List.set_cons_succ, List.set_cons_zero]
            have XF := Lib.hid (X1.out.trans hx)
            clear hx
            go_wp2
            go_ret
            exact Ret1.bool rfl XF.out
end Go.Proofs.Ytkkldciofndedaa

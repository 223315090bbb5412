/- the walk of PageTorn. -/
import Derived.Test.YtkkldciofndedaaRead
import Derived.Test.YtkkldciofndedaaLawMade
import Derived.Test.YtkkldciofndedaaZeros
import Derived.Test.YtkkldciofndedaaPageRoom
import Derived.Test.YtkkldciofndedaaVo
namespace Go.Proofs.Ytkkldciofndedaa
open Go.RowKit
set_option linter.unusedVariables false

theorem putS_inj4 {a b : Int} (ha : 0 ≤ a ∧ a < 4294967296) (hb : 0 ≤ b ∧ b < 4294967296) (h : putS a 4 = putS b 4) : a = b := by
  have h1 := putS_num4 a ha.1 ha.2
  have h2 := putS_num4 b hb.1 hb.2
  rw [h] at h1
  omega
theorem ex_app_left (a b : ByteArray) (p q : Nat) (hq : q ≤ a.size) : (a ++ b).extract p q = a.extract p q := by
  apply bl_inj
  rw [bl_extract, bl_append, bl_extract]
  by_cases hp : p ≤ (bl a).length
  · rw [List.drop_append_of_le_length hp, List.take_append_of_le_length]
    rw [List.length_drop, bl_len]; omega
  · have h0 : q - p = 0 := by rw [bl_len] at hp; omega
    rw [h0]; simp
theorem ex_app_right (a b : ByteArray) (p q n : Nat) (hn : a.size = n) (hp : n ≤ p) : (a ++ b).extract p q = b.extract (p - n) (q - n) := by
  apply bl_inj
  rw [bl_extract, bl_append, bl_extract]
  rw [List.drop_append, List.drop_of_length_le (by rw [bl_len]; omega), List.nil_append, bl_len, hn]
  congr 1
  omega
theorem ex_ex (a : ByteArray) (p q r s : Nat) (h : s ≤ q - p) : (a.extract p q).extract r s = a.extract (p + r) (p + s) := by
  apply bl_inj
  simp only [bl_extract, List.drop_take, List.drop_drop, List.take_take]
  congr 1
  omega
theorem torn_parts {a b : ByteArray} (ha : a.size = 512) (hb : b.size = 512) : (a.extract 0 256 ++ b.extract 256 b.size).size = 512 ∧ (a.extract 0 256 ++ b.extract 256 b.size).extract 5 9 = a.extract 5 9 ∧ (a.extract 0 256 ++ b.extract 256 b.size).extract 508 512 = b.extract 508 512 := by
  have h1 : (a.extract 0 256).size = 256 := by rw [ByteArray.size_extract]; omega
  refine ⟨?_, ?_, ?_⟩
  · rw [ByteArray.size_append, h1, ByteArray.size_extract]; omega
  · rw [ex_app_left _ _ _ _ (by omega), ex_ex _ _ _ _ _ (by omega)]
  · rw [ex_app_right _ _ _ _ 256 h1 (by omega), hb, ex_ex _ _ _ _ _ (by omega)]
theorem right_parts4 {t p : ByteArray} (ht : t.size = 512) (hp : p.size = 4) : (p ++ t.extract 4 t.size).size = 512 ∧ (p ++ t.extract 4 t.size).extract 5 9 = t.extract 5 9 ∧ (p ++ t.extract 4 t.size).extract 508 512 = t.extract 508 512 := by
  refine ⟨?_, ?_, ?_⟩
  · rw [ByteArray.size_append, hp, ByteArray.size_extract]; omega
  · rw [ex_app_right _ _ _ _ 4 hp (by omega), ht, ex_ex _ _ _ _ _ (by omega)]
  · rw [ex_app_right _ _ _ _ 4 hp (by omega), ht, ex_ex _ _ _ _ _ (by omega)]
theorem readX_torn {t : ByteArray} (ht : t.size = 512) (h : t.extract 5 9 ≠ t.extract 508 512) : readX t = ((0, 0), ([], 12)) := readX_sum ht fun hh => h hh.2

set_option maxRecDepth 100000 in
set_option maxHeartbeats 8000000 in
theorem pagetorn_any (kA lA : Int) (A : Option Addr) (c : Nat) (sa : List ByteArray) (kB lB : Int) (B : Option Addr) (c' : Nat) (sb : List ByteArray) (w : World)
    (ha : At w A (sa.map Value.string)) (hla : sa.length ≤ 9223372036854775807) (hb : At w B (sb.map Value.string)) (hlb : sb.length ≤ 9223372036854775807) :
    Calls Try.prog 12 #[.agg #[.int .i64 kA, .int .i64 lA, .slice A sa.length c], .agg #[.int .i64 kB, .int .i64 lB, .slice B sb.length c']] w (Ret1 (.bool true) w) := by
  have HA := Lib.hid ha; clear ha
  have HB := Lib.hid hb; clear hb
  obtain ⟨k1, hk1⟩ : ∃ z, z = kindF kA := ⟨_, rfl⟩
  obtain ⟨l1, hl1⟩ : ∃ z, z = lsnF lA := ⟨_, rfl⟩
  obtain ⟨I1, hI1⟩ : ∃ z, z = mkL kA lA sa := ⟨_, rfl⟩
  have hr1 : rightB k1 l1 I1 = true := by rw [hk1, hl1, hI1]; exact mkL_right kA lA sa
  have HM1 := Lib.hid (show ∀ (w : World), At w A (sa.map Value.string) → Calls Try.prog 14 #[.agg #[.int .i64 kA, .int .i64 lA, .slice A sa.length c]] w (PgOne k1 l1 I1 w) by
    rw [hk1, hl1, hI1]; exact fun w h => lmade_any kA lA A _ c sa w rfl h hla)
  clear hk1 hl1 hI1
  have hl1 : I1.length ≤ 24 := (right_parts hr1).2.2.1.1
  have hL1 := (right_parts hr1).2.1
  have hT1 : 6 + sizeT (plainL I1) ≤ 504 := by have := (right_parts hr1).2.2.2; rw [sizeL] at this; omega
  have hsz1 := bytesF_size k1 l1 (plainL I1) hT1
  have hs51 := bytes_lsn_s k1 l1 (plainL I1)
  have hs81 := bytes_end k1 l1 (plainL I1) hT1
  have HR1 := Lib.hid hr1
  obtain ⟨S1, hS1⟩ : ∃ z, z = bytesF k1 l1 (plainL I1) := ⟨_, rfl⟩
  have BY1 := Lib.hid (show ∀ (A : Option Addr) (c : Nat) (w : World), At w A (I1.map Value.string) → Calls Try.prog 27 #[.agg #[.int .i64 k1, .int .i64 l1, .slice A I1.length c]] w (Ret1 (.tuple #[.string S1, .int .i64 0]) w) by
    rw [hS1]; exact fun A c w h => bytes_right k1 l1 A _ c I1 w rfl h HR1.out)
  rw [← hS1] at hsz1 hs51 hs81
  clear hS1 hr1 hT1
  obtain ⟨k2, hk2⟩ : ∃ z, z = kindF kB := ⟨_, rfl⟩
  obtain ⟨l2, hl2⟩ : ∃ z, z = lsnF lB := ⟨_, rfl⟩
  obtain ⟨I2, hI2⟩ : ∃ z, z = mkL kB lB sb := ⟨_, rfl⟩
  have hr2 : rightB k2 l2 I2 = true := by rw [hk2, hl2, hI2]; exact mkL_right kB lB sb
  have HM2 := Lib.hid (show ∀ (w : World), At w B (sb.map Value.string) → Calls Try.prog 14 #[.agg #[.int .i64 kB, .int .i64 lB, .slice B sb.length c']] w (PgOne k2 l2 I2 w) by
    rw [hk2, hl2, hI2]; exact fun w h => lmade_any kB lB B _ c' sb w rfl h hlb)
  clear hk2 hl2 hI2
  have hl2 : I2.length ≤ 24 := (right_parts hr2).2.2.1.1
  have hL2 := (right_parts hr2).2.1
  have hT2 : 6 + sizeT (plainL I2) ≤ 504 := by have := (right_parts hr2).2.2.2; rw [sizeL] at this; omega
  have hsz2 := bytesF_size k2 l2 (plainL I2) hT2
  have hs52 := bytes_lsn_s k2 l2 (plainL I2)
  have hs82 := bytes_end k2 l2 (plainL I2) hT2
  have HR2 := Lib.hid hr2
  obtain ⟨S2, hS2⟩ : ∃ z, z = bytesF k2 l2 (plainL I2) := ⟨_, rfl⟩
  have BY2 := Lib.hid (show ∀ (A : Option Addr) (c : Nat) (w : World), At w A (I2.map Value.string) → Calls Try.prog 27 #[.agg #[.int .i64 k2, .int .i64 l2, .slice A I2.length c]] w (Ret1 (.tuple #[.string S2, .int .i64 0]) w) by
    rw [hS2]; exact fun A c w h => bytes_right k2 l2 A _ c I2 w rfl h HR2.out)
  rw [← hS2] at hsz2 hs52 hs82
  clear hS2 hr2 hT2
  obtain ⟨T, hT⟩ : ∃ z, z = S1.extract 0 256 ++ S2.extract 256 S2.size := ⟨_, rfl⟩
  obtain ⟨t1, t2, t3⟩ := torn_parts hsz1 hsz2
  rw [← hT] at t1 t2 t3
  have hu := osum_any (T.extract 4 T.size)
  obtain ⟨U, hU⟩ : ∃ z, z = putS (sumF (T.extract 4 T.size)) 4 ++ T.extract 4 T.size := ⟨_, rfl⟩
  obtain ⟨u1, u2, u3⟩ := right_parts4 t1 (putS_size (sumF (T.extract 4 T.size)) 4 (by omega))
  rw [← hU] at u1 u2 u3
  have hXT : l1 ≠ l2 → (∀ (w : World), Calls Try.prog 37 #[.string T] w (PgPost 0 0 [] 12 w)) ∧ (∀ (w : World), Calls Try.prog 37 #[.string U] w (PgPost 0 0 [] 12 w)) := fun hne => by
    have hp : S1.extract 5 9 ≠ S2.extract 508 512 := by
      rw [hs51, hs82]
      exact fun e => hne (putS_inj4 ⟨hL1.1, by omega⟩ ⟨hL2.1, by omega⟩ e)
    have e1 := readX_torn t1 (by rw [t2, t3]; exact hp)
    have e2 := readX_torn u1 (by rw [u2, u3, t2, t3]; exact hp)
    refine ⟨fun w => ?_, fun w => ?_⟩
    · have h := read_any T w (by rw [t1]; decide)
      rw [e1] at h; exact h
    · have h := read_any U w (by rw [u1]; decide)
      rw [e2] at h; exact h
  have hRT : ∃ (k l : Int) (I : List ByteArray) (e : Int), ∀ (w : World), Calls Try.prog 37 #[.string T] w (PgPost k l I e w) := ⟨_, _, _, _, fun w => read_any T w (by rw [t1]; decide)⟩
  have hRU : ∃ (k l : Int) (I : List ByteArray) (e : Int), ∀ (w : World), Calls Try.prog 37 #[.string U] w (PgPost k l I e w) := ⟨_, _, _, _, fun w => read_any U w (by rw [u1]; decide)⟩
  have hsum : sumF (T.extract 4 T.size) < 4294967296 := sumF_lt _
  have HU := Lib.hid (fun (w : World) => osum_any (T.extract 4 T.size) w (by rw [ByteArray.size_extract]; omega))
  obtain ⟨q, hq⟩ : ∃ z, z = sumF (T.extract 4 T.size) := ⟨_, rfl⟩
  rw [← hq] at hU hsum HU
  have HP := Lib.hid (fun (w : World) => oput4_any (q : Int) w)
  have hps : (putS (q : Int) 4).size = 4 := putS_size _ 4 (by omega)
  have hx4 : (T.extract 4 T.size).size = 508 := by rw [ByteArray.size_extract]; omega
  have he1 : (S1.extract 0 256).size = 256 := by rw [ByteArray.size_extract]; omega
  have he2 : (S2.extract 256 S2.size).size = 256 := by rw [ByteArray.size_extract]; omega
  have HT := Lib.hid hT
  have HUU := Lib.hid hU
  clear hT hU hq hu t2 t3 u2 u3 hs51 hs52 hs81 hs82

  by_cases hne : l1 = l2
  · have heq := hne
    obtain ⟨kT, lT, IT, eT, hRT⟩ := hRT
    obtain ⟨kU, lU, IU, eU, hRU⟩ := hRU
    go_enter Try.func12, Try.ntmps12
    have hst0 := St.start w
    refine wp_seq ?_
    refine wp_region_V (by kernel_rfl) [0, 0, 0] [[], [], []] [[0], [1], []] [[], [], []] (fun ix σ β X => match ix with | 0 => σ 2 = .pointer (some ⟨(pb (β 2)), 0, none⟩) ∧ X 0 = eB (pb (β 2)) 24 #[.int .i64 kA, .int .i64 lA, .slice A sa.length c] | 1 => σ 3 = .pointer (some ⟨(pb (β 3)), 0, none⟩) ∧ X 1 = eB (pb (β 3)) 24 #[.int .i64 kB, .int .i64 lB, .slice B sb.length (c')] | 2 => σ 4 = .bool false | _ => True) [0, 1] (by kernel_rfl) (by kernel_rfl) (by kernel_rfl) (by kernel_rfl) ?_ hst0 ?_ ?_
    · intro ix σ σ' β β' X X' hs hb hx h
      match ix, hs, hb, hx, h with
      | 0, hs, hb, hx, h => rw [← hs 2 (by kernel_rfl), ← hb 2 (by kernel_rfl), ← hx 0 (by kernel_rfl)]; exact h
      | 1, hs, hb, hx, h => rw [← hs 3 (by kernel_rfl), ← hb 3 (by kernel_rfl), ← hx 1 (by kernel_rfl)]; exact h
      | 2, hs, hb, hx, h => rw [← hs 4 (by kernel_rfl)]; exact h
      | _ + 3, _, _, _, _ => trivial
    · refine ⟨⟨⟨trivial, ?_⟩, ?_⟩, ?_⟩
      · refine sv_any rfl rfl fun ρ β W X cx => ?_
        have fF0 : ρ (.tmp 0) = .agg #[.int .i64 kA, .int .i64 lA, .slice A sa.length c] := cx.out 0 (by kernel_rfl)
        exact dv_box (cs := #[.int .i64 kA, .int .i64 lA, .slice A sa.length c]) rfl fF0 rfl rfl rfl (fun σ β' X' hs hb hv hx => ⟨hv, hx⟩)
      · refine sv_any rfl rfl fun ρ β W X cx => ?_
        have fF1 : ρ (.tmp 1) = .agg #[.int .i64 kB, .int .i64 lB, .slice B sb.length (c')] := cx.out 1 (by kernel_rfl)
        exact dv_box (cs := #[.int .i64 kB, .int .i64 lB, .slice B sb.length (c')]) rfl fF1 rfl rfl rfl (fun σ β' X' hs hb hv hx => ⟨hv, hx⟩)
      · refine sv rfl rfl rfl rfl rfl (fun β => .bool false) (fun _ _ _ h => h) (fun _ _ _ => rfl) fun ρ β W X cx => ?_
        exact run_assign' rfl (cx.sees.const _)
    intro σ β X W1 hD hX hst1q fr hfr
    obtain ⟨B2_1, hu_B2_1⟩ : ∃ z, pb (β 2) = z := ⟨_, rfl⟩
    obtain ⟨B3_1, hu_B3_1⟩ : ∃ z, pb (β 3) = z := ⟨_, rfl⟩
    have dD2 : σ 2 = .pointer (some ⟨B2_1, 0, none⟩) := by rw [← hu_B2_1]; exact (hD 0 (Nat.le_of_ble_eq_true rfl)).1
    have dD3 : σ 3 = .pointer (some ⟨B3_1, 0, none⟩) := by rw [← hu_B3_1]; exact (hD 1 (Nat.le_of_ble_eq_true rfl)).1
    have dD4 : σ 4 = .bool false := (hD 2 (Nat.le_of_ble_eq_true rfl))
    have xX0 : X 0 = eB B2_1 24 #[.int .i64 kA, .int .i64 lA, .slice A sa.length c] := by rw [← hu_B2_1]; exact (hD 0 (Nat.le_of_ble_eq_true rfl)).2
    have xX1 : X 1 = eB B3_1 24 #[.int .i64 kB, .int .i64 lB, .slice B sb.length (c')] := by rw [← hu_B3_1]; exact (hD 1 (Nat.le_of_ble_eq_true rfl)).2
    have hst1 : St w [] [eB B2_1 24 #[.int .i64 kA, .int .i64 lA, .slice A sa.length c], eB B3_1 24 #[.int .i64 kB, .int .i64 lB, .slice B sb.length (c')]] W1 := by
      have h := hst1q
      simp only [List.map_cons, List.map_nil, xX0, xX1] at h
      exact h
    have hfr2 : fr = #[.agg #[.int .i64 kA, .int .i64 lA, .slice A sa.length c], .agg #[.int .i64 kB, .int .i64 lB, .slice B sb.length (c')], .pointer (some ⟨B2_1, 0, none⟩), .pointer (some ⟨B3_1, 0, none⟩), .bool false, undef, undef, undef, undef, undef, undef, undef, undef, undef, undef, undef, undef, undef, undef, undef, undef, undef, undef, undef, undef, undef, undef, undef, undef, undef, undef, undef, undef, undef, undef, undef, undef, undef, undef, undef, undef, undef, undef, undef, undef, undef, undef, undef, undef, undef, undef, undef, undef, undef, undef, undef, undef, undef, undef, undef, undef, undef, undef, undef, undef, undef, undef, undef, undef, undef, undef, undef, undef, undef, undef, undef, undef, undef, undef, undef, undef, undef, undef, undef, undef, undef, undef] := hfr.trans (by rw [show dstsU _ = [2, 3, 4] by kernel_rfl]; simp only [List.map_cons, List.map_nil, putAll, List.setIfInBounds_toArray, List.set_cons_succ, List.set_cons_zero, dD2, dD3, dD4])
    clear hfr hX hD hst1q dD2 dD3 dD4 xX0 xX1 hu_B2_1 hu_B3_1
    subst hfr2
    clear σ β X
    refine then_normal ?_
    refine wp_seq ?_
    refine wp_region_V (by kernel_rfl) [0, 1] [[], []] [[], []] [[], []] (fun ix σ β X => match ix with | 0 => σ 18 = .bool true | 1 => σ 5 = .bool true | _ => True) [0, 1] (by kernel_rfl) (by kernel_rfl) (by kernel_rfl) (by kernel_rfl) ?_ hst1 ?_ ?_
    · intro ix σ σ' β β' X X' hs hb hx h
      match ix, hs, hb, hx, h with
      | 0, hs, hb, hx, h => rw [← hs 18 (by kernel_rfl)]; exact h
      | 1, hs, hb, hx, h => rw [← hs 5 (by kernel_rfl)]; exact h
      | _ + 2, _, _, _, _ => trivial
    · refine ⟨⟨trivial, ?_⟩, ?_⟩
      · refine sv_any rfl rfl fun ρ β W X cx => ?_
        refine DoesU.call (run_callF (args := #[]) rfl cx.sees rfl (by kernel_rfl) (by simp only [List.map_toArray, List.map_cons, List.map_nil])) ?_
        refine (sanity_any _).mono ?_
        rintro e W1 ⟨rfl, hx⟩
        refine ⟨_, rfl, post_call [] rfl rfl hx (by simp) List.Pairwise.nil (fun σ β' X' hs hb hv hN => ?_)⟩
        have hv1 := (hv 18 rfl).1; have hv2 := (hv 18 rfl).2
        exact hv1.trans rfl
      · refine sv rfl rfl rfl rfl rfl (fun β => .bool true) (fun _ _ _ h => h) (fun _ _ _ => rfl) fun ρ β W X cx => ?_
        have fF18 : ρ (.tmp 18) = .bool true := (cx.anc 0 (by kernel_rfl))
        exact run_assign' rfl fF18
    intro σ β X W2 hD hX hst2q fr hfr
    have dD18 : σ 18 = .bool true := (hD 0 (Nat.le_of_ble_eq_true rfl))
    have dD5 : σ 5 = .bool true := (hD 1 (Nat.le_of_ble_eq_true rfl))
    have xX0 : X 0 = eB B2_1 24 #[.int .i64 kA, .int .i64 lA, .slice A sa.length c] := hX 0 _ rfl
    have xX1 : X 1 = eB B3_1 24 #[.int .i64 kB, .int .i64 lB, .slice B sb.length (c')] := hX 1 _ rfl
    have hst2 : St w [] [eB B2_1 24 #[.int .i64 kA, .int .i64 lA, .slice A sa.length c], eB B3_1 24 #[.int .i64 kB, .int .i64 lB, .slice B sb.length (c')]] W2 := by
      have h := hst2q
      simp only [List.map_cons, List.map_nil, xX0, xX1] at h
      exact h
    have hfr2 : fr = #[.agg #[.int .i64 kA, .int .i64 lA, .slice A sa.length c], .agg #[.int .i64 kB, .int .i64 lB, .slice B sb.length (c')], .pointer (some ⟨B2_1, 0, none⟩), .pointer (some ⟨B3_1, 0, none⟩), .bool false, .bool true, undef, undef, undef, undef, undef, undef, undef, undef, undef, undef, undef, undef, .bool true, undef, undef, undef, undef, undef, undef, undef, undef, undef, undef, undef, undef, undef, undef, undef, undef, undef, undef, undef, undef, undef, undef, undef, undef, undef, undef, undef, undef, undef, undef, undef, undef, undef, undef, undef, undef, undef, undef, undef, undef, undef, undef, undef, undef, undef, undef, undef, undef, undef, undef, undef, undef, undef, undef, undef, undef, undef, undef, undef, undef, undef, undef, undef, undef, undef, undef, undef, undef] := hfr.trans (by rw [show dstsU _ = [18, 5] by kernel_rfl]; simp only [List.map_cons, List.map_nil, putAll, List.setIfInBounds_toArray, List.set_cons_succ, List.set_cons_zero, dD18, dD5])
    clear hfr hX hD hst2q dD18 dD5 xX0 xX1
    subst hfr2
    clear σ β X
    refine then_normal ?_
    refine wp_seq ?_
    refine wp_region_V (by kernel_rfl) [0, 1, 0, 7] [[0], [], [], [3]] [[], [2], [3], [4]] [[], [], [], [3]] (fun ix σ β X => match ix with | 0 => σ 19 = .agg #[.int .i64 kA, .int .i64 lA, .slice A sa.length c] | 1 => σ 20 = .agg #[.int .i64 k1, .int .i64 l1, .slice (sA (tg (β 20) 2)) I1.length (sC (tg (β 20) 2))] ∧ X 2 = eO 9 1 (.slice (sA (tg (β 20) 2)) I1.length (sC (tg (β 20) 2))) I1.length (I1.map Value.string) | 2 => σ 6 = .pointer (some ⟨(pb (β 6)), 0, none⟩) ∧ X 3 = eB (pb (β 6)) 26 #[.int .i64 0, .int .i64 0, .slice none 0 0] | 3 => X 4 = eB (pb (β 6)) 26 #[.int .i64 k1, .int .i64 l1, .slice (sA (tg (β 20) 2)) I1.length (sC (tg (β 20) 2))] | _ => True) [0, 1, 2, 4] (by kernel_rfl) (by kernel_rfl) (by kernel_rfl) (by kernel_rfl) ?_ hst2 ?_ ?_
    · intro ix σ σ' β β' X X' hs hb hx h
      match ix, hs, hb, hx, h with
      | 0, hs, hb, hx, h => rw [← hs 19 (by kernel_rfl)]; exact h
      | 1, hs, hb, hx, h => rw [← hs 20 (by kernel_rfl), ← hb 20 (by kernel_rfl), ← hx 2 (by kernel_rfl)]; exact h
      | 2, hs, hb, hx, h => rw [← hs 6 (by kernel_rfl), ← hb 6 (by kernel_rfl), ← hx 3 (by kernel_rfl)]; exact h
      | 3, hs, hb, hx, h => rw [← hb 6 (by kernel_rfl), ← hb 20 (by kernel_rfl), ← hx 4 (by kernel_rfl)]; exact h
      | _ + 4, _, _, _, _ => trivial
    · refine ⟨⟨⟨⟨trivial, ?_⟩, ?_⟩, ?_⟩, ?_⟩
      · refine sv rfl rfl rfl rfl rfl (fun β => .agg #[.int .i64 kA, .int .i64 lA, .slice A sa.length c]) (fun _ _ _ h => h) (fun _ _ _ => rfl) fun ρ β W X cx => ?_
        have fF2 : ρ (.tmp 2) = .pointer (some ⟨B2_1, 0, none⟩) := cx.out 2 (by kernel_rfl)
        have xX0 : X 0 = eB B2_1 24 #[.int .i64 kA, .int .i64 lA, .slice A sa.length c] := cx.init 0 _ rfl
        have kK0 : Blk W B2_1 24 #[.int .i64 kA, .int .i64 lA, .slice A sa.length c] := by have h := (cx.ok 0 rfl).holds; rw [xX0] at h; exact h
        exact run_loadB (n := 3) rfl (by kernel_rfl) (by kernel_rfl) fF2 kK0 (Nat.le_of_ble_eq_true rfl) rfl
      · refine sv_any rfl rfl fun ρ β W X cx => ?_
        have fF19 : ρ (.tmp 19) = .agg #[.int .i64 kA, .int .i64 lA, .slice A sa.length c] := (cx.anc 0 (by kernel_rfl))
        refine DoesU.call (run_callF (args := #[.agg #[.int .i64 kA, .int .i64 lA, .slice A sa.length c]]) rfl cx.sees rfl (by kernel_rfl) (by simp only [List.map_toArray, List.map_cons, List.map_nil, fF19])) ?_
        refine (HM1.out _ (HA.out.ext cx.upd.to_ext)).mono ?_
        rintro e W1 ⟨A4, c4, rfl, ho, hx⟩
        refine ⟨_, rfl, post_call [eO 9 1 (.slice A4 I1.length c4) I1.length (I1.map Value.string)] rfl rfl hx (one_new (eO_new ho)) (List.pairwise_singleton _ _) (fun σ β' X' hs hb hv hN => ?_)⟩
        have hv1 := (hv 20 rfl).1; have hv2 := (hv 20 rfl).2
        exact ⟨hv1.trans (by rw [hv2]; rfl), (by rw [hv2]; exact (List.cons.inj hN).1)⟩
      · refine sv_any rfl rfl fun ρ β W X cx => ?_
        exact dv_alloc (cs := #[.int .i64 0, .int .i64 0, .slice none 0 0]) rfl (by kernel_rfl) rfl rfl (fun σ β' X' hs hb hv hx => ⟨hv, hx⟩)
      · refine sv_any rfl rfl fun ρ β W X cx => ?_
        have fF6 : ρ (.tmp 6) = .pointer (some ⟨(pb (β 6)), 0, none⟩) := (cx.anc 2 (by kernel_rfl)).1
        have fF20 : ρ (.tmp 20) = .agg #[.int .i64 k1, .int .i64 l1, .slice (sA (tg (β 20) 2)) I1.length (sC (tg (β 20) 2))] := (cx.anc 1 (by kernel_rfl)).1
        have xX3 : X 3 = eB (pb (β 6)) 26 #[.int .i64 0, .int .i64 0, .slice none 0 0] := (cx.anc 2 (by kernel_rfl)).2
        exact dv_store (n := 3) rfl fF6 fF20 (by kernel_rfl) rfl rfl cx xX3 rfl (Nat.le_of_ble_eq_true rfl) rfl rfl rfl rfl (fun σ β' X' hs hb hx => by rw [hb 6, hb 20]; exact hx)
    intro σ β X W3 hD hX hst3q fr hfr
    obtain ⟨A20_3, hu_A20_3⟩ : ∃ z, sA (tg (β 20) 2) = z := ⟨_, rfl⟩
    obtain ⟨c20_3, hu_c20_3⟩ : ∃ z, sC (tg (β 20) 2) = z := ⟨_, rfl⟩
    obtain ⟨B6_3, hu_B6_3⟩ : ∃ z, pb (β 6) = z := ⟨_, rfl⟩
    have dD19 : σ 19 = .agg #[.int .i64 kA, .int .i64 lA, .slice A sa.length c] := (hD 0 (Nat.le_of_ble_eq_true rfl))
    have dD20 : σ 20 = .agg #[.int .i64 k1, .int .i64 l1, .slice A20_3 I1.length c20_3] := by rw [← hu_A20_3, ← hu_c20_3]; exact (hD 1 (Nat.le_of_ble_eq_true rfl)).1
    have dD6 : σ 6 = .pointer (some ⟨B6_3, 0, none⟩) := by rw [← hu_B6_3]; exact (hD 2 (Nat.le_of_ble_eq_true rfl)).1
    have xX0 : X 0 = eB B2_1 24 #[.int .i64 kA, .int .i64 lA, .slice A sa.length c] := hX 0 _ rfl
    have xX1 : X 1 = eB B3_1 24 #[.int .i64 kB, .int .i64 lB, .slice B sb.length (c')] := hX 1 _ rfl
    have xX2 : X 2 = eO 9 1 (.slice A20_3 I1.length c20_3) I1.length (I1.map Value.string) := by rw [← hu_A20_3, ← hu_c20_3]; exact (hD 1 (Nat.le_of_ble_eq_true rfl)).2
    have xX4 : X 4 = eB B6_3 26 #[.int .i64 k1, .int .i64 l1, .slice A20_3 I1.length c20_3] := by rw [← hu_A20_3, ← hu_c20_3, ← hu_B6_3]; exact (hD 3 (Nat.le_of_ble_eq_true rfl))
    have hst3 : St w [] [eB B2_1 24 #[.int .i64 kA, .int .i64 lA, .slice A sa.length c], eB B3_1 24 #[.int .i64 kB, .int .i64 lB, .slice B sb.length (c')], eO 9 1 (.slice A20_3 I1.length c20_3) I1.length (I1.map Value.string), eB B6_3 26 #[.int .i64 k1, .int .i64 l1, .slice A20_3 I1.length c20_3]] W3 := by
      have h := hst3q
      simp only [List.map_cons, List.map_nil, xX0, xX1, xX2, xX4] at h
      exact h
    have hfr2 : fr = #[.agg #[.int .i64 kA, .int .i64 lA, .slice A sa.length c], .agg #[.int .i64 kB, .int .i64 lB, .slice B sb.length (c')], .pointer (some ⟨B2_1, 0, none⟩), .pointer (some ⟨B3_1, 0, none⟩), .bool false, .bool true, .pointer (some ⟨B6_3, 0, none⟩), undef, undef, undef, undef, undef, undef, undef, undef, undef, undef, undef, .bool true, .agg #[.int .i64 kA, .int .i64 lA, .slice A sa.length c], .agg #[.int .i64 k1, .int .i64 l1, .slice A20_3 I1.length c20_3], undef, undef, undef, undef, undef, undef, undef, undef, undef, undef, undef, undef, undef, undef, undef, undef, undef, undef, undef, undef, undef, undef, undef, undef, undef, undef, undef, undef, undef, undef, undef, undef, undef, undef, undef, undef, undef, undef, undef, undef, undef, undef, undef, undef, undef, undef, undef, undef, undef, undef, undef, undef, undef, undef, undef, undef, undef, undef, undef, undef, undef, undef, undef, undef, undef, undef] := hfr.trans (by rw [show dstsU _ = [19, 20, 6] by kernel_rfl]; simp only [List.map_cons, List.map_nil, putAll, List.setIfInBounds_toArray, List.set_cons_succ, List.set_cons_zero, dD19, dD20, dD6])
    clear hfr hX hD hst3q dD19 dD20 dD6 xX0 xX1 xX2 xX4 hu_A20_3 hu_c20_3 hu_B6_3
    subst hfr2
    clear σ β X
    refine then_normal ?_
    refine wp_seq ?_
    refine wp_region_V (by kernel_rfl) [0, 1, 0, 7] [[1], [], [], [5]] [[], [4], [5], [6]] [[], [], [], [5]] (fun ix σ β X => match ix with | 0 => σ 21 = .agg #[.int .i64 kB, .int .i64 lB, .slice B sb.length (c')] | 1 => σ 22 = .agg #[.int .i64 k2, .int .i64 l2, .slice (sA (tg (β 22) 2)) I2.length (sC (tg (β 22) 2))] ∧ X 4 = eO 9 1 (.slice (sA (tg (β 22) 2)) I2.length (sC (tg (β 22) 2))) I2.length (I2.map Value.string) | 2 => σ 7 = .pointer (some ⟨(pb (β 7)), 0, none⟩) ∧ X 5 = eB (pb (β 7)) 26 #[.int .i64 0, .int .i64 0, .slice none 0 0] | 3 => X 6 = eB (pb (β 7)) 26 #[.int .i64 k2, .int .i64 l2, .slice (sA (tg (β 22) 2)) I2.length (sC (tg (β 22) 2))] | _ => True) [0, 1, 2, 3, 4, 6] (by kernel_rfl) (by kernel_rfl) (by kernel_rfl) (by kernel_rfl) ?_ hst3 ?_ ?_
    · intro ix σ σ' β β' X X' hs hb hx h
      match ix, hs, hb, hx, h with
      | 0, hs, hb, hx, h => rw [← hs 21 (by kernel_rfl)]; exact h
      | 1, hs, hb, hx, h => rw [← hs 22 (by kernel_rfl), ← hb 22 (by kernel_rfl), ← hx 4 (by kernel_rfl)]; exact h
      | 2, hs, hb, hx, h => rw [← hs 7 (by kernel_rfl), ← hb 7 (by kernel_rfl), ← hx 5 (by kernel_rfl)]; exact h
      | 3, hs, hb, hx, h => rw [← hb 7 (by kernel_rfl), ← hb 22 (by kernel_rfl), ← hx 6 (by kernel_rfl)]; exact h
      | _ + 4, _, _, _, _ => trivial
    · refine ⟨⟨⟨⟨trivial, ?_⟩, ?_⟩, ?_⟩, ?_⟩
      · refine sv rfl rfl rfl rfl rfl (fun β => .agg #[.int .i64 kB, .int .i64 lB, .slice B sb.length (c')]) (fun _ _ _ h => h) (fun _ _ _ => rfl) fun ρ β W X cx => ?_
        have fF3 : ρ (.tmp 3) = .pointer (some ⟨B3_1, 0, none⟩) := cx.out 3 (by kernel_rfl)
        have xX1 : X 1 = eB B3_1 24 #[.int .i64 kB, .int .i64 lB, .slice B sb.length (c')] := cx.init 1 _ rfl
        have kK1 : Blk W B3_1 24 #[.int .i64 kB, .int .i64 lB, .slice B sb.length (c')] := by have h := (cx.ok 1 rfl).holds; rw [xX1] at h; exact h
        exact run_loadB (n := 3) rfl (by kernel_rfl) (by kernel_rfl) fF3 kK1 (Nat.le_of_ble_eq_true rfl) rfl
      · refine sv_any rfl rfl fun ρ β W X cx => ?_
        have fF21 : ρ (.tmp 21) = .agg #[.int .i64 kB, .int .i64 lB, .slice B sb.length (c')] := (cx.anc 0 (by kernel_rfl))
        refine DoesU.call (run_callF (args := #[.agg #[.int .i64 kB, .int .i64 lB, .slice B sb.length (c')]]) rfl cx.sees rfl (by kernel_rfl) (by simp only [List.map_toArray, List.map_cons, List.map_nil, fF21])) ?_
        refine (HM2.out _ (HB.out.ext cx.upd.to_ext)).mono ?_
        rintro e W1 ⟨A4, c4, rfl, ho, hx⟩
        refine ⟨_, rfl, post_call [eO 9 1 (.slice A4 I2.length c4) I2.length (I2.map Value.string)] rfl rfl hx (one_new (eO_new ho)) (List.pairwise_singleton _ _) (fun σ β' X' hs hb hv hN => ?_)⟩
        have hv1 := (hv 22 rfl).1; have hv2 := (hv 22 rfl).2
        exact ⟨hv1.trans (by rw [hv2]; rfl), (by rw [hv2]; exact (List.cons.inj hN).1)⟩
      · refine sv_any rfl rfl fun ρ β W X cx => ?_
        exact dv_alloc (cs := #[.int .i64 0, .int .i64 0, .slice none 0 0]) rfl (by kernel_rfl) rfl rfl (fun σ β' X' hs hb hv hx => ⟨hv, hx⟩)
      · refine sv_any rfl rfl fun ρ β W X cx => ?_
        have fF7 : ρ (.tmp 7) = .pointer (some ⟨(pb (β 7)), 0, none⟩) := (cx.anc 2 (by kernel_rfl)).1
        have fF22 : ρ (.tmp 22) = .agg #[.int .i64 k2, .int .i64 l2, .slice (sA (tg (β 22) 2)) I2.length (sC (tg (β 22) 2))] := (cx.anc 1 (by kernel_rfl)).1
        have xX5 : X 5 = eB (pb (β 7)) 26 #[.int .i64 0, .int .i64 0, .slice none 0 0] := (cx.anc 2 (by kernel_rfl)).2
        exact dv_store (n := 3) rfl fF7 fF22 (by kernel_rfl) rfl rfl cx xX5 rfl (Nat.le_of_ble_eq_true rfl) rfl rfl rfl rfl (fun σ β' X' hs hb hx => by rw [hb 7, hb 22]; exact hx)
    intro σ β X W4 hD hX hst4q fr hfr
    obtain ⟨A22_4, hu_A22_4⟩ : ∃ z, sA (tg (β 22) 2) = z := ⟨_, rfl⟩
    obtain ⟨c22_4, hu_c22_4⟩ : ∃ z, sC (tg (β 22) 2) = z := ⟨_, rfl⟩
    obtain ⟨B7_4, hu_B7_4⟩ : ∃ z, pb (β 7) = z := ⟨_, rfl⟩
    have dD21 : σ 21 = .agg #[.int .i64 kB, .int .i64 lB, .slice B sb.length (c')] := (hD 0 (Nat.le_of_ble_eq_true rfl))
    have dD22 : σ 22 = .agg #[.int .i64 k2, .int .i64 l2, .slice A22_4 I2.length c22_4] := by rw [← hu_A22_4, ← hu_c22_4]; exact (hD 1 (Nat.le_of_ble_eq_true rfl)).1
    have dD7 : σ 7 = .pointer (some ⟨B7_4, 0, none⟩) := by rw [← hu_B7_4]; exact (hD 2 (Nat.le_of_ble_eq_true rfl)).1
    have xX0 : X 0 = eB B2_1 24 #[.int .i64 kA, .int .i64 lA, .slice A sa.length c] := hX 0 _ rfl
    have xX1 : X 1 = eB B3_1 24 #[.int .i64 kB, .int .i64 lB, .slice B sb.length (c')] := hX 1 _ rfl
    have xX2 : X 2 = eO 9 1 (.slice A20_3 I1.length c20_3) I1.length (I1.map Value.string) := hX 2 _ rfl
    have xX3 : X 3 = eB B6_3 26 #[.int .i64 k1, .int .i64 l1, .slice A20_3 I1.length c20_3] := hX 3 _ rfl
    have xX4 : X 4 = eO 9 1 (.slice A22_4 I2.length c22_4) I2.length (I2.map Value.string) := by rw [← hu_A22_4, ← hu_c22_4]; exact (hD 1 (Nat.le_of_ble_eq_true rfl)).2
    have xX6 : X 6 = eB B7_4 26 #[.int .i64 k2, .int .i64 l2, .slice A22_4 I2.length c22_4] := by rw [← hu_A22_4, ← hu_c22_4, ← hu_B7_4]; exact (hD 3 (Nat.le_of_ble_eq_true rfl))
    have hst4 : St w [] [eB B2_1 24 #[.int .i64 kA, .int .i64 lA, .slice A sa.length c], eB B3_1 24 #[.int .i64 kB, .int .i64 lB, .slice B sb.length (c')], eO 9 1 (.slice A20_3 I1.length c20_3) I1.length (I1.map Value.string), eB B6_3 26 #[.int .i64 k1, .int .i64 l1, .slice A20_3 I1.length c20_3], eO 9 1 (.slice A22_4 I2.length c22_4) I2.length (I2.map Value.string), eB B7_4 26 #[.int .i64 k2, .int .i64 l2, .slice A22_4 I2.length c22_4]] W4 := by
      have h := hst4q
      simp only [List.map_cons, List.map_nil, xX0, xX1, xX2, xX3, xX4, xX6] at h
      exact h
    have hfr2 : fr = #[.agg #[.int .i64 kA, .int .i64 lA, .slice A sa.length c], .agg #[.int .i64 kB, .int .i64 lB, .slice B sb.length (c')], .pointer (some ⟨B2_1, 0, none⟩), .pointer (some ⟨B3_1, 0, none⟩), .bool false, .bool true, .pointer (some ⟨B6_3, 0, none⟩), .pointer (some ⟨B7_4, 0, none⟩), undef, undef, undef, undef, undef, undef, undef, undef, undef, undef, .bool true, .agg #[.int .i64 kA, .int .i64 lA, .slice A sa.length c], .agg #[.int .i64 k1, .int .i64 l1, .slice A20_3 I1.length c20_3], .agg #[.int .i64 kB, .int .i64 lB, .slice B sb.length (c')], .agg #[.int .i64 k2, .int .i64 l2, .slice A22_4 I2.length c22_4], undef, undef, undef, undef, undef, undef, undef, undef, undef, undef, undef, undef, undef, undef, undef, undef, undef, undef, undef, undef, undef, undef, undef, undef, undef, undef, undef, undef, undef, undef, undef, undef, undef, undef, undef, undef, undef, undef, undef, undef, undef, undef, undef, undef, undef, undef, undef, undef, undef, undef, undef, undef, undef, undef, undef, undef, undef, undef, undef, undef, undef, undef, undef, undef] := hfr.trans (by rw [show dstsU _ = [21, 22, 7] by kernel_rfl]; simp only [List.map_cons, List.map_nil, putAll, List.setIfInBounds_toArray, List.set_cons_succ, List.set_cons_zero, dD21, dD22, dD7])
    clear hfr hX hD hst4q dD21 dD22 dD7 xX0 xX1 xX2 xX3 xX4 xX6 hu_A22_4 hu_c22_4 hu_B7_4
    subst hfr2
    clear σ β X
    refine then_normal ?_
    refine wp_seq ?_
    refine wp_region_V (by kernel_rfl) [0, 1, 3, 7, 7, 15, 63] [[3], [2], [], [], [], [], []] [[], [], [], [], [], [], []] [[], [], [], [], [], [], []] (fun ix σ β X => match ix with | 0 => σ 24 = .agg #[.int .i64 k1, .int .i64 l1, .slice A20_3 I1.length c20_3] | 1 => σ 25 = .tuple #[.string S1, .int .i64 0] | 2 => σ 23 = .tuple #[.string S1, .int .i64 0] | 3 => σ 26 = .string S1 | 4 => σ 27 = .int .i64 0 | 5 => σ 8 = .string S1 | 6 => σ 9 = .int .i64 0 | _ => True) [0, 1, 2, 3, 4, 5] (by kernel_rfl) (by kernel_rfl) (by kernel_rfl) (by kernel_rfl) ?_ hst4 ?_ ?_
    · intro ix σ σ' β β' X X' hs hb hx h
      match ix, hs, hb, hx, h with
      | 0, hs, hb, hx, h => rw [← hs 24 (by kernel_rfl)]; exact h
      | 1, hs, hb, hx, h => rw [← hs 25 (by kernel_rfl)]; exact h
      | 2, hs, hb, hx, h => rw [← hs 23 (by kernel_rfl)]; exact h
      | 3, hs, hb, hx, h => rw [← hs 26 (by kernel_rfl)]; exact h
      | 4, hs, hb, hx, h => rw [← hs 27 (by kernel_rfl)]; exact h
      | 5, hs, hb, hx, h => rw [← hs 8 (by kernel_rfl)]; exact h
      | 6, hs, hb, hx, h => rw [← hs 9 (by kernel_rfl)]; exact h
      | _ + 7, _, _, _, _ => trivial
    · refine ⟨⟨⟨⟨⟨⟨⟨trivial, ?_⟩, ?_⟩, ?_⟩, ?_⟩, ?_⟩, ?_⟩, ?_⟩
      · refine sv rfl rfl rfl rfl rfl (fun β => .agg #[.int .i64 k1, .int .i64 l1, .slice A20_3 I1.length c20_3]) (fun _ _ _ h => h) (fun _ _ _ => rfl) fun ρ β W X cx => ?_
        have fF6 : ρ (.tmp 6) = .pointer (some ⟨B6_3, 0, none⟩) := cx.out 6 (by kernel_rfl)
        have xX3 : X 3 = eB B6_3 26 #[.int .i64 k1, .int .i64 l1, .slice A20_3 I1.length c20_3] := cx.init 3 _ rfl
        have kK3 : Blk W B6_3 26 #[.int .i64 k1, .int .i64 l1, .slice A20_3 I1.length c20_3] := by have h := (cx.ok 3 rfl).holds; rw [xX3] at h; exact h
        exact run_loadB (n := 3) rfl (by kernel_rfl) (by kernel_rfl) fF6 kK3 (Nat.le_of_ble_eq_true rfl) rfl
      · refine sv_any rfl rfl fun ρ β W X cx => ?_
        have fF24 : ρ (.tmp 24) = .agg #[.int .i64 k1, .int .i64 l1, .slice A20_3 I1.length c20_3] := (cx.anc 0 (by kernel_rfl))
        have xX2 : X 2 = eO 9 1 (.slice A20_3 I1.length c20_3) I1.length (I1.map Value.string) := cx.init 2 _ rfl
        have kK2 : W.ownsRow 0 9 1 (.slice A20_3 I1.length c20_3) I1.length (I1.map Value.string) := by have h := (cx.ok 2 rfl).holds; rw [xX2] at h; exact h
        refine DoesU.call (run_callF (args := #[.agg #[.int .i64 k1, .int .i64 l1, .slice A20_3 I1.length c20_3]]) rfl cx.sees rfl (by kernel_rfl) (by simp only [List.map_toArray, List.map_cons, List.map_nil, fF24])) ?_
        refine (BY1.out _ _ _ (At.of_own kK2)).mono ?_
        rintro e W1 ⟨rfl, hx⟩
        refine ⟨_, rfl, post_call [] rfl rfl hx (by simp) List.Pairwise.nil (fun σ β' X' hs hb hv hN => ?_)⟩
        have hv1 := (hv 25 rfl).1; have hv2 := (hv 25 rfl).2
        exact hv1.trans rfl
      · refine sv rfl rfl rfl rfl rfl (fun β => .tuple #[.string S1, .int .i64 0]) (fun _ _ _ h => h) (fun _ _ _ => rfl) fun ρ β W X cx => ?_
        have fF25 : ρ (.tmp 25) = .tuple #[.string S1, .int .i64 0] := (cx.anc 1 (by kernel_rfl))
        exact run_move' rfl fF25
      · refine sv rfl rfl rfl rfl rfl (fun β => .string S1) (fun _ _ _ h => h) (fun _ _ _ => rfl) fun ρ β W X cx => ?_
        have fF23 : ρ (.tmp 23) = .tuple #[.string S1, .int .i64 0] := (cx.anc 2 (by kernel_rfl))
        exact run_extract' rfl fF23 rfl
      · refine sv rfl rfl rfl rfl rfl (fun β => .int .i64 0) (fun _ _ _ h => h) (fun _ _ _ => rfl) fun ρ β W X cx => ?_
        have fF23 : ρ (.tmp 23) = .tuple #[.string S1, .int .i64 0] := (cx.anc 2 (by kernel_rfl))
        exact run_extract' rfl fF23 rfl
      · refine sv rfl rfl rfl rfl rfl (fun β => .string S1) (fun _ _ _ h => h) (fun _ _ _ => rfl) fun ρ β W X cx => ?_
        have fF26 : ρ (.tmp 26) = .string S1 := (cx.anc 3 (by kernel_rfl))
        exact run_assign' rfl fF26
      · refine sv rfl rfl rfl rfl rfl (fun β => .int .i64 0) (fun _ _ _ h => h) (fun _ _ _ => rfl) fun ρ β W X cx => ?_
        have fF27 : ρ (.tmp 27) = .int .i64 0 := (cx.anc 4 (by kernel_rfl))
        exact run_assign' rfl fF27
    intro σ β X W5 hD hX hst5q fr hfr
    have dD24 : σ 24 = .agg #[.int .i64 k1, .int .i64 l1, .slice A20_3 I1.length c20_3] := (hD 0 (Nat.le_of_ble_eq_true rfl))
    have dD25 : σ 25 = .tuple #[.string S1, .int .i64 0] := (hD 1 (Nat.le_of_ble_eq_true rfl))
    have dD23 : σ 23 = .tuple #[.string S1, .int .i64 0] := (hD 2 (Nat.le_of_ble_eq_true rfl))
    have dD26 : σ 26 = .string S1 := (hD 3 (Nat.le_of_ble_eq_true rfl))
    have dD27 : σ 27 = .int .i64 0 := (hD 4 (Nat.le_of_ble_eq_true rfl))
    have dD8 : σ 8 = .string S1 := (hD 5 (Nat.le_of_ble_eq_true rfl))
    have dD9 : σ 9 = .int .i64 0 := (hD 6 (Nat.le_of_ble_eq_true rfl))
    have xX0 : X 0 = eB B2_1 24 #[.int .i64 kA, .int .i64 lA, .slice A sa.length c] := hX 0 _ rfl
    have xX1 : X 1 = eB B3_1 24 #[.int .i64 kB, .int .i64 lB, .slice B sb.length (c')] := hX 1 _ rfl
    have xX2 : X 2 = eO 9 1 (.slice A20_3 I1.length c20_3) I1.length (I1.map Value.string) := hX 2 _ rfl
    have xX3 : X 3 = eB B6_3 26 #[.int .i64 k1, .int .i64 l1, .slice A20_3 I1.length c20_3] := hX 3 _ rfl
    have xX4 : X 4 = eO 9 1 (.slice A22_4 I2.length c22_4) I2.length (I2.map Value.string) := hX 4 _ rfl
    have xX5 : X 5 = eB B7_4 26 #[.int .i64 k2, .int .i64 l2, .slice A22_4 I2.length c22_4] := hX 5 _ rfl
    have hst5 : St w [] [eB B2_1 24 #[.int .i64 kA, .int .i64 lA, .slice A sa.length c], eB B3_1 24 #[.int .i64 kB, .int .i64 lB, .slice B sb.length (c')], eO 9 1 (.slice A20_3 I1.length c20_3) I1.length (I1.map Value.string), eB B6_3 26 #[.int .i64 k1, .int .i64 l1, .slice A20_3 I1.length c20_3], eO 9 1 (.slice A22_4 I2.length c22_4) I2.length (I2.map Value.string), eB B7_4 26 #[.int .i64 k2, .int .i64 l2, .slice A22_4 I2.length c22_4]] W5 := by
      have h := hst5q
      simp only [List.map_cons, List.map_nil, xX0, xX1, xX2, xX3, xX4, xX5] at h
      exact h
    have hfr2 : fr = #[.agg #[.int .i64 kA, .int .i64 lA, .slice A sa.length c], .agg #[.int .i64 kB, .int .i64 lB, .slice B sb.length (c')], .pointer (some ⟨B2_1, 0, none⟩), .pointer (some ⟨B3_1, 0, none⟩), .bool false, .bool true, .pointer (some ⟨B6_3, 0, none⟩), .pointer (some ⟨B7_4, 0, none⟩), .string S1, .int .i64 0, undef, undef, undef, undef, undef, undef, undef, undef, .bool true, .agg #[.int .i64 kA, .int .i64 lA, .slice A sa.length c], .agg #[.int .i64 k1, .int .i64 l1, .slice A20_3 I1.length c20_3], .agg #[.int .i64 kB, .int .i64 lB, .slice B sb.length (c')], .agg #[.int .i64 k2, .int .i64 l2, .slice A22_4 I2.length c22_4], .tuple #[.string S1, .int .i64 0], .agg #[.int .i64 k1, .int .i64 l1, .slice A20_3 I1.length c20_3], .tuple #[.string S1, .int .i64 0], .string S1, .int .i64 0, undef, undef, undef, undef, undef, undef, undef, undef, undef, undef, undef, undef, undef, undef, undef, undef, undef, undef, undef, undef, undef, undef, undef, undef, undef, undef, undef, undef, undef, undef, undef, undef, undef, undef, undef, undef, undef, undef, undef, undef, undef, undef, undef, undef, undef, undef, undef, undef, undef, undef, undef, undef, undef, undef, undef, undef, undef, undef, undef] := hfr.trans (by rw [show dstsU _ = [24, 25, 23, 26, 27, 8, 9] by kernel_rfl]; simp only [List.map_cons, List.map_nil, putAll, List.setIfInBounds_toArray, List.set_cons_succ, List.set_cons_zero, dD24, dD25, dD23, dD26, dD27, dD8, dD9])
    clear hfr hX hD hst5q dD24 dD25 dD23 dD26 dD27 dD8 dD9 xX0 xX1 xX2 xX3 xX4 xX5
    subst hfr2
    clear σ β X
    refine then_normal ?_
    refine wp_seq ?_
    refine wp_region_V (by kernel_rfl) [0, 1, 3, 7, 7, 15, 63] [[5], [4], [], [], [], [], []] [[], [], [], [], [], [], []] [[], [], [], [], [], [], []] (fun ix σ β X => match ix with | 0 => σ 29 = .agg #[.int .i64 k2, .int .i64 l2, .slice A22_4 I2.length c22_4] | 1 => σ 30 = .tuple #[.string S2, .int .i64 0] | 2 => σ 28 = .tuple #[.string S2, .int .i64 0] | 3 => σ 31 = .string S2 | 4 => σ 32 = .int .i64 0 | 5 => σ 10 = .string S2 | 6 => σ 11 = .int .i64 0 | _ => True) [0, 1, 2, 3, 4, 5] (by kernel_rfl) (by kernel_rfl) (by kernel_rfl) (by kernel_rfl) ?_ hst5 ?_ ?_
    · intro ix σ σ' β β' X X' hs hb hx h
      match ix, hs, hb, hx, h with
      | 0, hs, hb, hx, h => rw [← hs 29 (by kernel_rfl)]; exact h
      | 1, hs, hb, hx, h => rw [← hs 30 (by kernel_rfl)]; exact h
      | 2, hs, hb, hx, h => rw [← hs 28 (by kernel_rfl)]; exact h
      | 3, hs, hb, hx, h => rw [← hs 31 (by kernel_rfl)]; exact h
      | 4, hs, hb, hx, h => rw [← hs 32 (by kernel_rfl)]; exact h
      | 5, hs, hb, hx, h => rw [← hs 10 (by kernel_rfl)]; exact h
      | 6, hs, hb, hx, h => rw [← hs 11 (by kernel_rfl)]; exact h
      | _ + 7, _, _, _, _ => trivial
    · refine ⟨⟨⟨⟨⟨⟨⟨trivial, ?_⟩, ?_⟩, ?_⟩, ?_⟩, ?_⟩, ?_⟩, ?_⟩
      · refine sv rfl rfl rfl rfl rfl (fun β => .agg #[.int .i64 k2, .int .i64 l2, .slice A22_4 I2.length c22_4]) (fun _ _ _ h => h) (fun _ _ _ => rfl) fun ρ β W X cx => ?_
        have fF7 : ρ (.tmp 7) = .pointer (some ⟨B7_4, 0, none⟩) := cx.out 7 (by kernel_rfl)
        have xX5 : X 5 = eB B7_4 26 #[.int .i64 k2, .int .i64 l2, .slice A22_4 I2.length c22_4] := cx.init 5 _ rfl
        have kK5 : Blk W B7_4 26 #[.int .i64 k2, .int .i64 l2, .slice A22_4 I2.length c22_4] := by have h := (cx.ok 5 rfl).holds; rw [xX5] at h; exact h
        exact run_loadB (n := 3) rfl (by kernel_rfl) (by kernel_rfl) fF7 kK5 (Nat.le_of_ble_eq_true rfl) rfl
      · refine sv_any rfl rfl fun ρ β W X cx => ?_
        have fF29 : ρ (.tmp 29) = .agg #[.int .i64 k2, .int .i64 l2, .slice A22_4 I2.length c22_4] := (cx.anc 0 (by kernel_rfl))
        have xX4 : X 4 = eO 9 1 (.slice A22_4 I2.length c22_4) I2.length (I2.map Value.string) := cx.init 4 _ rfl
        have kK4 : W.ownsRow 0 9 1 (.slice A22_4 I2.length c22_4) I2.length (I2.map Value.string) := by have h := (cx.ok 4 rfl).holds; rw [xX4] at h; exact h
        refine DoesU.call (run_callF (args := #[.agg #[.int .i64 k2, .int .i64 l2, .slice A22_4 I2.length c22_4]]) rfl cx.sees rfl (by kernel_rfl) (by simp only [List.map_toArray, List.map_cons, List.map_nil, fF29])) ?_
        refine (BY2.out _ _ _ (At.of_own kK4)).mono ?_
        rintro e W1 ⟨rfl, hx⟩
        refine ⟨_, rfl, post_call [] rfl rfl hx (by simp) List.Pairwise.nil (fun σ β' X' hs hb hv hN => ?_)⟩
        have hv1 := (hv 30 rfl).1; have hv2 := (hv 30 rfl).2
        exact hv1.trans rfl
      · refine sv rfl rfl rfl rfl rfl (fun β => .tuple #[.string S2, .int .i64 0]) (fun _ _ _ h => h) (fun _ _ _ => rfl) fun ρ β W X cx => ?_
        have fF30 : ρ (.tmp 30) = .tuple #[.string S2, .int .i64 0] := (cx.anc 1 (by kernel_rfl))
        exact run_move' rfl fF30
      · refine sv rfl rfl rfl rfl rfl (fun β => .string S2) (fun _ _ _ h => h) (fun _ _ _ => rfl) fun ρ β W X cx => ?_
        have fF28 : ρ (.tmp 28) = .tuple #[.string S2, .int .i64 0] := (cx.anc 2 (by kernel_rfl))
        exact run_extract' rfl fF28 rfl
      · refine sv rfl rfl rfl rfl rfl (fun β => .int .i64 0) (fun _ _ _ h => h) (fun _ _ _ => rfl) fun ρ β W X cx => ?_
        have fF28 : ρ (.tmp 28) = .tuple #[.string S2, .int .i64 0] := (cx.anc 2 (by kernel_rfl))
        exact run_extract' rfl fF28 rfl
      · refine sv rfl rfl rfl rfl rfl (fun β => .string S2) (fun _ _ _ h => h) (fun _ _ _ => rfl) fun ρ β W X cx => ?_
        have fF31 : ρ (.tmp 31) = .string S2 := (cx.anc 3 (by kernel_rfl))
        exact run_assign' rfl fF31
      · refine sv rfl rfl rfl rfl rfl (fun β => .int .i64 0) (fun _ _ _ h => h) (fun _ _ _ => rfl) fun ρ β W X cx => ?_
        have fF32 : ρ (.tmp 32) = .int .i64 0 := (cx.anc 4 (by kernel_rfl))
        exact run_assign' rfl fF32
    intro σ β X W6 hD hX hst6q fr hfr
    have dD29 : σ 29 = .agg #[.int .i64 k2, .int .i64 l2, .slice A22_4 I2.length c22_4] := (hD 0 (Nat.le_of_ble_eq_true rfl))
    have dD30 : σ 30 = .tuple #[.string S2, .int .i64 0] := (hD 1 (Nat.le_of_ble_eq_true rfl))
    have dD28 : σ 28 = .tuple #[.string S2, .int .i64 0] := (hD 2 (Nat.le_of_ble_eq_true rfl))
    have dD31 : σ 31 = .string S2 := (hD 3 (Nat.le_of_ble_eq_true rfl))
    have dD32 : σ 32 = .int .i64 0 := (hD 4 (Nat.le_of_ble_eq_true rfl))
    have dD10 : σ 10 = .string S2 := (hD 5 (Nat.le_of_ble_eq_true rfl))
    have dD11 : σ 11 = .int .i64 0 := (hD 6 (Nat.le_of_ble_eq_true rfl))
    have xX0 : X 0 = eB B2_1 24 #[.int .i64 kA, .int .i64 lA, .slice A sa.length c] := hX 0 _ rfl
    have xX1 : X 1 = eB B3_1 24 #[.int .i64 kB, .int .i64 lB, .slice B sb.length (c')] := hX 1 _ rfl
    have xX2 : X 2 = eO 9 1 (.slice A20_3 I1.length c20_3) I1.length (I1.map Value.string) := hX 2 _ rfl
    have xX3 : X 3 = eB B6_3 26 #[.int .i64 k1, .int .i64 l1, .slice A20_3 I1.length c20_3] := hX 3 _ rfl
    have xX4 : X 4 = eO 9 1 (.slice A22_4 I2.length c22_4) I2.length (I2.map Value.string) := hX 4 _ rfl
    have xX5 : X 5 = eB B7_4 26 #[.int .i64 k2, .int .i64 l2, .slice A22_4 I2.length c22_4] := hX 5 _ rfl
    have hst6 : St w [] [eB B2_1 24 #[.int .i64 kA, .int .i64 lA, .slice A sa.length c], eB B3_1 24 #[.int .i64 kB, .int .i64 lB, .slice B sb.length (c')], eO 9 1 (.slice A20_3 I1.length c20_3) I1.length (I1.map Value.string), eB B6_3 26 #[.int .i64 k1, .int .i64 l1, .slice A20_3 I1.length c20_3], eO 9 1 (.slice A22_4 I2.length c22_4) I2.length (I2.map Value.string), eB B7_4 26 #[.int .i64 k2, .int .i64 l2, .slice A22_4 I2.length c22_4]] W6 := by
      have h := hst6q
      simp only [List.map_cons, List.map_nil, xX0, xX1, xX2, xX3, xX4, xX5] at h
      exact h
    have hfr2 : fr = #[.agg #[.int .i64 kA, .int .i64 lA, .slice A sa.length c], .agg #[.int .i64 kB, .int .i64 lB, .slice B sb.length (c')], .pointer (some ⟨B2_1, 0, none⟩), .pointer (some ⟨B3_1, 0, none⟩), .bool false, .bool true, .pointer (some ⟨B6_3, 0, none⟩), .pointer (some ⟨B7_4, 0, none⟩), .string S1, .int .i64 0, .string S2, .int .i64 0, undef, undef, undef, undef, undef, undef, .bool true, .agg #[.int .i64 kA, .int .i64 lA, .slice A sa.length c], .agg #[.int .i64 k1, .int .i64 l1, .slice A20_3 I1.length c20_3], .agg #[.int .i64 kB, .int .i64 lB, .slice B sb.length (c')], .agg #[.int .i64 k2, .int .i64 l2, .slice A22_4 I2.length c22_4], .tuple #[.string S1, .int .i64 0], .agg #[.int .i64 k1, .int .i64 l1, .slice A20_3 I1.length c20_3], .tuple #[.string S1, .int .i64 0], .string S1, .int .i64 0, .tuple #[.string S2, .int .i64 0], .agg #[.int .i64 k2, .int .i64 l2, .slice A22_4 I2.length c22_4], .tuple #[.string S2, .int .i64 0], .string S2, .int .i64 0, undef, undef, undef, undef, undef, undef, undef, undef, undef, undef, undef, undef, undef, undef, undef, undef, undef, undef, undef, undef, undef, undef, undef, undef, undef, undef, undef, undef, undef, undef, undef, undef, undef, undef, undef, undef, undef, undef, undef, undef, undef, undef, undef, undef, undef, undef, undef, undef, undef, undef, undef, undef, undef, undef] := hfr.trans (by rw [show dstsU _ = [29, 30, 28, 31, 32, 10, 11] by kernel_rfl]; simp only [List.map_cons, List.map_nil, putAll, List.setIfInBounds_toArray, List.set_cons_succ, List.set_cons_zero, dD29, dD30, dD28, dD31, dD32, dD10, dD11])
    clear hfr hX hD hst6q dD29 dD30 dD28 dD31 dD32 dD10 dD11 xX0 xX1 xX2 xX3 xX4 xX5
    subst hfr2
    clear σ β X
    refine then_normal ?_
    refine wp_seq ?_
    refine wp_seq ?_
    have hd8 : ((S1.size : Int) != 512) = false := by rw [hsz1]; rfl
    have hd9 : ((S2.size : Int) != 512) = false := by rw [hsz2]; rfl
    refine wp_region_V (by kernel_rfl) [0, 1, 3, 7, 15, 31, 63, 127, 255, 511, 1023, 2047, 4095, 8191, 16383, 32767] [[], [], [], [], [], [], [], [], [], [], [], [], [], [], [], []] [[], [], [], [], [], [], [], [], [], [], [], [], [], [], [], []] [[], [], [], [], [], [], [], [], [], [], [], [], [], [], [], []] (fun ix σ β X => match ix with | 0 => σ 33 = .int .i64 0 | 1 => σ 34 = .bool false | 2 => σ 35 = .bool false | 3 => σ 36 = .int .i64 0 | 4 => σ 37 = .bool false | 5 => σ 38 = .bool false | 6 => σ 39 = .bool false | 7 => σ 40 = .string S1 | 8 => σ 41 = .int .i64 ((S1.size : Int)) | 9 => σ 42 = .bool ((S1.size : Int) != 512) | 10 => σ 43 = .bool false | 11 => σ 44 = .bool false | 12 => σ 45 = .string S2 | 13 => σ 46 = .int .i64 ((S2.size : Int)) | 14 => σ 47 = .bool ((S2.size : Int) != 512) | 15 => σ 48 = .bool false | _ => True) [0, 1, 2, 3, 4, 5] (by kernel_rfl) (by kernel_rfl) (by kernel_rfl) (by kernel_rfl) ?_ hst6 ?_ ?_
    · intro ix σ σ' β β' X X' hs hb hx h
      match ix, hs, hb, hx, h with
      | 0, hs, hb, hx, h => rw [← hs 33 (by kernel_rfl)]; exact h
      | 1, hs, hb, hx, h => rw [← hs 34 (by kernel_rfl)]; exact h
      | 2, hs, hb, hx, h => rw [← hs 35 (by kernel_rfl)]; exact h
      | 3, hs, hb, hx, h => rw [← hs 36 (by kernel_rfl)]; exact h
      | 4, hs, hb, hx, h => rw [← hs 37 (by kernel_rfl)]; exact h
      | 5, hs, hb, hx, h => rw [← hs 38 (by kernel_rfl)]; exact h
      | 6, hs, hb, hx, h => rw [← hs 39 (by kernel_rfl)]; exact h
      | 7, hs, hb, hx, h => rw [← hs 40 (by kernel_rfl)]; exact h
      | 8, hs, hb, hx, h => rw [← hs 41 (by kernel_rfl)]; exact h
      | 9, hs, hb, hx, h => rw [← hs 42 (by kernel_rfl)]; exact h
      | 10, hs, hb, hx, h => rw [← hs 43 (by kernel_rfl)]; exact h
      | 11, hs, hb, hx, h => rw [← hs 44 (by kernel_rfl)]; exact h
      | 12, hs, hb, hx, h => rw [← hs 45 (by kernel_rfl)]; exact h
      | 13, hs, hb, hx, h => rw [← hs 46 (by kernel_rfl)]; exact h
      | 14, hs, hb, hx, h => rw [← hs 47 (by kernel_rfl)]; exact h
      | 15, hs, hb, hx, h => rw [← hs 48 (by kernel_rfl)]; exact h
      | _ + 16, _, _, _, _ => trivial
    · refine ⟨⟨⟨⟨⟨⟨⟨⟨⟨⟨⟨⟨⟨⟨⟨⟨trivial, ?_⟩, ?_⟩, ?_⟩, ?_⟩, ?_⟩, ?_⟩, ?_⟩, ?_⟩, ?_⟩, ?_⟩, ?_⟩, ?_⟩, ?_⟩, ?_⟩, ?_⟩, ?_⟩
      · refine sv rfl rfl rfl rfl rfl (fun β => .int .i64 0) (fun _ _ _ h => h) (fun _ _ _ => rfl) fun ρ β W X cx => ?_
        have fF9 : ρ (.tmp 9) = .int .i64 0 := cx.out 9 (by kernel_rfl)
        exact run_move' rfl fF9
      · refine sv rfl rfl rfl rfl rfl (fun β => .bool false) (fun _ _ _ h => h) (fun _ _ _ => rfl) fun ρ β W X cx => ?_
        have fF33 : ρ (.tmp 33) = .int .i64 0 := (cx.anc 0 (by kernel_rfl))
        exact run_bin rfl fF33 (cx.sees.const _) rfl
      · refine sv rfl rfl rfl rfl rfl (fun β => .bool false) (fun _ _ _ h => h) (fun _ _ _ => rfl) fun ρ β W X cx => ?_
        have fF34 : ρ (.tmp 34) = .bool false := (cx.anc 1 (by kernel_rfl))
        exact run_move' rfl fF34
      · refine sv_on rfl rfl rfl rfl rfl rfl (fun β => .int .i64 0) (fun _ _ _ h => h) (fun _ _ _ => rfl) (fun ρ β W X cx => (show ρ (.tmp 35) = .bool false from (cx.anc 2 (by kernel_rfl)))) fun ρ β W X cx => ?_
        have fF11 : ρ (.tmp 11) = .int .i64 0 := cx.out 11 (by kernel_rfl)
        exact run_move' rfl fF11
      · refine sv_on rfl rfl rfl rfl rfl rfl (fun β => .bool false) (fun _ _ _ h => h) (fun _ _ _ => rfl) (fun ρ β W X cx => (show ρ (.tmp 35) = .bool false from (cx.anc 2 (by kernel_rfl)))) fun ρ β W X cx => ?_
        have fF36 : ρ (.tmp 36) = .int .i64 0 := (cx.anc 3 (by kernel_rfl))
        exact run_bin rfl fF36 (cx.sees.const _) rfl
      · refine sv rfl rfl rfl rfl rfl (fun β => .bool false) (fun _ _ _ h => h) (fun _ _ _ => rfl) fun ρ β W X cx => ?_
        have fF35 : ρ (.tmp 35) = .bool false := (cx.anc 2 (by kernel_rfl))
        have fF37 : ρ (.tmp 37) = .bool false := (cx.anc 4 (by kernel_rfl))
        exact run_pick_f rfl fF35 fF37
      · refine sv rfl rfl rfl rfl rfl (fun β => .bool false) (fun _ _ _ h => h) (fun _ _ _ => rfl) fun ρ β W X cx => ?_
        have fF38 : ρ (.tmp 38) = .bool false := (cx.anc 5 (by kernel_rfl))
        exact run_move' rfl fF38
      · refine sv_on rfl rfl rfl rfl rfl rfl (fun β => .string S1) (fun _ _ _ h => h) (fun _ _ _ => rfl) (fun ρ β W X cx => (show ρ (.tmp 39) = .bool false from (cx.anc 6 (by kernel_rfl)))) fun ρ β W X cx => ?_
        have fF8 : ρ (.tmp 8) = .string S1 := cx.out 8 (by kernel_rfl)
        exact run_move' rfl fF8
      · refine sv_on rfl rfl rfl rfl rfl rfl (fun β => .int .i64 ((S1.size : Int))) (fun _ _ _ h => h) (fun _ _ _ => rfl) (fun ρ β W X cx => (show ρ (.tmp 39) = .bool false from (cx.anc 6 (by kernel_rfl)))) fun ρ β W X cx => ?_
        have fF40 : ρ (.tmp 40) = .string S1 := (cx.anc 7 (by kernel_rfl))
        exact run_len_s rfl (by kernel_rfl) fF40
      · refine sv_on rfl rfl rfl rfl rfl rfl (fun β => .bool ((S1.size : Int) != 512)) (fun _ _ _ h => h) (fun _ _ _ => rfl) (fun ρ β W X cx => (show ρ (.tmp 39) = .bool false from (cx.anc 6 (by kernel_rfl)))) fun ρ β W X cx => ?_
        have fF41 : ρ (.tmp 41) = .int .i64 ((S1.size : Int)) := (cx.anc 8 (by kernel_rfl))
        exact run_bin rfl fF41 (cx.sees.const _) rfl
      · refine sv rfl rfl rfl rfl rfl (fun β => .bool false) (fun _ _ _ h => h) (fun _ _ _ => rfl) fun ρ β W X cx => ?_
        have fF39 : ρ (.tmp 39) = .bool false := (cx.anc 6 (by kernel_rfl))
        have fF42 : ρ (.tmp 42) = .bool false := (show ρ (.tmp 42) = .bool ((S1.size : Int) != 512) from (cx.anc 9 (by kernel_rfl))).trans (congrArg Value.bool hd8)
        exact run_pick_f rfl fF39 fF42
      · refine sv rfl rfl rfl rfl rfl (fun β => .bool false) (fun _ _ _ h => h) (fun _ _ _ => rfl) fun ρ β W X cx => ?_
        have fF43 : ρ (.tmp 43) = .bool false := (cx.anc 10 (by kernel_rfl))
        exact run_move' rfl fF43
      · refine sv_on rfl rfl rfl rfl rfl rfl (fun β => .string S2) (fun _ _ _ h => h) (fun _ _ _ => rfl) (fun ρ β W X cx => (show ρ (.tmp 44) = .bool false from (cx.anc 11 (by kernel_rfl)))) fun ρ β W X cx => ?_
        have fF10 : ρ (.tmp 10) = .string S2 := cx.out 10 (by kernel_rfl)
        exact run_move' rfl fF10
      · refine sv_on rfl rfl rfl rfl rfl rfl (fun β => .int .i64 ((S2.size : Int))) (fun _ _ _ h => h) (fun _ _ _ => rfl) (fun ρ β W X cx => (show ρ (.tmp 44) = .bool false from (cx.anc 11 (by kernel_rfl)))) fun ρ β W X cx => ?_
        have fF45 : ρ (.tmp 45) = .string S2 := (cx.anc 12 (by kernel_rfl))
        exact run_len_s rfl (by kernel_rfl) fF45
      · refine sv_on rfl rfl rfl rfl rfl rfl (fun β => .bool ((S2.size : Int) != 512)) (fun _ _ _ h => h) (fun _ _ _ => rfl) (fun ρ β W X cx => (show ρ (.tmp 44) = .bool false from (cx.anc 11 (by kernel_rfl)))) fun ρ β W X cx => ?_
        have fF46 : ρ (.tmp 46) = .int .i64 ((S2.size : Int)) := (cx.anc 13 (by kernel_rfl))
        exact run_bin rfl fF46 (cx.sees.const _) rfl
      · refine sv rfl rfl rfl rfl rfl (fun β => .bool false) (fun _ _ _ h => h) (fun _ _ _ => rfl) fun ρ β W X cx => ?_
        have fF44 : ρ (.tmp 44) = .bool false := (cx.anc 11 (by kernel_rfl))
        have fF47 : ρ (.tmp 47) = .bool false := (show ρ (.tmp 47) = .bool ((S2.size : Int) != 512) from (cx.anc 14 (by kernel_rfl))).trans (congrArg Value.bool hd9)
        exact run_pick_f rfl fF44 fF47
    intro σ β X W7 hD hX hst7q fr hfr
    have dD33 : σ 33 = .int .i64 0 := (hD 0 (Nat.le_of_ble_eq_true rfl))
    have dD34 : σ 34 = .bool false := (hD 1 (Nat.le_of_ble_eq_true rfl))
    have dD35 : σ 35 = .bool false := (hD 2 (Nat.le_of_ble_eq_true rfl))
    have dD36 : σ 36 = .int .i64 0 := (hD 3 (Nat.le_of_ble_eq_true rfl))
    have dD37 : σ 37 = .bool false := (hD 4 (Nat.le_of_ble_eq_true rfl))
    have dD38 : σ 38 = .bool false := (hD 5 (Nat.le_of_ble_eq_true rfl))
    have dD39 : σ 39 = .bool false := (hD 6 (Nat.le_of_ble_eq_true rfl))
    have dD40 : σ 40 = .string S1 := (hD 7 (Nat.le_of_ble_eq_true rfl))
    have dD41 : σ 41 = .int .i64 ((S1.size : Int)) := (hD 8 (Nat.le_of_ble_eq_true rfl))
    have dD42 : σ 42 = .bool ((S1.size : Int) != 512) := (hD 9 (Nat.le_of_ble_eq_true rfl))
    have dD43 : σ 43 = .bool false := (hD 10 (Nat.le_of_ble_eq_true rfl))
    have dD44 : σ 44 = .bool false := (hD 11 (Nat.le_of_ble_eq_true rfl))
    have dD45 : σ 45 = .string S2 := (hD 12 (Nat.le_of_ble_eq_true rfl))
    have dD46 : σ 46 = .int .i64 ((S2.size : Int)) := (hD 13 (Nat.le_of_ble_eq_true rfl))
    have dD47 : σ 47 = .bool ((S2.size : Int) != 512) := (hD 14 (Nat.le_of_ble_eq_true rfl))
    have dD48 : σ 48 = .bool false := (hD 15 (Nat.le_of_ble_eq_true rfl))
    have xX0 : X 0 = eB B2_1 24 #[.int .i64 kA, .int .i64 lA, .slice A sa.length c] := hX 0 _ rfl
    have xX1 : X 1 = eB B3_1 24 #[.int .i64 kB, .int .i64 lB, .slice B sb.length (c')] := hX 1 _ rfl
    have xX2 : X 2 = eO 9 1 (.slice A20_3 I1.length c20_3) I1.length (I1.map Value.string) := hX 2 _ rfl
    have xX3 : X 3 = eB B6_3 26 #[.int .i64 k1, .int .i64 l1, .slice A20_3 I1.length c20_3] := hX 3 _ rfl
    have xX4 : X 4 = eO 9 1 (.slice A22_4 I2.length c22_4) I2.length (I2.map Value.string) := hX 4 _ rfl
    have xX5 : X 5 = eB B7_4 26 #[.int .i64 k2, .int .i64 l2, .slice A22_4 I2.length c22_4] := hX 5 _ rfl
    have hst7 : St w [] [eB B2_1 24 #[.int .i64 kA, .int .i64 lA, .slice A sa.length c], eB B3_1 24 #[.int .i64 kB, .int .i64 lB, .slice B sb.length (c')], eO 9 1 (.slice A20_3 I1.length c20_3) I1.length (I1.map Value.string), eB B6_3 26 #[.int .i64 k1, .int .i64 l1, .slice A20_3 I1.length c20_3], eO 9 1 (.slice A22_4 I2.length c22_4) I2.length (I2.map Value.string), eB B7_4 26 #[.int .i64 k2, .int .i64 l2, .slice A22_4 I2.length c22_4]] W7 := by
      have h := hst7q
      simp only [List.map_cons, List.map_nil, xX0, xX1, xX2, xX3, xX4, xX5] at h
      exact h
    have hfr2 : fr = #[.agg #[.int .i64 kA, .int .i64 lA, .slice A sa.length c], .agg #[.int .i64 kB, .int .i64 lB, .slice B sb.length (c')], .pointer (some ⟨B2_1, 0, none⟩), .pointer (some ⟨B3_1, 0, none⟩), .bool false, .bool true, .pointer (some ⟨B6_3, 0, none⟩), .pointer (some ⟨B7_4, 0, none⟩), .string S1, .int .i64 0, .string S2, .int .i64 0, undef, undef, undef, undef, undef, undef, .bool true, .agg #[.int .i64 kA, .int .i64 lA, .slice A sa.length c], .agg #[.int .i64 k1, .int .i64 l1, .slice A20_3 I1.length c20_3], .agg #[.int .i64 kB, .int .i64 lB, .slice B sb.length (c')], .agg #[.int .i64 k2, .int .i64 l2, .slice A22_4 I2.length c22_4], .tuple #[.string S1, .int .i64 0], .agg #[.int .i64 k1, .int .i64 l1, .slice A20_3 I1.length c20_3], .tuple #[.string S1, .int .i64 0], .string S1, .int .i64 0, .tuple #[.string S2, .int .i64 0], .agg #[.int .i64 k2, .int .i64 l2, .slice A22_4 I2.length c22_4], .tuple #[.string S2, .int .i64 0], .string S2, .int .i64 0, .int .i64 0, .bool false, .bool false, .int .i64 0, .bool false, .bool false, .bool false, .string S1, .int .i64 ((S1.size : Int)), .bool ((S1.size : Int) != 512), .bool false, .bool false, .string S2, .int .i64 ((S2.size : Int)), .bool ((S2.size : Int) != 512), .bool false, undef, undef, undef, undef, undef, undef, undef, undef, undef, undef, undef, undef, undef, undef, undef, undef, undef, undef, undef, undef, undef, undef, undef, undef, undef, undef, undef, undef, undef, undef, undef, undef, undef, undef, undef, undef, undef, undef] := hfr.trans (by rw [show dstsU _ = [33, 34, 35, 36, 37, 38, 39, 40, 41, 42, 43, 44, 45, 46, 47, 48] by kernel_rfl]; simp only [List.map_cons, List.map_nil, putAll, List.setIfInBounds_toArray, List.set_cons_succ, List.set_cons_zero, dD33, dD34, dD35, dD36, dD37, dD38, dD39, dD40, dD41, dD42, dD43, dD44, dD45, dD46, dD47, dD48])
    clear hfr hX hD hst7q dD33 dD34 dD35 dD36 dD37 dD38 dD39 dD40 dD41 dD42 dD43 dD44 dD45 dD46 dD47 dD48 xX0 xX1 xX2 xX3 xX4 xX5
    subst hfr2
    clear σ β X
    refine then_normal ?_
    refine wp_cond_false (show Act.eval _ _ = .bool false from rfl) ?_
    refine wp_skip ?_
    refine then_normal ?_
    refine wp_seq ?_
    refine wp_region_V (by kernel_rfl) [0, 1, 0, 4, 15, 31] [[], [], [], [], [], []] [[], [], [], [], [], []] [[], [], [], [], [], []] (fun ix σ β X => match ix with | 0 => σ 49 = .string S1 | 1 => σ 50 = .string (S1.extract 0 256) | 2 => σ 51 = .string S2 | 3 => σ 52 = .string (S2.extract 256 S2.size) | 4 => σ 53 = .string ((S1.extract 0 256) ++ (S2.extract 256 S2.size)) | 5 => σ 12 = .string T | _ => True) [0, 1, 2, 3, 4, 5] (by kernel_rfl) (by kernel_rfl) (by kernel_rfl) (by kernel_rfl) ?_ hst7 ?_ ?_
    · intro ix σ σ' β β' X X' hs hb hx h
      match ix, hs, hb, hx, h with
      | 0, hs, hb, hx, h => rw [← hs 49 (by kernel_rfl)]; exact h
      | 1, hs, hb, hx, h => rw [← hs 50 (by kernel_rfl)]; exact h
      | 2, hs, hb, hx, h => rw [← hs 51 (by kernel_rfl)]; exact h
      | 3, hs, hb, hx, h => rw [← hs 52 (by kernel_rfl)]; exact h
      | 4, hs, hb, hx, h => rw [← hs 53 (by kernel_rfl)]; exact h
      | 5, hs, hb, hx, h => rw [← hs 12 (by kernel_rfl)]; exact h
      | _ + 6, _, _, _, _ => trivial
    · refine ⟨⟨⟨⟨⟨⟨trivial, ?_⟩, ?_⟩, ?_⟩, ?_⟩, ?_⟩, ?_⟩
      · refine sv rfl rfl rfl rfl rfl (fun β => .string S1) (fun _ _ _ h => h) (fun _ _ _ => rfl) fun ρ β W X cx => ?_
        have fF8 : ρ (.tmp 8) = .string S1 := cx.out 8 (by kernel_rfl)
        exact run_move' rfl fF8
      · refine sv rfl rfl rfl rfl rfl (fun β => .string (S1.extract 0 256)) (fun _ _ _ h => h) (fun _ _ _ => rfl) fun ρ β W X cx => ?_
        have fF49 : ρ (.tmp 49) = .string S1 := (cx.anc 0 (by kernel_rfl))
        exact run_slice_hi (l := 256) rfl (by kernel_rfl) fF49 (cx.sees.const _) (by omega) (by omega)
      · refine sv rfl rfl rfl rfl rfl (fun β => .string S2) (fun _ _ _ h => h) (fun _ _ _ => rfl) fun ρ β W X cx => ?_
        have fF10 : ρ (.tmp 10) = .string S2 := cx.out 10 (by kernel_rfl)
        exact run_move' rfl fF10
      · refine sv rfl rfl rfl rfl rfl (fun β => .string (S2.extract 256 S2.size)) (fun _ _ _ h => h) (fun _ _ _ => rfl) fun ρ β W X cx => ?_
        have fF51 : ρ (.tmp 51) = .string S2 := (cx.anc 2 (by kernel_rfl))
        exact run_slice_lo (l := 256) rfl (by kernel_rfl) fF51 (cx.sees.const _) (by omega) (by omega)
      · refine sv rfl rfl rfl rfl rfl (fun β => .string ((S1.extract 0 256) ++ (S2.extract 256 S2.size))) (fun _ _ _ h => h) (fun _ _ _ => rfl) fun ρ β W X cx => ?_
        have fF50 : ρ (.tmp 50) = .string (S1.extract 0 256) := (cx.anc 1 (by kernel_rfl))
        have fF52 : ρ (.tmp 52) = .string (S2.extract 256 S2.size) := (cx.anc 3 (by kernel_rfl))
        exact run_strcat rfl fF50 fF52 (by omega)
      · refine sv rfl rfl rfl rfl rfl (fun β => .string T) (fun _ _ _ h => h) (fun _ _ _ => rfl) fun ρ β W X cx => ?_
        have fF53 : ρ (.tmp 53) = .string ((S1.extract 0 256) ++ (S2.extract 256 S2.size)) := (cx.anc 4 (by kernel_rfl))
        exact (by rw [HT.out]; exact run_assign' rfl fF53)
    intro σ β X W10 hD hX hst10q fr hfr
    have dD49 : σ 49 = .string S1 := (hD 0 (Nat.le_of_ble_eq_true rfl))
    have dD50 : σ 50 = .string (S1.extract 0 256) := (hD 1 (Nat.le_of_ble_eq_true rfl))
    have dD51 : σ 51 = .string S2 := (hD 2 (Nat.le_of_ble_eq_true rfl))
    have dD52 : σ 52 = .string (S2.extract 256 S2.size) := (hD 3 (Nat.le_of_ble_eq_true rfl))
    have dD53 : σ 53 = .string ((S1.extract 0 256) ++ (S2.extract 256 S2.size)) := (hD 4 (Nat.le_of_ble_eq_true rfl))
    have dD12 : σ 12 = .string T := (hD 5 (Nat.le_of_ble_eq_true rfl))
    have xX0 : X 0 = eB B2_1 24 #[.int .i64 kA, .int .i64 lA, .slice A sa.length c] := hX 0 _ rfl
    have xX1 : X 1 = eB B3_1 24 #[.int .i64 kB, .int .i64 lB, .slice B sb.length (c')] := hX 1 _ rfl
    have xX2 : X 2 = eO 9 1 (.slice A20_3 I1.length c20_3) I1.length (I1.map Value.string) := hX 2 _ rfl
    have xX3 : X 3 = eB B6_3 26 #[.int .i64 k1, .int .i64 l1, .slice A20_3 I1.length c20_3] := hX 3 _ rfl
    have xX4 : X 4 = eO 9 1 (.slice A22_4 I2.length c22_4) I2.length (I2.map Value.string) := hX 4 _ rfl
    have xX5 : X 5 = eB B7_4 26 #[.int .i64 k2, .int .i64 l2, .slice A22_4 I2.length c22_4] := hX 5 _ rfl
    have hst10 : St w [] [eB B2_1 24 #[.int .i64 kA, .int .i64 lA, .slice A sa.length c], eB B3_1 24 #[.int .i64 kB, .int .i64 lB, .slice B sb.length (c')], eO 9 1 (.slice A20_3 I1.length c20_3) I1.length (I1.map Value.string), eB B6_3 26 #[.int .i64 k1, .int .i64 l1, .slice A20_3 I1.length c20_3], eO 9 1 (.slice A22_4 I2.length c22_4) I2.length (I2.map Value.string), eB B7_4 26 #[.int .i64 k2, .int .i64 l2, .slice A22_4 I2.length c22_4]] W10 := by
      have h := hst10q
      simp only [List.map_cons, List.map_nil, xX0, xX1, xX2, xX3, xX4, xX5] at h
      exact h
    have hfr2 : fr = #[.agg #[.int .i64 kA, .int .i64 lA, .slice A sa.length c], .agg #[.int .i64 kB, .int .i64 lB, .slice B sb.length (c')], .pointer (some ⟨B2_1, 0, none⟩), .pointer (some ⟨B3_1, 0, none⟩), .bool false, .bool true, .pointer (some ⟨B6_3, 0, none⟩), .pointer (some ⟨B7_4, 0, none⟩), .string S1, .int .i64 0, .string S2, .int .i64 0, .string T, undef, undef, undef, undef, undef, .bool true, .agg #[.int .i64 kA, .int .i64 lA, .slice A sa.length c], .agg #[.int .i64 k1, .int .i64 l1, .slice A20_3 I1.length c20_3], .agg #[.int .i64 kB, .int .i64 lB, .slice B sb.length (c')], .agg #[.int .i64 k2, .int .i64 l2, .slice A22_4 I2.length c22_4], .tuple #[.string S1, .int .i64 0], .agg #[.int .i64 k1, .int .i64 l1, .slice A20_3 I1.length c20_3], .tuple #[.string S1, .int .i64 0], .string S1, .int .i64 0, .tuple #[.string S2, .int .i64 0], .agg #[.int .i64 k2, .int .i64 l2, .slice A22_4 I2.length c22_4], .tuple #[.string S2, .int .i64 0], .string S2, .int .i64 0, .int .i64 0, .bool false, .bool false, .int .i64 0, .bool false, .bool false, .bool false, .string S1, .int .i64 ((S1.size : Int)), .bool ((S1.size : Int) != 512), .bool false, .bool false, .string S2, .int .i64 ((S2.size : Int)), .bool ((S2.size : Int) != 512), .bool false, .string S1, .string (S1.extract 0 256), .string S2, .string (S2.extract 256 S2.size), .string ((S1.extract 0 256) ++ (S2.extract 256 S2.size)), undef, undef, undef, undef, undef, undef, undef, undef, undef, undef, undef, undef, undef, undef, undef, undef, undef, undef, undef, undef, undef, undef, undef, undef, undef, undef, undef, undef, undef, undef, undef, undef, undef] := hfr.trans (by rw [show dstsU _ = [49, 50, 51, 52, 53, 12] by kernel_rfl]; simp only [List.map_cons, List.map_nil, putAll, List.setIfInBounds_toArray, List.set_cons_succ, List.set_cons_zero, dD49, dD50, dD51, dD52, dD53, dD12])
    clear hfr hX hD hst10q dD49 dD50 dD51 dD52 dD53 dD12 xX0 xX1 xX2 xX3 xX4 xX5
    subst hfr2
    clear σ β X
    refine then_normal ?_
    refine wp_seq ?_
    refine wp_region_V (by kernel_rfl) [0, 1, 3, 7, 15, 0, 32, 127, 255] [[], [], [], [], [], [], [], [], []] [[], [], [], [], [], [], [], [], []] [[], [], [], [], [], [], [], [], []] (fun ix σ β X => match ix with | 0 => σ 54 = .string T | 1 => σ 55 = .string (T.extract 4 T.size) | 2 => σ 56 = .int .u32 ((q : Int)) | 3 => σ 57 = .int .i64 ((q : Int)) | 4 => σ 58 = .string (putS (q : Int) 4) | 5 => σ 59 = .string T | 6 => σ 60 = .string (T.extract 4 T.size) | 7 => σ 61 = .string ((putS (q : Int) 4) ++ (T.extract 4 T.size)) | 8 => σ 13 = .string U | _ => True) [0, 1, 2, 3, 4, 5] (by kernel_rfl) (by kernel_rfl) (by kernel_rfl) (by kernel_rfl) ?_ hst10 ?_ ?_
    · intro ix σ σ' β β' X X' hs hb hx h
      match ix, hs, hb, hx, h with
      | 0, hs, hb, hx, h => rw [← hs 54 (by kernel_rfl)]; exact h
      | 1, hs, hb, hx, h => rw [← hs 55 (by kernel_rfl)]; exact h
      | 2, hs, hb, hx, h => rw [← hs 56 (by kernel_rfl)]; exact h
      | 3, hs, hb, hx, h => rw [← hs 57 (by kernel_rfl)]; exact h
      | 4, hs, hb, hx, h => rw [← hs 58 (by kernel_rfl)]; exact h
      | 5, hs, hb, hx, h => rw [← hs 59 (by kernel_rfl)]; exact h
      | 6, hs, hb, hx, h => rw [← hs 60 (by kernel_rfl)]; exact h
      | 7, hs, hb, hx, h => rw [← hs 61 (by kernel_rfl)]; exact h
      | 8, hs, hb, hx, h => rw [← hs 13 (by kernel_rfl)]; exact h
      | _ + 9, _, _, _, _ => trivial
    · refine ⟨⟨⟨⟨⟨⟨⟨⟨⟨trivial, ?_⟩, ?_⟩, ?_⟩, ?_⟩, ?_⟩, ?_⟩, ?_⟩, ?_⟩, ?_⟩
      · refine sv rfl rfl rfl rfl rfl (fun β => .string T) (fun _ _ _ h => h) (fun _ _ _ => rfl) fun ρ β W X cx => ?_
        have fF12 : ρ (.tmp 12) = .string T := cx.out 12 (by kernel_rfl)
        exact run_move' rfl fF12
      · refine sv rfl rfl rfl rfl rfl (fun β => .string (T.extract 4 T.size)) (fun _ _ _ h => h) (fun _ _ _ => rfl) fun ρ β W X cx => ?_
        have fF54 : ρ (.tmp 54) = .string T := (cx.anc 0 (by kernel_rfl))
        exact run_slice_lo (l := 4) rfl (by kernel_rfl) fF54 (cx.sees.const _) (by omega) (by omega)
      · refine sv_any rfl rfl fun ρ β W X cx => ?_
        have fF55 : ρ (.tmp 55) = .string (T.extract 4 T.size) := (cx.anc 1 (by kernel_rfl))
        refine DoesU.call (run_callF (args := #[.string (T.extract 4 T.size)]) rfl cx.sees rfl (by kernel_rfl) (by simp only [List.map_toArray, List.map_cons, List.map_nil, fF55])) ?_
        refine (HU.out _).mono ?_
        rintro e W1 ⟨rfl, hx⟩
        refine ⟨_, rfl, post_call [] rfl rfl hx (by simp) List.Pairwise.nil (fun σ β' X' hs hb hv hN => ?_)⟩
        have hv1 := (hv 56 rfl).1; have hv2 := (hv 56 rfl).2
        exact hv1.trans rfl
      · refine sv rfl rfl rfl rfl rfl (fun β => .int .i64 ((q : Int))) (fun _ _ _ h => h) (fun _ _ _ => rfl) fun ρ β W X cx => ?_
        have fF56 : ρ (.tmp 56) = .int .u32 ((q : Int)) := (cx.anc 2 (by kernel_rfl))
        exact run_convI rfl (by kernel_rfl) (by kernel_rfl) fF56 (IntWalk.i64_in _ (by omega))
      · refine sv_any rfl rfl fun ρ β W X cx => ?_
        have fF57 : ρ (.tmp 57) = .int .i64 ((q : Int)) := (cx.anc 3 (by kernel_rfl))
        refine DoesU.call (run_callF (args := #[.int .i64 ((q : Int)), .int .i64 4]) rfl cx.sees rfl (by kernel_rfl) (by simp only [List.map_toArray, List.map_cons, List.map_nil, fF57, cx.sees.const])) ?_
        refine (HP.out _).mono ?_
        rintro e W1 ⟨rfl, hx⟩
        refine ⟨_, rfl, post_call [] rfl rfl hx (by simp) List.Pairwise.nil (fun σ β' X' hs hb hv hN => ?_)⟩
        have hv1 := (hv 58 rfl).1; have hv2 := (hv 58 rfl).2
        exact hv1.trans rfl
      · refine sv rfl rfl rfl rfl rfl (fun β => .string T) (fun _ _ _ h => h) (fun _ _ _ => rfl) fun ρ β W X cx => ?_
        have fF12 : ρ (.tmp 12) = .string T := cx.out 12 (by kernel_rfl)
        exact run_move' rfl fF12
      · refine sv rfl rfl rfl rfl rfl (fun β => .string (T.extract 4 T.size)) (fun _ _ _ h => h) (fun _ _ _ => rfl) fun ρ β W X cx => ?_
        have fF59 : ρ (.tmp 59) = .string T := (cx.anc 5 (by kernel_rfl))
        exact run_slice_lo (l := 4) rfl (by kernel_rfl) fF59 (cx.sees.const _) (by omega) (by omega)
      · refine sv rfl rfl rfl rfl rfl (fun β => .string ((putS (q : Int) 4) ++ (T.extract 4 T.size))) (fun _ _ _ h => h) (fun _ _ _ => rfl) fun ρ β W X cx => ?_
        have fF58 : ρ (.tmp 58) = .string (putS (q : Int) 4) := (cx.anc 4 (by kernel_rfl))
        have fF60 : ρ (.tmp 60) = .string (T.extract 4 T.size) := (cx.anc 6 (by kernel_rfl))
        exact run_strcat rfl fF58 fF60 (by omega)
      · refine sv rfl rfl rfl rfl rfl (fun β => .string U) (fun _ _ _ h => h) (fun _ _ _ => rfl) fun ρ β W X cx => ?_
        have fF61 : ρ (.tmp 61) = .string ((putS (q : Int) 4) ++ (T.extract 4 T.size)) := (cx.anc 7 (by kernel_rfl))
        exact (by rw [HUU.out]; exact run_assign' rfl fF61)
    intro σ β X W11 hD hX hst11q fr hfr
    have dD54 : σ 54 = .string T := (hD 0 (Nat.le_of_ble_eq_true rfl))
    have dD55 : σ 55 = .string (T.extract 4 T.size) := (hD 1 (Nat.le_of_ble_eq_true rfl))
    have dD56 : σ 56 = .int .u32 ((q : Int)) := (hD 2 (Nat.le_of_ble_eq_true rfl))
    have dD57 : σ 57 = .int .i64 ((q : Int)) := (hD 3 (Nat.le_of_ble_eq_true rfl))
    have dD58 : σ 58 = .string (putS (q : Int) 4) := (hD 4 (Nat.le_of_ble_eq_true rfl))
    have dD59 : σ 59 = .string T := (hD 5 (Nat.le_of_ble_eq_true rfl))
    have dD60 : σ 60 = .string (T.extract 4 T.size) := (hD 6 (Nat.le_of_ble_eq_true rfl))
    have dD61 : σ 61 = .string ((putS (q : Int) 4) ++ (T.extract 4 T.size)) := (hD 7 (Nat.le_of_ble_eq_true rfl))
    have dD13 : σ 13 = .string U := (hD 8 (Nat.le_of_ble_eq_true rfl))
    have xX0 : X 0 = eB B2_1 24 #[.int .i64 kA, .int .i64 lA, .slice A sa.length c] := hX 0 _ rfl
    have xX1 : X 1 = eB B3_1 24 #[.int .i64 kB, .int .i64 lB, .slice B sb.length (c')] := hX 1 _ rfl
    have xX2 : X 2 = eO 9 1 (.slice A20_3 I1.length c20_3) I1.length (I1.map Value.string) := hX 2 _ rfl
    have xX3 : X 3 = eB B6_3 26 #[.int .i64 k1, .int .i64 l1, .slice A20_3 I1.length c20_3] := hX 3 _ rfl
    have xX4 : X 4 = eO 9 1 (.slice A22_4 I2.length c22_4) I2.length (I2.map Value.string) := hX 4 _ rfl
    have xX5 : X 5 = eB B7_4 26 #[.int .i64 k2, .int .i64 l2, .slice A22_4 I2.length c22_4] := hX 5 _ rfl
    have hst11 : St w [] [eB B2_1 24 #[.int .i64 kA, .int .i64 lA, .slice A sa.length c], eB B3_1 24 #[.int .i64 kB, .int .i64 lB, .slice B sb.length (c')], eO 9 1 (.slice A20_3 I1.length c20_3) I1.length (I1.map Value.string), eB B6_3 26 #[.int .i64 k1, .int .i64 l1, .slice A20_3 I1.length c20_3], eO 9 1 (.slice A22_4 I2.length c22_4) I2.length (I2.map Value.string), eB B7_4 26 #[.int .i64 k2, .int .i64 l2, .slice A22_4 I2.length c22_4]] W11 := by
      have h := hst11q
      simp only [List.map_cons, List.map_nil, xX0, xX1, xX2, xX3, xX4, xX5] at h
      exact h
    have hfr2 : fr = #[.agg #[.int .i64 kA, .int .i64 lA, .slice A sa.length c], .agg #[.int .i64 kB, .int .i64 lB, .slice B sb.length (c')], .pointer (some ⟨B2_1, 0, none⟩), .pointer (some ⟨B3_1, 0, none⟩), .bool false, .bool true, .pointer (some ⟨B6_3, 0, none⟩), .pointer (some ⟨B7_4, 0, none⟩), .string S1, .int .i64 0, .string S2, .int .i64 0, .string T, .string U, undef, undef, undef, undef, .bool true, .agg #[.int .i64 kA, .int .i64 lA, .slice A sa.length c], .agg #[.int .i64 k1, .int .i64 l1, .slice A20_3 I1.length c20_3], .agg #[.int .i64 kB, .int .i64 lB, .slice B sb.length (c')], .agg #[.int .i64 k2, .int .i64 l2, .slice A22_4 I2.length c22_4], .tuple #[.string S1, .int .i64 0], .agg #[.int .i64 k1, .int .i64 l1, .slice A20_3 I1.length c20_3], .tuple #[.string S1, .int .i64 0], .string S1, .int .i64 0, .tuple #[.string S2, .int .i64 0], .agg #[.int .i64 k2, .int .i64 l2, .slice A22_4 I2.length c22_4], .tuple #[.string S2, .int .i64 0], .string S2, .int .i64 0, .int .i64 0, .bool false, .bool false, .int .i64 0, .bool false, .bool false, .bool false, .string S1, .int .i64 ((S1.size : Int)), .bool ((S1.size : Int) != 512), .bool false, .bool false, .string S2, .int .i64 ((S2.size : Int)), .bool ((S2.size : Int) != 512), .bool false, .string S1, .string (S1.extract 0 256), .string S2, .string (S2.extract 256 S2.size), .string ((S1.extract 0 256) ++ (S2.extract 256 S2.size)), .string T, .string (T.extract 4 T.size), .int .u32 ((q : Int)), .int .i64 ((q : Int)), .string (putS (q : Int) 4), .string T, .string (T.extract 4 T.size), .string ((putS (q : Int) 4) ++ (T.extract 4 T.size)), undef, undef, undef, undef, undef, undef, undef, undef, undef, undef, undef, undef, undef, undef, undef, undef, undef, undef, undef, undef, undef, undef, undef, undef, undef] := hfr.trans (by rw [show dstsU _ = [54, 55, 56, 57, 58, 59, 60, 61, 13] by kernel_rfl]; simp only [List.map_cons, List.map_nil, putAll, List.setIfInBounds_toArray, List.set_cons_succ, List.set_cons_zero, dD54, dD55, dD56, dD57, dD58, dD59, dD60, dD61, dD13])
    clear hfr hX hD hst11q dD54 dD55 dD56 dD57 dD58 dD59 dD60 dD61 dD13 xX0 xX1 xX2 xX3 xX4 xX5
    subst hfr2
    clear σ β X
    refine then_normal ?_
    refine wp_seq ?_
    refine wp_region_V (by kernel_rfl) [0, 1, 3, 7, 7, 0, 47, 127] [[], [], [], [], [], [], [7], []] [[], [6], [], [], [], [7], [8], []] [[], [], [], [], [], [], [7], []] (fun ix σ β X => match ix with | 0 => σ 63 = .string T | 1 => σ 64 = .tuple #[.agg #[.int .i64 kT, .int .i64 lT, .slice (sA (tg (tg (β 64) 0) 2)) IT.length (sC (tg (tg (β 64) 0) 2))], .int .i64 eT] ∧ X 6 = eO 9 1 (.slice (sA (tg (tg (β 64) 0) 2)) IT.length (sC (tg (tg (β 64) 0) 2))) IT.length (IT.map Value.string) | 2 => σ 62 = .tuple #[.agg #[.int .i64 kT, .int .i64 lT, .slice (sA (tg (tg (β 64) 0) 2)) IT.length (sC (tg (tg (β 64) 0) 2))], .int .i64 eT] | 3 => σ 65 = .agg #[.int .i64 kT, .int .i64 lT, .slice (sA (tg (tg (β 64) 0) 2)) IT.length (sC (tg (tg (β 64) 0) 2))] | 4 => σ 66 = .int .i64 eT | 5 => σ 14 = .pointer (some ⟨(pb (β 14)), 0, none⟩) ∧ X 7 = eB (pb (β 14)) 26 #[.int .i64 0, .int .i64 0, .slice none 0 0] | 6 => X 8 = eB (pb (β 14)) 26 #[.int .i64 kT, .int .i64 lT, .slice (sA (tg (tg (β 64) 0) 2)) IT.length (sC (tg (tg (β 64) 0) 2))] | 7 => σ 15 = .int .i64 eT | _ => True) [0, 1, 2, 3, 4, 5, 6, 8] (by kernel_rfl) (by kernel_rfl) (by kernel_rfl) (by kernel_rfl) ?_ hst11 ?_ ?_
    · intro ix σ σ' β β' X X' hs hb hx h
      match ix, hs, hb, hx, h with
      | 0, hs, hb, hx, h => rw [← hs 63 (by kernel_rfl)]; exact h
      | 1, hs, hb, hx, h => rw [← hs 64 (by kernel_rfl), ← hb 64 (by kernel_rfl), ← hx 6 (by kernel_rfl)]; exact h
      | 2, hs, hb, hx, h => rw [← hs 62 (by kernel_rfl), ← hb 64 (by kernel_rfl)]; exact h
      | 3, hs, hb, hx, h => rw [← hs 65 (by kernel_rfl), ← hb 64 (by kernel_rfl)]; exact h
      | 4, hs, hb, hx, h => rw [← hs 66 (by kernel_rfl)]; exact h
      | 5, hs, hb, hx, h => rw [← hs 14 (by kernel_rfl), ← hb 14 (by kernel_rfl), ← hx 7 (by kernel_rfl)]; exact h
      | 6, hs, hb, hx, h => rw [← hb 14 (by kernel_rfl), ← hb 64 (by kernel_rfl), ← hx 8 (by kernel_rfl)]; exact h
      | 7, hs, hb, hx, h => rw [← hs 15 (by kernel_rfl)]; exact h
      | _ + 8, _, _, _, _ => trivial
    · refine ⟨⟨⟨⟨⟨⟨⟨⟨trivial, ?_⟩, ?_⟩, ?_⟩, ?_⟩, ?_⟩, ?_⟩, ?_⟩, ?_⟩
      · refine sv rfl rfl rfl rfl rfl (fun β => .string T) (fun _ _ _ h => h) (fun _ _ _ => rfl) fun ρ β W X cx => ?_
        have fF12 : ρ (.tmp 12) = .string T := cx.out 12 (by kernel_rfl)
        exact run_move' rfl fF12
      · refine sv_any rfl rfl fun ρ β W X cx => ?_
        have fF63 : ρ (.tmp 63) = .string T := (cx.anc 0 (by kernel_rfl))
        refine DoesU.call (run_callF (args := #[.string T]) rfl cx.sees rfl (by kernel_rfl) (by simp only [List.map_toArray, List.map_cons, List.map_nil, fF63])) ?_
        refine (hRT _).mono ?_
        rintro e W1 ⟨A4, c4, rfl, ho, hx⟩
        refine ⟨_, rfl, post_call [eO 9 1 (.slice A4 IT.length c4) IT.length (IT.map Value.string)] rfl rfl hx (one_new (eO_new ho)) (List.pairwise_singleton _ _) (fun σ β' X' hs hb hv hN => ?_)⟩
        have hv1 := (hv 64 rfl).1; have hv2 := (hv 64 rfl).2
        exact ⟨hv1.trans (by rw [hv2]; rfl), (by rw [hv2]; exact (List.cons.inj hN).1)⟩
      · refine sv rfl rfl rfl rfl rfl (fun β => .tuple #[.agg #[.int .i64 kT, .int .i64 lT, .slice (sA (tg (tg (β 64) 0) 2)) IT.length (sC (tg (tg (β 64) 0) 2))], .int .i64 eT]) (fun _ _ _ h => h) (fun β β' h => by rw [h 64 (by decide)]) fun ρ β W X cx => ?_
        have fF64 : ρ (.tmp 64) = .tuple #[.agg #[.int .i64 kT, .int .i64 lT, .slice (sA (tg (tg (β 64) 0) 2)) IT.length (sC (tg (tg (β 64) 0) 2))], .int .i64 eT] := (cx.anc 1 (by kernel_rfl)).1
        exact run_move' rfl fF64
      · refine sv rfl rfl rfl rfl rfl (fun β => .agg #[.int .i64 kT, .int .i64 lT, .slice (sA (tg (tg (β 64) 0) 2)) IT.length (sC (tg (tg (β 64) 0) 2))]) (fun _ _ _ h => h) (fun β β' h => by rw [h 64 (by decide)]) fun ρ β W X cx => ?_
        have fF62 : ρ (.tmp 62) = .tuple #[.agg #[.int .i64 kT, .int .i64 lT, .slice (sA (tg (tg (β 64) 0) 2)) IT.length (sC (tg (tg (β 64) 0) 2))], .int .i64 eT] := (cx.anc 2 (by kernel_rfl))
        exact run_extract' rfl fF62 rfl
      · refine sv rfl rfl rfl rfl rfl (fun β => .int .i64 eT) (fun _ _ _ h => h) (fun _ _ _ => rfl) fun ρ β W X cx => ?_
        have fF62 : ρ (.tmp 62) = .tuple #[.agg #[.int .i64 kT, .int .i64 lT, .slice (sA (tg (tg (β 64) 0) 2)) IT.length (sC (tg (tg (β 64) 0) 2))], .int .i64 eT] := (cx.anc 2 (by kernel_rfl))
        exact run_extract' rfl fF62 rfl
      · refine sv_any rfl rfl fun ρ β W X cx => ?_
        exact dv_alloc (cs := #[.int .i64 0, .int .i64 0, .slice none 0 0]) rfl (by kernel_rfl) rfl rfl (fun σ β' X' hs hb hv hx => ⟨hv, hx⟩)
      · refine sv_any rfl rfl fun ρ β W X cx => ?_
        have fF14 : ρ (.tmp 14) = .pointer (some ⟨(pb (β 14)), 0, none⟩) := (cx.anc 5 (by kernel_rfl)).1
        have fF65 : ρ (.tmp 65) = .agg #[.int .i64 kT, .int .i64 lT, .slice (sA (tg (tg (β 64) 0) 2)) IT.length (sC (tg (tg (β 64) 0) 2))] := (cx.anc 3 (by kernel_rfl))
        have xX7 : X 7 = eB (pb (β 14)) 26 #[.int .i64 0, .int .i64 0, .slice none 0 0] := (cx.anc 5 (by kernel_rfl)).2
        exact dv_store (n := 3) rfl fF14 fF65 (by kernel_rfl) rfl rfl cx xX7 rfl (Nat.le_of_ble_eq_true rfl) rfl rfl rfl rfl (fun σ β' X' hs hb hx => by rw [hb 14, hb 64]; exact hx)
      · refine sv rfl rfl rfl rfl rfl (fun β => .int .i64 eT) (fun _ _ _ h => h) (fun _ _ _ => rfl) fun ρ β W X cx => ?_
        have fF66 : ρ (.tmp 66) = .int .i64 eT := (cx.anc 4 (by kernel_rfl))
        exact run_assign' rfl fF66
    intro σ β X W12 hD hX hst12q fr hfr
    obtain ⟨A64_12, hu_A64_12⟩ : ∃ z, sA (tg (tg (β 64) 0) 2) = z := ⟨_, rfl⟩
    obtain ⟨c64_12, hu_c64_12⟩ : ∃ z, sC (tg (tg (β 64) 0) 2) = z := ⟨_, rfl⟩
    obtain ⟨B14_12, hu_B14_12⟩ : ∃ z, pb (β 14) = z := ⟨_, rfl⟩
    have dD63 : σ 63 = .string T := (hD 0 (Nat.le_of_ble_eq_true rfl))
    have dD64 : σ 64 = .tuple #[.agg #[.int .i64 kT, .int .i64 lT, .slice A64_12 IT.length c64_12], .int .i64 eT] := by rw [← hu_A64_12, ← hu_c64_12]; exact (hD 1 (Nat.le_of_ble_eq_true rfl)).1
    have dD62 : σ 62 = .tuple #[.agg #[.int .i64 kT, .int .i64 lT, .slice A64_12 IT.length c64_12], .int .i64 eT] := by rw [← hu_A64_12, ← hu_c64_12]; exact (hD 2 (Nat.le_of_ble_eq_true rfl))
    have dD65 : σ 65 = .agg #[.int .i64 kT, .int .i64 lT, .slice A64_12 IT.length c64_12] := by rw [← hu_A64_12, ← hu_c64_12]; exact (hD 3 (Nat.le_of_ble_eq_true rfl))
    have dD66 : σ 66 = .int .i64 eT := (hD 4 (Nat.le_of_ble_eq_true rfl))
    have dD14 : σ 14 = .pointer (some ⟨B14_12, 0, none⟩) := by rw [← hu_B14_12]; exact (hD 5 (Nat.le_of_ble_eq_true rfl)).1
    have dD15 : σ 15 = .int .i64 eT := (hD 7 (Nat.le_of_ble_eq_true rfl))
    have xX0 : X 0 = eB B2_1 24 #[.int .i64 kA, .int .i64 lA, .slice A sa.length c] := hX 0 _ rfl
    have xX1 : X 1 = eB B3_1 24 #[.int .i64 kB, .int .i64 lB, .slice B sb.length (c')] := hX 1 _ rfl
    have xX2 : X 2 = eO 9 1 (.slice A20_3 I1.length c20_3) I1.length (I1.map Value.string) := hX 2 _ rfl
    have xX3 : X 3 = eB B6_3 26 #[.int .i64 k1, .int .i64 l1, .slice A20_3 I1.length c20_3] := hX 3 _ rfl
    have xX4 : X 4 = eO 9 1 (.slice A22_4 I2.length c22_4) I2.length (I2.map Value.string) := hX 4 _ rfl
    have xX5 : X 5 = eB B7_4 26 #[.int .i64 k2, .int .i64 l2, .slice A22_4 I2.length c22_4] := hX 5 _ rfl
    have xX6 : X 6 = eO 9 1 (.slice A64_12 IT.length c64_12) IT.length (IT.map Value.string) := by rw [← hu_A64_12, ← hu_c64_12]; exact (hD 1 (Nat.le_of_ble_eq_true rfl)).2
    have xX8 : X 8 = eB B14_12 26 #[.int .i64 kT, .int .i64 lT, .slice A64_12 IT.length c64_12] := by rw [← hu_A64_12, ← hu_c64_12, ← hu_B14_12]; exact (hD 6 (Nat.le_of_ble_eq_true rfl))
    have hst12 : St w [] [eB B2_1 24 #[.int .i64 kA, .int .i64 lA, .slice A sa.length c], eB B3_1 24 #[.int .i64 kB, .int .i64 lB, .slice B sb.length (c')], eO 9 1 (.slice A20_3 I1.length c20_3) I1.length (I1.map Value.string), eB B6_3 26 #[.int .i64 k1, .int .i64 l1, .slice A20_3 I1.length c20_3], eO 9 1 (.slice A22_4 I2.length c22_4) I2.length (I2.map Value.string), eB B7_4 26 #[.int .i64 k2, .int .i64 l2, .slice A22_4 I2.length c22_4], eO 9 1 (.slice A64_12 IT.length c64_12) IT.length (IT.map Value.string), eB B14_12 26 #[.int .i64 kT, .int .i64 lT, .slice A64_12 IT.length c64_12]] W12 := by
      have h := hst12q
      simp only [List.map_cons, List.map_nil, xX0, xX1, xX2, xX3, xX4, xX5, xX6, xX8] at h
      exact h
    have hfr2 : fr = #[.agg #[.int .i64 kA, .int .i64 lA, .slice A sa.length c], .agg #[.int .i64 kB, .int .i64 lB, .slice B sb.length (c')], .pointer (some ⟨B2_1, 0, none⟩), .pointer (some ⟨B3_1, 0, none⟩), .bool false, .bool true, .pointer (some ⟨B6_3, 0, none⟩), .pointer (some ⟨B7_4, 0, none⟩), .string S1, .int .i64 0, .string S2, .int .i64 0, .string T, .string U, .pointer (some ⟨B14_12, 0, none⟩), .int .i64 eT, undef, undef, .bool true, .agg #[.int .i64 kA, .int .i64 lA, .slice A sa.length c], .agg #[.int .i64 k1, .int .i64 l1, .slice A20_3 I1.length c20_3], .agg #[.int .i64 kB, .int .i64 lB, .slice B sb.length (c')], .agg #[.int .i64 k2, .int .i64 l2, .slice A22_4 I2.length c22_4], .tuple #[.string S1, .int .i64 0], .agg #[.int .i64 k1, .int .i64 l1, .slice A20_3 I1.length c20_3], .tuple #[.string S1, .int .i64 0], .string S1, .int .i64 0, .tuple #[.string S2, .int .i64 0], .agg #[.int .i64 k2, .int .i64 l2, .slice A22_4 I2.length c22_4], .tuple #[.string S2, .int .i64 0], .string S2, .int .i64 0, .int .i64 0, .bool false, .bool false, .int .i64 0, .bool false, .bool false, .bool false, .string S1, .int .i64 ((S1.size : Int)), .bool ((S1.size : Int) != 512), .bool false, .bool false, .string S2, .int .i64 ((S2.size : Int)), .bool ((S2.size : Int) != 512), .bool false, .string S1, .string (S1.extract 0 256), .string S2, .string (S2.extract 256 S2.size), .string ((S1.extract 0 256) ++ (S2.extract 256 S2.size)), .string T, .string (T.extract 4 T.size), .int .u32 ((q : Int)), .int .i64 ((q : Int)), .string (putS (q : Int) 4), .string T, .string (T.extract 4 T.size), .string ((putS (q : Int) 4) ++ (T.extract 4 T.size)), .tuple #[.agg #[.int .i64 kT, .int .i64 lT, .slice A64_12 IT.length c64_12], .int .i64 eT], .string T, .tuple #[.agg #[.int .i64 kT, .int .i64 lT, .slice A64_12 IT.length c64_12], .int .i64 eT], .agg #[.int .i64 kT, .int .i64 lT, .slice A64_12 IT.length c64_12], .int .i64 eT, undef, undef, undef, undef, undef, undef, undef, undef, undef, undef, undef, undef, undef, undef, undef, undef, undef, undef, undef, undef] := hfr.trans (by rw [show dstsU _ = [63, 64, 62, 65, 66, 14, 15] by kernel_rfl]; simp only [List.map_cons, List.map_nil, putAll, List.setIfInBounds_toArray, List.set_cons_succ, List.set_cons_zero, dD63, dD64, dD62, dD65, dD66, dD14, dD15])
    clear hfr hX hD hst12q dD63 dD64 dD62 dD65 dD66 dD14 dD15 xX0 xX1 xX2 xX3 xX4 xX5 xX6 xX8 hu_A64_12 hu_c64_12 hu_B14_12
    subst hfr2
    clear σ β X
    refine then_normal ?_
    refine wp_seq ?_
    refine wp_region_V (by kernel_rfl) [0, 1, 3, 7, 7, 0, 47, 127] [[], [], [], [], [], [], [9], []] [[], [8], [], [], [], [9], [10], []] [[], [], [], [], [], [], [9], []] (fun ix σ β X => match ix with | 0 => σ 68 = .string U | 1 => σ 69 = .tuple #[.agg #[.int .i64 kU, .int .i64 lU, .slice (sA (tg (tg (β 69) 0) 2)) IU.length (sC (tg (tg (β 69) 0) 2))], .int .i64 eU] ∧ X 8 = eO 9 1 (.slice (sA (tg (tg (β 69) 0) 2)) IU.length (sC (tg (tg (β 69) 0) 2))) IU.length (IU.map Value.string) | 2 => σ 67 = .tuple #[.agg #[.int .i64 kU, .int .i64 lU, .slice (sA (tg (tg (β 69) 0) 2)) IU.length (sC (tg (tg (β 69) 0) 2))], .int .i64 eU] | 3 => σ 70 = .agg #[.int .i64 kU, .int .i64 lU, .slice (sA (tg (tg (β 69) 0) 2)) IU.length (sC (tg (tg (β 69) 0) 2))] | 4 => σ 71 = .int .i64 eU | 5 => σ 16 = .pointer (some ⟨(pb (β 16)), 0, none⟩) ∧ X 9 = eB (pb (β 16)) 26 #[.int .i64 0, .int .i64 0, .slice none 0 0] | 6 => X 10 = eB (pb (β 16)) 26 #[.int .i64 kU, .int .i64 lU, .slice (sA (tg (tg (β 69) 0) 2)) IU.length (sC (tg (tg (β 69) 0) 2))] | 7 => σ 17 = .int .i64 eU | _ => True) [0, 1, 2, 3, 4, 5, 6, 7, 8, 10] (by kernel_rfl) (by kernel_rfl) (by kernel_rfl) (by kernel_rfl) ?_ hst12 ?_ ?_
    · intro ix σ σ' β β' X X' hs hb hx h
      match ix, hs, hb, hx, h with
      | 0, hs, hb, hx, h => rw [← hs 68 (by kernel_rfl)]; exact h
      | 1, hs, hb, hx, h => rw [← hs 69 (by kernel_rfl), ← hb 69 (by kernel_rfl), ← hx 8 (by kernel_rfl)]; exact h
      | 2, hs, hb, hx, h => rw [← hs 67 (by kernel_rfl), ← hb 69 (by kernel_rfl)]; exact h
      | 3, hs, hb, hx, h => rw [← hs 70 (by kernel_rfl), ← hb 69 (by kernel_rfl)]; exact h
      | 4, hs, hb, hx, h => rw [← hs 71 (by kernel_rfl)]; exact h
      | 5, hs, hb, hx, h => rw [← hs 16 (by kernel_rfl), ← hb 16 (by kernel_rfl), ← hx 9 (by kernel_rfl)]; exact h
      | 6, hs, hb, hx, h => rw [← hb 16 (by kernel_rfl), ← hb 69 (by kernel_rfl), ← hx 10 (by kernel_rfl)]; exact h
      | 7, hs, hb, hx, h => rw [← hs 17 (by kernel_rfl)]; exact h
      | _ + 8, _, _, _, _ => trivial
    · refine ⟨⟨⟨⟨⟨⟨⟨⟨trivial, ?_⟩, ?_⟩, ?_⟩, ?_⟩, ?_⟩, ?_⟩, ?_⟩, ?_⟩
      · refine sv rfl rfl rfl rfl rfl (fun β => .string U) (fun _ _ _ h => h) (fun _ _ _ => rfl) fun ρ β W X cx => ?_
        have fF13 : ρ (.tmp 13) = .string U := cx.out 13 (by kernel_rfl)
        exact run_move' rfl fF13
      · refine sv_any rfl rfl fun ρ β W X cx => ?_
        have fF68 : ρ (.tmp 68) = .string U := (cx.anc 0 (by kernel_rfl))
        refine DoesU.call (run_callF (args := #[.string U]) rfl cx.sees rfl (by kernel_rfl) (by simp only [List.map_toArray, List.map_cons, List.map_nil, fF68])) ?_
        refine (hRU _).mono ?_
        rintro e W1 ⟨A4, c4, rfl, ho, hx⟩
        refine ⟨_, rfl, post_call [eO 9 1 (.slice A4 IU.length c4) IU.length (IU.map Value.string)] rfl rfl hx (one_new (eO_new ho)) (List.pairwise_singleton _ _) (fun σ β' X' hs hb hv hN => ?_)⟩
        have hv1 := (hv 69 rfl).1; have hv2 := (hv 69 rfl).2
        exact ⟨hv1.trans (by rw [hv2]; rfl), (by rw [hv2]; exact (List.cons.inj hN).1)⟩
      · refine sv rfl rfl rfl rfl rfl (fun β => .tuple #[.agg #[.int .i64 kU, .int .i64 lU, .slice (sA (tg (tg (β 69) 0) 2)) IU.length (sC (tg (tg (β 69) 0) 2))], .int .i64 eU]) (fun _ _ _ h => h) (fun β β' h => by rw [h 69 (by decide)]) fun ρ β W X cx => ?_
        have fF69 : ρ (.tmp 69) = .tuple #[.agg #[.int .i64 kU, .int .i64 lU, .slice (sA (tg (tg (β 69) 0) 2)) IU.length (sC (tg (tg (β 69) 0) 2))], .int .i64 eU] := (cx.anc 1 (by kernel_rfl)).1
        exact run_move' rfl fF69
      · refine sv rfl rfl rfl rfl rfl (fun β => .agg #[.int .i64 kU, .int .i64 lU, .slice (sA (tg (tg (β 69) 0) 2)) IU.length (sC (tg (tg (β 69) 0) 2))]) (fun _ _ _ h => h) (fun β β' h => by rw [h 69 (by decide)]) fun ρ β W X cx => ?_
        have fF67 : ρ (.tmp 67) = .tuple #[.agg #[.int .i64 kU, .int .i64 lU, .slice (sA (tg (tg (β 69) 0) 2)) IU.length (sC (tg (tg (β 69) 0) 2))], .int .i64 eU] := (cx.anc 2 (by kernel_rfl))
        exact run_extract' rfl fF67 rfl
      · refine sv rfl rfl rfl rfl rfl (fun β => .int .i64 eU) (fun _ _ _ h => h) (fun _ _ _ => rfl) fun ρ β W X cx => ?_
        have fF67 : ρ (.tmp 67) = .tuple #[.agg #[.int .i64 kU, .int .i64 lU, .slice (sA (tg (tg (β 69) 0) 2)) IU.length (sC (tg (tg (β 69) 0) 2))], .int .i64 eU] := (cx.anc 2 (by kernel_rfl))
        exact run_extract' rfl fF67 rfl
      · refine sv_any rfl rfl fun ρ β W X cx => ?_
        exact dv_alloc (cs := #[.int .i64 0, .int .i64 0, .slice none 0 0]) rfl (by kernel_rfl) rfl rfl (fun σ β' X' hs hb hv hx => ⟨hv, hx⟩)
      · refine sv_any rfl rfl fun ρ β W X cx => ?_
        have fF16 : ρ (.tmp 16) = .pointer (some ⟨(pb (β 16)), 0, none⟩) := (cx.anc 5 (by kernel_rfl)).1
        have fF70 : ρ (.tmp 70) = .agg #[.int .i64 kU, .int .i64 lU, .slice (sA (tg (tg (β 69) 0) 2)) IU.length (sC (tg (tg (β 69) 0) 2))] := (cx.anc 3 (by kernel_rfl))
        have xX9 : X 9 = eB (pb (β 16)) 26 #[.int .i64 0, .int .i64 0, .slice none 0 0] := (cx.anc 5 (by kernel_rfl)).2
        exact dv_store (n := 3) rfl fF16 fF70 (by kernel_rfl) rfl rfl cx xX9 rfl (Nat.le_of_ble_eq_true rfl) rfl rfl rfl rfl (fun σ β' X' hs hb hx => by rw [hb 16, hb 69]; exact hx)
      · refine sv rfl rfl rfl rfl rfl (fun β => .int .i64 eU) (fun _ _ _ h => h) (fun _ _ _ => rfl) fun ρ β W X cx => ?_
        have fF71 : ρ (.tmp 71) = .int .i64 eU := (cx.anc 4 (by kernel_rfl))
        exact run_assign' rfl fF71
    intro σ β X W13 hD hX hst13q fr hfr
    obtain ⟨A69_13, hu_A69_13⟩ : ∃ z, sA (tg (tg (β 69) 0) 2) = z := ⟨_, rfl⟩
    obtain ⟨c69_13, hu_c69_13⟩ : ∃ z, sC (tg (tg (β 69) 0) 2) = z := ⟨_, rfl⟩
    obtain ⟨B16_13, hu_B16_13⟩ : ∃ z, pb (β 16) = z := ⟨_, rfl⟩
    have dD68 : σ 68 = .string U := (hD 0 (Nat.le_of_ble_eq_true rfl))
    have dD69 : σ 69 = .tuple #[.agg #[.int .i64 kU, .int .i64 lU, .slice A69_13 IU.length c69_13], .int .i64 eU] := by rw [← hu_A69_13, ← hu_c69_13]; exact (hD 1 (Nat.le_of_ble_eq_true rfl)).1
    have dD67 : σ 67 = .tuple #[.agg #[.int .i64 kU, .int .i64 lU, .slice A69_13 IU.length c69_13], .int .i64 eU] := by rw [← hu_A69_13, ← hu_c69_13]; exact (hD 2 (Nat.le_of_ble_eq_true rfl))
    have dD70 : σ 70 = .agg #[.int .i64 kU, .int .i64 lU, .slice A69_13 IU.length c69_13] := by rw [← hu_A69_13, ← hu_c69_13]; exact (hD 3 (Nat.le_of_ble_eq_true rfl))
    have dD71 : σ 71 = .int .i64 eU := (hD 4 (Nat.le_of_ble_eq_true rfl))
    have dD16 : σ 16 = .pointer (some ⟨B16_13, 0, none⟩) := by rw [← hu_B16_13]; exact (hD 5 (Nat.le_of_ble_eq_true rfl)).1
    have dD17 : σ 17 = .int .i64 eU := (hD 7 (Nat.le_of_ble_eq_true rfl))
    have xX0 : X 0 = eB B2_1 24 #[.int .i64 kA, .int .i64 lA, .slice A sa.length c] := hX 0 _ rfl
    have xX1 : X 1 = eB B3_1 24 #[.int .i64 kB, .int .i64 lB, .slice B sb.length (c')] := hX 1 _ rfl
    have xX2 : X 2 = eO 9 1 (.slice A20_3 I1.length c20_3) I1.length (I1.map Value.string) := hX 2 _ rfl
    have xX3 : X 3 = eB B6_3 26 #[.int .i64 k1, .int .i64 l1, .slice A20_3 I1.length c20_3] := hX 3 _ rfl
    have xX4 : X 4 = eO 9 1 (.slice A22_4 I2.length c22_4) I2.length (I2.map Value.string) := hX 4 _ rfl
    have xX5 : X 5 = eB B7_4 26 #[.int .i64 k2, .int .i64 l2, .slice A22_4 I2.length c22_4] := hX 5 _ rfl
    have xX6 : X 6 = eO 9 1 (.slice A64_12 IT.length c64_12) IT.length (IT.map Value.string) := hX 6 _ rfl
    have xX7 : X 7 = eB B14_12 26 #[.int .i64 kT, .int .i64 lT, .slice A64_12 IT.length c64_12] := hX 7 _ rfl
    have xX8 : X 8 = eO 9 1 (.slice A69_13 IU.length c69_13) IU.length (IU.map Value.string) := by rw [← hu_A69_13, ← hu_c69_13]; exact (hD 1 (Nat.le_of_ble_eq_true rfl)).2
    have xX10 : X 10 = eB B16_13 26 #[.int .i64 kU, .int .i64 lU, .slice A69_13 IU.length c69_13] := by rw [← hu_A69_13, ← hu_c69_13, ← hu_B16_13]; exact (hD 6 (Nat.le_of_ble_eq_true rfl))
    have hst13 : St w [] [eB B2_1 24 #[.int .i64 kA, .int .i64 lA, .slice A sa.length c], eB B3_1 24 #[.int .i64 kB, .int .i64 lB, .slice B sb.length (c')], eO 9 1 (.slice A20_3 I1.length c20_3) I1.length (I1.map Value.string), eB B6_3 26 #[.int .i64 k1, .int .i64 l1, .slice A20_3 I1.length c20_3], eO 9 1 (.slice A22_4 I2.length c22_4) I2.length (I2.map Value.string), eB B7_4 26 #[.int .i64 k2, .int .i64 l2, .slice A22_4 I2.length c22_4], eO 9 1 (.slice A64_12 IT.length c64_12) IT.length (IT.map Value.string), eB B14_12 26 #[.int .i64 kT, .int .i64 lT, .slice A64_12 IT.length c64_12], eO 9 1 (.slice A69_13 IU.length c69_13) IU.length (IU.map Value.string), eB B16_13 26 #[.int .i64 kU, .int .i64 lU, .slice A69_13 IU.length c69_13]] W13 := by
      have h := hst13q
      simp only [List.map_cons, List.map_nil, xX0, xX1, xX2, xX3, xX4, xX5, xX6, xX7, xX8, xX10] at h
      exact h
    have hfr2 : fr = #[.agg #[.int .i64 kA, .int .i64 lA, .slice A sa.length c], .agg #[.int .i64 kB, .int .i64 lB, .slice B sb.length (c')], .pointer (some ⟨B2_1, 0, none⟩), .pointer (some ⟨B3_1, 0, none⟩), .bool false, .bool true, .pointer (some ⟨B6_3, 0, none⟩), .pointer (some ⟨B7_4, 0, none⟩), .string S1, .int .i64 0, .string S2, .int .i64 0, .string T, .string U, .pointer (some ⟨B14_12, 0, none⟩), .int .i64 eT, .pointer (some ⟨B16_13, 0, none⟩), .int .i64 eU, .bool true, .agg #[.int .i64 kA, .int .i64 lA, .slice A sa.length c], .agg #[.int .i64 k1, .int .i64 l1, .slice A20_3 I1.length c20_3], .agg #[.int .i64 kB, .int .i64 lB, .slice B sb.length (c')], .agg #[.int .i64 k2, .int .i64 l2, .slice A22_4 I2.length c22_4], .tuple #[.string S1, .int .i64 0], .agg #[.int .i64 k1, .int .i64 l1, .slice A20_3 I1.length c20_3], .tuple #[.string S1, .int .i64 0], .string S1, .int .i64 0, .tuple #[.string S2, .int .i64 0], .agg #[.int .i64 k2, .int .i64 l2, .slice A22_4 I2.length c22_4], .tuple #[.string S2, .int .i64 0], .string S2, .int .i64 0, .int .i64 0, .bool false, .bool false, .int .i64 0, .bool false, .bool false, .bool false, .string S1, .int .i64 ((S1.size : Int)), .bool ((S1.size : Int) != 512), .bool false, .bool false, .string S2, .int .i64 ((S2.size : Int)), .bool ((S2.size : Int) != 512), .bool false, .string S1, .string (S1.extract 0 256), .string S2, .string (S2.extract 256 S2.size), .string ((S1.extract 0 256) ++ (S2.extract 256 S2.size)), .string T, .string (T.extract 4 T.size), .int .u32 ((q : Int)), .int .i64 ((q : Int)), .string (putS (q : Int) 4), .string T, .string (T.extract 4 T.size), .string ((putS (q : Int) 4) ++ (T.extract 4 T.size)), .tuple #[.agg #[.int .i64 kT, .int .i64 lT, .slice A64_12 IT.length c64_12], .int .i64 eT], .string T, .tuple #[.agg #[.int .i64 kT, .int .i64 lT, .slice A64_12 IT.length c64_12], .int .i64 eT], .agg #[.int .i64 kT, .int .i64 lT, .slice A64_12 IT.length c64_12], .int .i64 eT, .tuple #[.agg #[.int .i64 kU, .int .i64 lU, .slice A69_13 IU.length c69_13], .int .i64 eU], .string U, .tuple #[.agg #[.int .i64 kU, .int .i64 lU, .slice A69_13 IU.length c69_13], .int .i64 eU], .agg #[.int .i64 kU, .int .i64 lU, .slice A69_13 IU.length c69_13], .int .i64 eU, undef, undef, undef, undef, undef, undef, undef, undef, undef, undef, undef, undef, undef, undef, undef] := hfr.trans (by rw [show dstsU _ = [68, 69, 67, 70, 71, 16, 17] by kernel_rfl]; simp only [List.map_cons, List.map_nil, putAll, List.setIfInBounds_toArray, List.set_cons_succ, List.set_cons_zero, dD68, dD69, dD67, dD70, dD71, dD16, dD17])
    clear hfr hX hD hst13q dD68 dD69 dD67 dD70 dD71 dD16 dD17 xX0 xX1 xX2 xX3 xX4 xX5 xX6 xX7 xX8 xX10 hu_A69_13 hu_c69_13 hu_B16_13
    subst hfr2
    clear σ β X
    refine then_normal ?_
    refine wp_seq ?_
    refine wp_seq ?_
    refine wp_region_V (by kernel_rfl) [0, 1, 0, 4, 15] [[], [3], [], [5], []] [[], [], [], [], []] [[], [], [], [], []] (fun ix σ β X => match ix with | 0 => σ 72 = .pointer (some ⟨B6_3, 1, none⟩) | 1 => σ 73 = .int .i64 l1 | 2 => σ 74 = .pointer (some ⟨B7_4, 1, none⟩) | 3 => σ 75 = .int .i64 l2 | 4 => σ 76 = .bool (l1 == l2) | _ => True) [0, 1, 2, 3, 4, 5, 6, 7, 8, 9] (by kernel_rfl) (by kernel_rfl) (by kernel_rfl) (by kernel_rfl) ?_ hst13 ?_ ?_
    · intro ix σ σ' β β' X X' hs hb hx h
      match ix, hs, hb, hx, h with
      | 0, hs, hb, hx, h => rw [← hs 72 (by kernel_rfl)]; exact h
      | 1, hs, hb, hx, h => rw [← hs 73 (by kernel_rfl)]; exact h
      | 2, hs, hb, hx, h => rw [← hs 74 (by kernel_rfl)]; exact h
      | 3, hs, hb, hx, h => rw [← hs 75 (by kernel_rfl)]; exact h
      | 4, hs, hb, hx, h => rw [← hs 76 (by kernel_rfl)]; exact h
      | _ + 5, _, _, _, _ => trivial
    · refine ⟨⟨⟨⟨⟨trivial, ?_⟩, ?_⟩, ?_⟩, ?_⟩, ?_⟩
      · refine sv rfl rfl rfl rfl rfl (fun β => .pointer (some ⟨B6_3, 1, none⟩)) (fun _ _ _ h => h) (fun _ _ _ => rfl) fun ρ β W X cx => ?_
        have fF6 : ρ (.tmp 6) = .pointer (some ⟨B6_3, 0, none⟩) := cx.out 6 (by kernel_rfl)
        exact run_fieldAddr' (k := 1) (n := 1) rfl (by kernel_rfl) fF6 rfl
      · refine sv rfl rfl rfl rfl rfl (fun β => .int .i64 l1) (fun _ _ _ h => h) (fun _ _ _ => rfl) fun ρ β W X cx => ?_
        have fF72 : ρ (.tmp 72) = .pointer (some ⟨B6_3, 1, none⟩) := (cx.anc 0 (by kernel_rfl))
        have xX3 : X 3 = eB B6_3 26 #[.int .i64 k1, .int .i64 l1, .slice A20_3 I1.length c20_3] := cx.init 3 _ rfl
        have kK3 : Blk W B6_3 26 #[.int .i64 k1, .int .i64 l1, .slice A20_3 I1.length c20_3] := by have h := (cx.ok 3 rfl).holds; rw [xX3] at h; exact h
        exact run_load1 rfl (by kernel_rfl) fF72 (show W.cell? ⟨B6_3, 1, none⟩ = some (.int .i64 l1) from kK3.cell 1)
      · refine sv rfl rfl rfl rfl rfl (fun β => .pointer (some ⟨B7_4, 1, none⟩)) (fun _ _ _ h => h) (fun _ _ _ => rfl) fun ρ β W X cx => ?_
        have fF7 : ρ (.tmp 7) = .pointer (some ⟨B7_4, 0, none⟩) := cx.out 7 (by kernel_rfl)
        exact run_fieldAddr' (k := 1) (n := 1) rfl (by kernel_rfl) fF7 rfl
      · refine sv rfl rfl rfl rfl rfl (fun β => .int .i64 l2) (fun _ _ _ h => h) (fun _ _ _ => rfl) fun ρ β W X cx => ?_
        have fF74 : ρ (.tmp 74) = .pointer (some ⟨B7_4, 1, none⟩) := (cx.anc 2 (by kernel_rfl))
        have xX5 : X 5 = eB B7_4 26 #[.int .i64 k2, .int .i64 l2, .slice A22_4 I2.length c22_4] := cx.init 5 _ rfl
        have kK5 : Blk W B7_4 26 #[.int .i64 k2, .int .i64 l2, .slice A22_4 I2.length c22_4] := by have h := (cx.ok 5 rfl).holds; rw [xX5] at h; exact h
        exact run_load1 rfl (by kernel_rfl) fF74 (show W.cell? ⟨B7_4, 1, none⟩ = some (.int .i64 l2) from kK5.cell 1)
      · refine sv rfl rfl rfl rfl rfl (fun β => .bool (l1 == l2)) (fun _ _ _ h => h) (fun _ _ _ => rfl) fun ρ β W X cx => ?_
        have fF73 : ρ (.tmp 73) = .int .i64 l1 := (cx.anc 1 (by kernel_rfl))
        have fF75 : ρ (.tmp 75) = .int .i64 l2 := (cx.anc 3 (by kernel_rfl))
        exact run_bin rfl fF73 fF75 rfl
    intro σ β X W14 hD hX hst14q fr hfr
    have dD72 : σ 72 = .pointer (some ⟨B6_3, 1, none⟩) := (hD 0 (Nat.le_of_ble_eq_true rfl))
    have dD73 : σ 73 = .int .i64 l1 := (hD 1 (Nat.le_of_ble_eq_true rfl))
    have dD74 : σ 74 = .pointer (some ⟨B7_4, 1, none⟩) := (hD 2 (Nat.le_of_ble_eq_true rfl))
    have dD75 : σ 75 = .int .i64 l2 := (hD 3 (Nat.le_of_ble_eq_true rfl))
    have dD76 : σ 76 = .bool (l1 == l2) := (hD 4 (Nat.le_of_ble_eq_true rfl))
    have xX0 : X 0 = eB B2_1 24 #[.int .i64 kA, .int .i64 lA, .slice A sa.length c] := hX 0 _ rfl
    have xX1 : X 1 = eB B3_1 24 #[.int .i64 kB, .int .i64 lB, .slice B sb.length (c')] := hX 1 _ rfl
    have xX2 : X 2 = eO 9 1 (.slice A20_3 I1.length c20_3) I1.length (I1.map Value.string) := hX 2 _ rfl
    have xX3 : X 3 = eB B6_3 26 #[.int .i64 k1, .int .i64 l1, .slice A20_3 I1.length c20_3] := hX 3 _ rfl
    have xX4 : X 4 = eO 9 1 (.slice A22_4 I2.length c22_4) I2.length (I2.map Value.string) := hX 4 _ rfl
    have xX5 : X 5 = eB B7_4 26 #[.int .i64 k2, .int .i64 l2, .slice A22_4 I2.length c22_4] := hX 5 _ rfl
    have xX6 : X 6 = eO 9 1 (.slice A64_12 IT.length c64_12) IT.length (IT.map Value.string) := hX 6 _ rfl
    have xX7 : X 7 = eB B14_12 26 #[.int .i64 kT, .int .i64 lT, .slice A64_12 IT.length c64_12] := hX 7 _ rfl
    have xX8 : X 8 = eO 9 1 (.slice A69_13 IU.length c69_13) IU.length (IU.map Value.string) := hX 8 _ rfl
    have xX9 : X 9 = eB B16_13 26 #[.int .i64 kU, .int .i64 lU, .slice A69_13 IU.length c69_13] := hX 9 _ rfl
    have hst14 : St w [] [eB B2_1 24 #[.int .i64 kA, .int .i64 lA, .slice A sa.length c], eB B3_1 24 #[.int .i64 kB, .int .i64 lB, .slice B sb.length (c')], eO 9 1 (.slice A20_3 I1.length c20_3) I1.length (I1.map Value.string), eB B6_3 26 #[.int .i64 k1, .int .i64 l1, .slice A20_3 I1.length c20_3], eO 9 1 (.slice A22_4 I2.length c22_4) I2.length (I2.map Value.string), eB B7_4 26 #[.int .i64 k2, .int .i64 l2, .slice A22_4 I2.length c22_4], eO 9 1 (.slice A64_12 IT.length c64_12) IT.length (IT.map Value.string), eB B14_12 26 #[.int .i64 kT, .int .i64 lT, .slice A64_12 IT.length c64_12], eO 9 1 (.slice A69_13 IU.length c69_13) IU.length (IU.map Value.string), eB B16_13 26 #[.int .i64 kU, .int .i64 lU, .slice A69_13 IU.length c69_13]] W14 := by
      have h := hst14q
      simp only [List.map_cons, List.map_nil, xX0, xX1, xX2, xX3, xX4, xX5, xX6, xX7, xX8, xX9] at h
      exact h
    have hfr2 : fr = #[.agg #[.int .i64 kA, .int .i64 lA, .slice A sa.length c], .agg #[.int .i64 kB, .int .i64 lB, .slice B sb.length (c')], .pointer (some ⟨B2_1, 0, none⟩), .pointer (some ⟨B3_1, 0, none⟩), .bool false, .bool true, .pointer (some ⟨B6_3, 0, none⟩), .pointer (some ⟨B7_4, 0, none⟩), .string S1, .int .i64 0, .string S2, .int .i64 0, .string T, .string U, .pointer (some ⟨B14_12, 0, none⟩), .int .i64 eT, .pointer (some ⟨B16_13, 0, none⟩), .int .i64 eU, .bool true, .agg #[.int .i64 kA, .int .i64 lA, .slice A sa.length c], .agg #[.int .i64 k1, .int .i64 l1, .slice A20_3 I1.length c20_3], .agg #[.int .i64 kB, .int .i64 lB, .slice B sb.length (c')], .agg #[.int .i64 k2, .int .i64 l2, .slice A22_4 I2.length c22_4], .tuple #[.string S1, .int .i64 0], .agg #[.int .i64 k1, .int .i64 l1, .slice A20_3 I1.length c20_3], .tuple #[.string S1, .int .i64 0], .string S1, .int .i64 0, .tuple #[.string S2, .int .i64 0], .agg #[.int .i64 k2, .int .i64 l2, .slice A22_4 I2.length c22_4], .tuple #[.string S2, .int .i64 0], .string S2, .int .i64 0, .int .i64 0, .bool false, .bool false, .int .i64 0, .bool false, .bool false, .bool false, .string S1, .int .i64 ((S1.size : Int)), .bool ((S1.size : Int) != 512), .bool false, .bool false, .string S2, .int .i64 ((S2.size : Int)), .bool ((S2.size : Int) != 512), .bool false, .string S1, .string (S1.extract 0 256), .string S2, .string (S2.extract 256 S2.size), .string ((S1.extract 0 256) ++ (S2.extract 256 S2.size)), .string T, .string (T.extract 4 T.size), .int .u32 ((q : Int)), .int .i64 ((q : Int)), .string (putS (q : Int) 4), .string T, .string (T.extract 4 T.size), .string ((putS (q : Int) 4) ++ (T.extract 4 T.size)), .tuple #[.agg #[.int .i64 kT, .int .i64 lT, .slice A64_12 IT.length c64_12], .int .i64 eT], .string T, .tuple #[.agg #[.int .i64 kT, .int .i64 lT, .slice A64_12 IT.length c64_12], .int .i64 eT], .agg #[.int .i64 kT, .int .i64 lT, .slice A64_12 IT.length c64_12], .int .i64 eT, .tuple #[.agg #[.int .i64 kU, .int .i64 lU, .slice A69_13 IU.length c69_13], .int .i64 eU], .string U, .tuple #[.agg #[.int .i64 kU, .int .i64 lU, .slice A69_13 IU.length c69_13], .int .i64 eU], .agg #[.int .i64 kU, .int .i64 lU, .slice A69_13 IU.length c69_13], .int .i64 eU, .pointer (some ⟨B6_3, 1, none⟩), .int .i64 l1, .pointer (some ⟨B7_4, 1, none⟩), .int .i64 l2, .bool (l1 == l2), undef, undef, undef, undef, undef, undef, undef, undef, undef, undef] := hfr.trans (by rw [show dstsU _ = [72, 73, 74, 75, 76] by kernel_rfl]; simp only [List.map_cons, List.map_nil, putAll, List.setIfInBounds_toArray, List.set_cons_succ, List.set_cons_zero, dD72, dD73, dD74, dD75, dD76])
    clear hfr hX hD hst14q dD72 dD73 dD74 dD75 dD76 xX0 xX1 xX2 xX3 xX4 xX5 xX6 xX7 xX8 xX9
    subst hfr2
    clear σ β X
    refine then_normal ?_
    have hd15 : (l1 == l2) = true := by simpa using heq
    refine wp_cond_true (show Act.eval _ _ = .bool true from (congrArg Value.bool hd15)) ?_
    refine wp_seq ?_
    refine wp_region_V (by kernel_rfl) [0, 1] [[], []] [[], []] [[], []] (fun ix σ β X => match ix with | 0 => σ 77 = .bool true | 1 => σ 4 = .bool true | _ => True) [0, 1, 2, 3, 4, 5, 6, 7, 8, 9] (by kernel_rfl) (by kernel_rfl) (by kernel_rfl) (by kernel_rfl) ?_ hst14 ?_ ?_
    · intro ix σ σ' β β' X X' hs hb hx h
      match ix, hs, hb, hx, h with
      | 0, hs, hb, hx, h => rw [← hs 77 (by kernel_rfl)]; exact h
      | 1, hs, hb, hx, h => rw [← hs 4 (by kernel_rfl)]; exact h
      | _ + 2, _, _, _, _ => trivial
    · refine ⟨⟨trivial, ?_⟩, ?_⟩
      · refine sv rfl rfl rfl rfl rfl (fun β => .bool true) (fun _ _ _ h => h) (fun _ _ _ => rfl) fun ρ β W X cx => ?_
        have fF5 : ρ (.tmp 5) = .bool true := cx.out 5 (by kernel_rfl)
        exact run_move' rfl fF5
      · refine sv rfl rfl rfl rfl rfl (fun β => .bool true) (fun _ _ _ h => h) (fun _ _ _ => rfl) fun ρ β W X cx => ?_
        have fF77 : ρ (.tmp 77) = .bool true := (cx.anc 0 (by kernel_rfl))
        exact run_assign' rfl fF77
    intro σ β X W16 hD hX hst16q fr hfr
    have dD77 : σ 77 = .bool true := (hD 0 (Nat.le_of_ble_eq_true rfl))
    have dD4 : σ 4 = .bool true := (hD 1 (Nat.le_of_ble_eq_true rfl))
    have xX0 : X 0 = eB B2_1 24 #[.int .i64 kA, .int .i64 lA, .slice A sa.length c] := hX 0 _ rfl
    have xX1 : X 1 = eB B3_1 24 #[.int .i64 kB, .int .i64 lB, .slice B sb.length (c')] := hX 1 _ rfl
    have xX2 : X 2 = eO 9 1 (.slice A20_3 I1.length c20_3) I1.length (I1.map Value.string) := hX 2 _ rfl
    have xX3 : X 3 = eB B6_3 26 #[.int .i64 k1, .int .i64 l1, .slice A20_3 I1.length c20_3] := hX 3 _ rfl
    have xX4 : X 4 = eO 9 1 (.slice A22_4 I2.length c22_4) I2.length (I2.map Value.string) := hX 4 _ rfl
    have xX5 : X 5 = eB B7_4 26 #[.int .i64 k2, .int .i64 l2, .slice A22_4 I2.length c22_4] := hX 5 _ rfl
    have xX6 : X 6 = eO 9 1 (.slice A64_12 IT.length c64_12) IT.length (IT.map Value.string) := hX 6 _ rfl
    have xX7 : X 7 = eB B14_12 26 #[.int .i64 kT, .int .i64 lT, .slice A64_12 IT.length c64_12] := hX 7 _ rfl
    have xX8 : X 8 = eO 9 1 (.slice A69_13 IU.length c69_13) IU.length (IU.map Value.string) := hX 8 _ rfl
    have xX9 : X 9 = eB B16_13 26 #[.int .i64 kU, .int .i64 lU, .slice A69_13 IU.length c69_13] := hX 9 _ rfl
    have hst16 : St w [] [eB B2_1 24 #[.int .i64 kA, .int .i64 lA, .slice A sa.length c], eB B3_1 24 #[.int .i64 kB, .int .i64 lB, .slice B sb.length (c')], eO 9 1 (.slice A20_3 I1.length c20_3) I1.length (I1.map Value.string), eB B6_3 26 #[.int .i64 k1, .int .i64 l1, .slice A20_3 I1.length c20_3], eO 9 1 (.slice A22_4 I2.length c22_4) I2.length (I2.map Value.string), eB B7_4 26 #[.int .i64 k2, .int .i64 l2, .slice A22_4 I2.length c22_4], eO 9 1 (.slice A64_12 IT.length c64_12) IT.length (IT.map Value.string), eB B14_12 26 #[.int .i64 kT, .int .i64 lT, .slice A64_12 IT.length c64_12], eO 9 1 (.slice A69_13 IU.length c69_13) IU.length (IU.map Value.string), eB B16_13 26 #[.int .i64 kU, .int .i64 lU, .slice A69_13 IU.length c69_13]] W16 := by
      have h := hst16q
      simp only [List.map_cons, List.map_nil, xX0, xX1, xX2, xX3, xX4, xX5, xX6, xX7, xX8, xX9] at h
      exact h
    have hfr2 : fr = #[.agg #[.int .i64 kA, .int .i64 lA, .slice A sa.length c], .agg #[.int .i64 kB, .int .i64 lB, .slice B sb.length (c')], .pointer (some ⟨B2_1, 0, none⟩), .pointer (some ⟨B3_1, 0, none⟩), .bool true, .bool true, .pointer (some ⟨B6_3, 0, none⟩), .pointer (some ⟨B7_4, 0, none⟩), .string S1, .int .i64 0, .string S2, .int .i64 0, .string T, .string U, .pointer (some ⟨B14_12, 0, none⟩), .int .i64 eT, .pointer (some ⟨B16_13, 0, none⟩), .int .i64 eU, .bool true, .agg #[.int .i64 kA, .int .i64 lA, .slice A sa.length c], .agg #[.int .i64 k1, .int .i64 l1, .slice A20_3 I1.length c20_3], .agg #[.int .i64 kB, .int .i64 lB, .slice B sb.length (c')], .agg #[.int .i64 k2, .int .i64 l2, .slice A22_4 I2.length c22_4], .tuple #[.string S1, .int .i64 0], .agg #[.int .i64 k1, .int .i64 l1, .slice A20_3 I1.length c20_3], .tuple #[.string S1, .int .i64 0], .string S1, .int .i64 0, .tuple #[.string S2, .int .i64 0], .agg #[.int .i64 k2, .int .i64 l2, .slice A22_4 I2.length c22_4], .tuple #[.string S2, .int .i64 0], .string S2, .int .i64 0, .int .i64 0, .bool false, .bool false, .int .i64 0, .bool false, .bool false, .bool false, .string S1, .int .i64 ((S1.size : Int)), .bool ((S1.size : Int) != 512), .bool false, .bool false, .string S2, .int .i64 ((S2.size : Int)), .bool ((S2.size : Int) != 512), .bool false, .string S1, .string (S1.extract 0 256), .string S2, .string (S2.extract 256 S2.size), .string ((S1.extract 0 256) ++ (S2.extract 256 S2.size)), .string T, .string (T.extract 4 T.size), .int .u32 ((q : Int)), .int .i64 ((q : Int)), .string (putS (q : Int) 4), .string T, .string (T.extract 4 T.size), .string ((putS (q : Int) 4) ++ (T.extract 4 T.size)), .tuple #[.agg #[.int .i64 kT, .int .i64 lT, .slice A64_12 IT.length c64_12], .int .i64 eT], .string T, .tuple #[.agg #[.int .i64 kT, .int .i64 lT, .slice A64_12 IT.length c64_12], .int .i64 eT], .agg #[.int .i64 kT, .int .i64 lT, .slice A64_12 IT.length c64_12], .int .i64 eT, .tuple #[.agg #[.int .i64 kU, .int .i64 lU, .slice A69_13 IU.length c69_13], .int .i64 eU], .string U, .tuple #[.agg #[.int .i64 kU, .int .i64 lU, .slice A69_13 IU.length c69_13], .int .i64 eU], .agg #[.int .i64 kU, .int .i64 lU, .slice A69_13 IU.length c69_13], .int .i64 eU, .pointer (some ⟨B6_3, 1, none⟩), .int .i64 l1, .pointer (some ⟨B7_4, 1, none⟩), .int .i64 l2, .bool (l1 == l2), .bool true, undef, undef, undef, undef, undef, undef, undef, undef, undef] := hfr.trans (by rw [show dstsU _ = [77, 4] by kernel_rfl]; simp only [List.map_cons, List.map_nil, putAll, List.setIfInBounds_toArray, List.set_cons_succ, List.set_cons_zero, dD77, dD4])
    clear hfr hX hD hst16q dD77 dD4 xX0 xX1 xX2 xX3 xX4 xX5 xX6 xX7 xX8 xX9
    subst hfr2
    clear σ β X
    refine then_normal ?_
    refine wp_ret ?_
    refine then_ret ?_
    refine bodyPost_ret (v := .bool true) (by simp [results, Try.results12, go_sem]) rfl ?_
    exact ⟨rfl, hst16.ext⟩
  · replace hXT := hXT hne
    go_enter Try.func12, Try.ntmps12
    have hst0 := St.start w
    refine wp_seq ?_
    refine wp_region_V (by kernel_rfl) [0, 0, 0] [[], [], []] [[0], [1], []] [[], [], []] (fun ix σ β X => match ix with | 0 => σ 2 = .pointer (some ⟨(pb (β 2)), 0, none⟩) ∧ X 0 = eB (pb (β 2)) 24 #[.int .i64 kA, .int .i64 lA, .slice A sa.length c] | 1 => σ 3 = .pointer (some ⟨(pb (β 3)), 0, none⟩) ∧ X 1 = eB (pb (β 3)) 24 #[.int .i64 kB, .int .i64 lB, .slice B sb.length (c')] | 2 => σ 4 = .bool false | _ => True) [0, 1] (by kernel_rfl) (by kernel_rfl) (by kernel_rfl) (by kernel_rfl) ?_ hst0 ?_ ?_
    · intro ix σ σ' β β' X X' hs hb hx h
      match ix, hs, hb, hx, h with
      | 0, hs, hb, hx, h => rw [← hs 2 (by kernel_rfl), ← hb 2 (by kernel_rfl), ← hx 0 (by kernel_rfl)]; exact h
      | 1, hs, hb, hx, h => rw [← hs 3 (by kernel_rfl), ← hb 3 (by kernel_rfl), ← hx 1 (by kernel_rfl)]; exact h
      | 2, hs, hb, hx, h => rw [← hs 4 (by kernel_rfl)]; exact h
      | _ + 3, _, _, _, _ => trivial
    · refine ⟨⟨⟨trivial, ?_⟩, ?_⟩, ?_⟩
      · refine sv_any rfl rfl fun ρ β W X cx => ?_
        have fF0 : ρ (.tmp 0) = .agg #[.int .i64 kA, .int .i64 lA, .slice A sa.length c] := cx.out 0 (by kernel_rfl)
        exact dv_box (cs := #[.int .i64 kA, .int .i64 lA, .slice A sa.length c]) rfl fF0 rfl rfl rfl (fun σ β' X' hs hb hv hx => ⟨hv, hx⟩)
      · refine sv_any rfl rfl fun ρ β W X cx => ?_
        have fF1 : ρ (.tmp 1) = .agg #[.int .i64 kB, .int .i64 lB, .slice B sb.length (c')] := cx.out 1 (by kernel_rfl)
        exact dv_box (cs := #[.int .i64 kB, .int .i64 lB, .slice B sb.length (c')]) rfl fF1 rfl rfl rfl (fun σ β' X' hs hb hv hx => ⟨hv, hx⟩)
      · refine sv rfl rfl rfl rfl rfl (fun β => .bool false) (fun _ _ _ h => h) (fun _ _ _ => rfl) fun ρ β W X cx => ?_
        exact run_assign' rfl (cx.sees.const _)
    intro σ β X W1 hD hX hst1q fr hfr
    obtain ⟨B2_1, hu_B2_1⟩ : ∃ z, pb (β 2) = z := ⟨_, rfl⟩
    obtain ⟨B3_1, hu_B3_1⟩ : ∃ z, pb (β 3) = z := ⟨_, rfl⟩
    have dD2 : σ 2 = .pointer (some ⟨B2_1, 0, none⟩) := by rw [← hu_B2_1]; exact (hD 0 (Nat.le_of_ble_eq_true rfl)).1
    have dD3 : σ 3 = .pointer (some ⟨B3_1, 0, none⟩) := by rw [← hu_B3_1]; exact (hD 1 (Nat.le_of_ble_eq_true rfl)).1
    have dD4 : σ 4 = .bool false := (hD 2 (Nat.le_of_ble_eq_true rfl))
    have xX0 : X 0 = eB B2_1 24 #[.int .i64 kA, .int .i64 lA, .slice A sa.length c] := by rw [← hu_B2_1]; exact (hD 0 (Nat.le_of_ble_eq_true rfl)).2
    have xX1 : X 1 = eB B3_1 24 #[.int .i64 kB, .int .i64 lB, .slice B sb.length (c')] := by rw [← hu_B3_1]; exact (hD 1 (Nat.le_of_ble_eq_true rfl)).2
    have hst1 : St w [] [eB B2_1 24 #[.int .i64 kA, .int .i64 lA, .slice A sa.length c], eB B3_1 24 #[.int .i64 kB, .int .i64 lB, .slice B sb.length (c')]] W1 := by
      have h := hst1q
      simp only [List.map_cons, List.map_nil, xX0, xX1] at h
      exact h
    have hfr2 : fr = #[.agg #[.int .i64 kA, .int .i64 lA, .slice A sa.length c], .agg #[.int .i64 kB, .int .i64 lB, .slice B sb.length (c')], .pointer (some ⟨B2_1, 0, none⟩), .pointer (some ⟨B3_1, 0, none⟩), .bool false, undef, undef, undef, undef, undef, undef, undef, undef, undef, undef, undef, undef, undef, undef, undef, undef, undef, undef, undef, undef, undef, undef, undef, undef, undef, undef, undef, undef, undef, undef, undef, undef, undef, undef, undef, undef, undef, undef, undef, undef, undef, undef, undef, undef, undef, undef, undef, undef, undef, undef, undef, undef, undef, undef, undef, undef, undef, undef, undef, undef, undef, undef, undef, undef, undef, undef, undef, undef, undef, undef, undef, undef, undef, undef, undef, undef, undef, undef, undef, undef, undef, undef] := hfr.trans (by rw [show dstsU _ = [2, 3, 4] by kernel_rfl]; simp only [List.map_cons, List.map_nil, putAll, List.setIfInBounds_toArray, List.set_cons_succ, List.set_cons_zero, dD2, dD3, dD4])
    clear hfr hX hD hst1q dD2 dD3 dD4 xX0 xX1 hu_B2_1 hu_B3_1
    subst hfr2
    clear σ β X
    refine then_normal ?_
    refine wp_seq ?_
    refine wp_region_V (by kernel_rfl) [0, 1] [[], []] [[], []] [[], []] (fun ix σ β X => match ix with | 0 => σ 18 = .bool true | 1 => σ 5 = .bool true | _ => True) [0, 1] (by kernel_rfl) (by kernel_rfl) (by kernel_rfl) (by kernel_rfl) ?_ hst1 ?_ ?_
    · intro ix σ σ' β β' X X' hs hb hx h
      match ix, hs, hb, hx, h with
      | 0, hs, hb, hx, h => rw [← hs 18 (by kernel_rfl)]; exact h
      | 1, hs, hb, hx, h => rw [← hs 5 (by kernel_rfl)]; exact h
      | _ + 2, _, _, _, _ => trivial
    · refine ⟨⟨trivial, ?_⟩, ?_⟩
      · refine sv_any rfl rfl fun ρ β W X cx => ?_
        refine DoesU.call (run_callF (args := #[]) rfl cx.sees rfl (by kernel_rfl) (by simp only [List.map_toArray, List.map_cons, List.map_nil])) ?_
        refine (sanity_any _).mono ?_
        rintro e W1 ⟨rfl, hx⟩
        refine ⟨_, rfl, post_call [] rfl rfl hx (by simp) List.Pairwise.nil (fun σ β' X' hs hb hv hN => ?_)⟩
        have hv1 := (hv 18 rfl).1; have hv2 := (hv 18 rfl).2
        exact hv1.trans rfl
      · refine sv rfl rfl rfl rfl rfl (fun β => .bool true) (fun _ _ _ h => h) (fun _ _ _ => rfl) fun ρ β W X cx => ?_
        have fF18 : ρ (.tmp 18) = .bool true := (cx.anc 0 (by kernel_rfl))
        exact run_assign' rfl fF18
    intro σ β X W2 hD hX hst2q fr hfr
    have dD18 : σ 18 = .bool true := (hD 0 (Nat.le_of_ble_eq_true rfl))
    have dD5 : σ 5 = .bool true := (hD 1 (Nat.le_of_ble_eq_true rfl))
    have xX0 : X 0 = eB B2_1 24 #[.int .i64 kA, .int .i64 lA, .slice A sa.length c] := hX 0 _ rfl
    have xX1 : X 1 = eB B3_1 24 #[.int .i64 kB, .int .i64 lB, .slice B sb.length (c')] := hX 1 _ rfl
    have hst2 : St w [] [eB B2_1 24 #[.int .i64 kA, .int .i64 lA, .slice A sa.length c], eB B3_1 24 #[.int .i64 kB, .int .i64 lB, .slice B sb.length (c')]] W2 := by
      have h := hst2q
      simp only [List.map_cons, List.map_nil, xX0, xX1] at h
      exact h
    have hfr2 : fr = #[.agg #[.int .i64 kA, .int .i64 lA, .slice A sa.length c], .agg #[.int .i64 kB, .int .i64 lB, .slice B sb.length (c')], .pointer (some ⟨B2_1, 0, none⟩), .pointer (some ⟨B3_1, 0, none⟩), .bool false, .bool true, undef, undef, undef, undef, undef, undef, undef, undef, undef, undef, undef, undef, .bool true, undef, undef, undef, undef, undef, undef, undef, undef, undef, undef, undef, undef, undef, undef, undef, undef, undef, undef, undef, undef, undef, undef, undef, undef, undef, undef, undef, undef, undef, undef, undef, undef, undef, undef, undef, undef, undef, undef, undef, undef, undef, undef, undef, undef, undef, undef, undef, undef, undef, undef, undef, undef, undef, undef, undef, undef, undef, undef, undef, undef, undef, undef, undef, undef, undef, undef, undef, undef] := hfr.trans (by rw [show dstsU _ = [18, 5] by kernel_rfl]; simp only [List.map_cons, List.map_nil, putAll, List.setIfInBounds_toArray, List.set_cons_succ, List.set_cons_zero, dD18, dD5])
    clear hfr hX hD hst2q dD18 dD5 xX0 xX1
    subst hfr2
    clear σ β X
    refine then_normal ?_
    refine wp_seq ?_
    refine wp_region_V (by kernel_rfl) [0, 1, 0, 7] [[0], [], [], [3]] [[], [2], [3], [4]] [[], [], [], [3]] (fun ix σ β X => match ix with | 0 => σ 19 = .agg #[.int .i64 kA, .int .i64 lA, .slice A sa.length c] | 1 => σ 20 = .agg #[.int .i64 k1, .int .i64 l1, .slice (sA (tg (β 20) 2)) I1.length (sC (tg (β 20) 2))] ∧ X 2 = eO 9 1 (.slice (sA (tg (β 20) 2)) I1.length (sC (tg (β 20) 2))) I1.length (I1.map Value.string) | 2 => σ 6 = .pointer (some ⟨(pb (β 6)), 0, none⟩) ∧ X 3 = eB (pb (β 6)) 26 #[.int .i64 0, .int .i64 0, .slice none 0 0] | 3 => X 4 = eB (pb (β 6)) 26 #[.int .i64 k1, .int .i64 l1, .slice (sA (tg (β 20) 2)) I1.length (sC (tg (β 20) 2))] | _ => True) [0, 1, 2, 4] (by kernel_rfl) (by kernel_rfl) (by kernel_rfl) (by kernel_rfl) ?_ hst2 ?_ ?_
    · intro ix σ σ' β β' X X' hs hb hx h
      match ix, hs, hb, hx, h with
      | 0, hs, hb, hx, h => rw [← hs 19 (by kernel_rfl)]; exact h
      | 1, hs, hb, hx, h => rw [← hs 20 (by kernel_rfl), ← hb 20 (by kernel_rfl), ← hx 2 (by kernel_rfl)]; exact h
      | 2, hs, hb, hx, h => rw [← hs 6 (by kernel_rfl), ← hb 6 (by kernel_rfl), ← hx 3 (by kernel_rfl)]; exact h
      | 3, hs, hb, hx, h => rw [← hb 6 (by kernel_rfl), ← hb 20 (by kernel_rfl), ← hx 4 (by kernel_rfl)]; exact h
      | _ + 4, _, _, _, _ => trivial
    · refine ⟨⟨⟨⟨trivial, ?_⟩, ?_⟩, ?_⟩, ?_⟩
      · refine sv rfl rfl rfl rfl rfl (fun β => .agg #[.int .i64 kA, .int .i64 lA, .slice A sa.length c]) (fun _ _ _ h => h) (fun _ _ _ => rfl) fun ρ β W X cx => ?_
        have fF2 : ρ (.tmp 2) = .pointer (some ⟨B2_1, 0, none⟩) := cx.out 2 (by kernel_rfl)
        have xX0 : X 0 = eB B2_1 24 #[.int .i64 kA, .int .i64 lA, .slice A sa.length c] := cx.init 0 _ rfl
        have kK0 : Blk W B2_1 24 #[.int .i64 kA, .int .i64 lA, .slice A sa.length c] := by have h := (cx.ok 0 rfl).holds; rw [xX0] at h; exact h
        exact run_loadB (n := 3) rfl (by kernel_rfl) (by kernel_rfl) fF2 kK0 (Nat.le_of_ble_eq_true rfl) rfl
      · refine sv_any rfl rfl fun ρ β W X cx => ?_
        have fF19 : ρ (.tmp 19) = .agg #[.int .i64 kA, .int .i64 lA, .slice A sa.length c] := (cx.anc 0 (by kernel_rfl))
        refine DoesU.call (run_callF (args := #[.agg #[.int .i64 kA, .int .i64 lA, .slice A sa.length c]]) rfl cx.sees rfl (by kernel_rfl) (by simp only [List.map_toArray, List.map_cons, List.map_nil, fF19])) ?_
        refine (HM1.out _ (HA.out.ext cx.upd.to_ext)).mono ?_
        rintro e W1 ⟨A4, c4, rfl, ho, hx⟩
        refine ⟨_, rfl, post_call [eO 9 1 (.slice A4 I1.length c4) I1.length (I1.map Value.string)] rfl rfl hx (one_new (eO_new ho)) (List.pairwise_singleton _ _) (fun σ β' X' hs hb hv hN => ?_)⟩
        have hv1 := (hv 20 rfl).1; have hv2 := (hv 20 rfl).2
        exact ⟨hv1.trans (by rw [hv2]; rfl), (by rw [hv2]; exact (List.cons.inj hN).1)⟩
      · refine sv_any rfl rfl fun ρ β W X cx => ?_
        exact dv_alloc (cs := #[.int .i64 0, .int .i64 0, .slice none 0 0]) rfl (by kernel_rfl) rfl rfl (fun σ β' X' hs hb hv hx => ⟨hv, hx⟩)
      · refine sv_any rfl rfl fun ρ β W X cx => ?_
        have fF6 : ρ (.tmp 6) = .pointer (some ⟨(pb (β 6)), 0, none⟩) := (cx.anc 2 (by kernel_rfl)).1
        have fF20 : ρ (.tmp 20) = .agg #[.int .i64 k1, .int .i64 l1, .slice (sA (tg (β 20) 2)) I1.length (sC (tg (β 20) 2))] := (cx.anc 1 (by kernel_rfl)).1
        have xX3 : X 3 = eB (pb (β 6)) 26 #[.int .i64 0, .int .i64 0, .slice none 0 0] := (cx.anc 2 (by kernel_rfl)).2
        exact dv_store (n := 3) rfl fF6 fF20 (by kernel_rfl) rfl rfl cx xX3 rfl (Nat.le_of_ble_eq_true rfl) rfl rfl rfl rfl (fun σ β' X' hs hb hx => by rw [hb 6, hb 20]; exact hx)
    intro σ β X W3 hD hX hst3q fr hfr
    obtain ⟨A20_3, hu_A20_3⟩ : ∃ z, sA (tg (β 20) 2) = z := ⟨_, rfl⟩
    obtain ⟨c20_3, hu_c20_3⟩ : ∃ z, sC (tg (β 20) 2) = z := ⟨_, rfl⟩
    obtain ⟨B6_3, hu_B6_3⟩ : ∃ z, pb (β 6) = z := ⟨_, rfl⟩
    have dD19 : σ 19 = .agg #[.int .i64 kA, .int .i64 lA, .slice A sa.length c] := (hD 0 (Nat.le_of_ble_eq_true rfl))
    have dD20 : σ 20 = .agg #[.int .i64 k1, .int .i64 l1, .slice A20_3 I1.length c20_3] := by rw [← hu_A20_3, ← hu_c20_3]; exact (hD 1 (Nat.le_of_ble_eq_true rfl)).1
    have dD6 : σ 6 = .pointer (some ⟨B6_3, 0, none⟩) := by rw [← hu_B6_3]; exact (hD 2 (Nat.le_of_ble_eq_true rfl)).1
    have xX0 : X 0 = eB B2_1 24 #[.int .i64 kA, .int .i64 lA, .slice A sa.length c] := hX 0 _ rfl
    have xX1 : X 1 = eB B3_1 24 #[.int .i64 kB, .int .i64 lB, .slice B sb.length (c')] := hX 1 _ rfl
    have xX2 : X 2 = eO 9 1 (.slice A20_3 I1.length c20_3) I1.length (I1.map Value.string) := by rw [← hu_A20_3, ← hu_c20_3]; exact (hD 1 (Nat.le_of_ble_eq_true rfl)).2
    have xX4 : X 4 = eB B6_3 26 #[.int .i64 k1, .int .i64 l1, .slice A20_3 I1.length c20_3] := by rw [← hu_A20_3, ← hu_c20_3, ← hu_B6_3]; exact (hD 3 (Nat.le_of_ble_eq_true rfl))
    have hst3 : St w [] [eB B2_1 24 #[.int .i64 kA, .int .i64 lA, .slice A sa.length c], eB B3_1 24 #[.int .i64 kB, .int .i64 lB, .slice B sb.length (c')], eO 9 1 (.slice A20_3 I1.length c20_3) I1.length (I1.map Value.string), eB B6_3 26 #[.int .i64 k1, .int .i64 l1, .slice A20_3 I1.length c20_3]] W3 := by
      have h := hst3q
      simp only [List.map_cons, List.map_nil, xX0, xX1, xX2, xX4] at h
      exact h
    have hfr2 : fr = #[.agg #[.int .i64 kA, .int .i64 lA, .slice A sa.length c], .agg #[.int .i64 kB, .int .i64 lB, .slice B sb.length (c')], .pointer (some ⟨B2_1, 0, none⟩), .pointer (some ⟨B3_1, 0, none⟩), .bool false, .bool true, .pointer (some ⟨B6_3, 0, none⟩), undef, undef, undef, undef, undef, undef, undef, undef, undef, undef, undef, .bool true, .agg #[.int .i64 kA, .int .i64 lA, .slice A sa.length c], .agg #[.int .i64 k1, .int .i64 l1, .slice A20_3 I1.length c20_3], undef, undef, undef, undef, undef, undef, undef, undef, undef, undef, undef, undef, undef, undef, undef, undef, undef, undef, undef, undef, undef, undef, undef, undef, undef, undef, undef, undef, undef, undef, undef, undef, undef, undef, undef, undef, undef, undef, undef, undef, undef, undef, undef, undef, undef, undef, undef, undef, undef, undef, undef, undef, undef, undef, undef, undef, undef, undef, undef, undef, undef, undef, undef, undef, undef, undef] := hfr.trans (by rw [show dstsU _ = [19, 20, 6] by kernel_rfl]; simp only [List.map_cons, List.map_nil, putAll, List.setIfInBounds_toArray, List.set_cons_succ, List.set_cons_zero, dD19, dD20, dD6])
    clear hfr hX hD hst3q dD19 dD20 dD6 xX0 xX1 xX2 xX4 hu_A20_3 hu_c20_3 hu_B6_3
    subst hfr2
    clear σ β X
    refine then_normal ?_
    refine wp_seq ?_
    refine wp_region_V (by kernel_rfl) [0, 1, 0, 7] [[1], [], [], [5]] [[], [4], [5], [6]] [[], [], [], [5]] (fun ix σ β X => match ix with | 0 => σ 21 = .agg #[.int .i64 kB, .int .i64 lB, .slice B sb.length (c')] | 1 => σ 22 = .agg #[.int .i64 k2, .int .i64 l2, .slice (sA (tg (β 22) 2)) I2.length (sC (tg (β 22) 2))] ∧ X 4 = eO 9 1 (.slice (sA (tg (β 22) 2)) I2.length (sC (tg (β 22) 2))) I2.length (I2.map Value.string) | 2 => σ 7 = .pointer (some ⟨(pb (β 7)), 0, none⟩) ∧ X 5 = eB (pb (β 7)) 26 #[.int .i64 0, .int .i64 0, .slice none 0 0] | 3 => X 6 = eB (pb (β 7)) 26 #[.int .i64 k2, .int .i64 l2, .slice (sA (tg (β 22) 2)) I2.length (sC (tg (β 22) 2))] | _ => True) [0, 1, 2, 3, 4, 6] (by kernel_rfl) (by kernel_rfl) (by kernel_rfl) (by kernel_rfl) ?_ hst3 ?_ ?_
    · intro ix σ σ' β β' X X' hs hb hx h
      match ix, hs, hb, hx, h with
      | 0, hs, hb, hx, h => rw [← hs 21 (by kernel_rfl)]; exact h
      | 1, hs, hb, hx, h => rw [← hs 22 (by kernel_rfl), ← hb 22 (by kernel_rfl), ← hx 4 (by kernel_rfl)]; exact h
      | 2, hs, hb, hx, h => rw [← hs 7 (by kernel_rfl), ← hb 7 (by kernel_rfl), ← hx 5 (by kernel_rfl)]; exact h
      | 3, hs, hb, hx, h => rw [← hb 7 (by kernel_rfl), ← hb 22 (by kernel_rfl), ← hx 6 (by kernel_rfl)]; exact h
      | _ + 4, _, _, _, _ => trivial
    · refine ⟨⟨⟨⟨trivial, ?_⟩, ?_⟩, ?_⟩, ?_⟩
      · refine sv rfl rfl rfl rfl rfl (fun β => .agg #[.int .i64 kB, .int .i64 lB, .slice B sb.length (c')]) (fun _ _ _ h => h) (fun _ _ _ => rfl) fun ρ β W X cx => ?_
        have fF3 : ρ (.tmp 3) = .pointer (some ⟨B3_1, 0, none⟩) := cx.out 3 (by kernel_rfl)
        have xX1 : X 1 = eB B3_1 24 #[.int .i64 kB, .int .i64 lB, .slice B sb.length (c')] := cx.init 1 _ rfl
        have kK1 : Blk W B3_1 24 #[.int .i64 kB, .int .i64 lB, .slice B sb.length (c')] := by have h := (cx.ok 1 rfl).holds; rw [xX1] at h; exact h
        exact run_loadB (n := 3) rfl (by kernel_rfl) (by kernel_rfl) fF3 kK1 (Nat.le_of_ble_eq_true rfl) rfl
      · refine sv_any rfl rfl fun ρ β W X cx => ?_
        have fF21 : ρ (.tmp 21) = .agg #[.int .i64 kB, .int .i64 lB, .slice B sb.length (c')] := (cx.anc 0 (by kernel_rfl))
        refine DoesU.call (run_callF (args := #[.agg #[.int .i64 kB, .int .i64 lB, .slice B sb.length (c')]]) rfl cx.sees rfl (by kernel_rfl) (by simp only [List.map_toArray, List.map_cons, List.map_nil, fF21])) ?_
        refine (HM2.out _ (HB.out.ext cx.upd.to_ext)).mono ?_
        rintro e W1 ⟨A4, c4, rfl, ho, hx⟩
        refine ⟨_, rfl, post_call [eO 9 1 (.slice A4 I2.length c4) I2.length (I2.map Value.string)] rfl rfl hx (one_new (eO_new ho)) (List.pairwise_singleton _ _) (fun σ β' X' hs hb hv hN => ?_)⟩
        have hv1 := (hv 22 rfl).1; have hv2 := (hv 22 rfl).2
        exact ⟨hv1.trans (by rw [hv2]; rfl), (by rw [hv2]; exact (List.cons.inj hN).1)⟩
      · refine sv_any rfl rfl fun ρ β W X cx => ?_
        exact dv_alloc (cs := #[.int .i64 0, .int .i64 0, .slice none 0 0]) rfl (by kernel_rfl) rfl rfl (fun σ β' X' hs hb hv hx => ⟨hv, hx⟩)
      · refine sv_any rfl rfl fun ρ β W X cx => ?_
        have fF7 : ρ (.tmp 7) = .pointer (some ⟨(pb (β 7)), 0, none⟩) := (cx.anc 2 (by kernel_rfl)).1
        have fF22 : ρ (.tmp 22) = .agg #[.int .i64 k2, .int .i64 l2, .slice (sA (tg (β 22) 2)) I2.length (sC (tg (β 22) 2))] := (cx.anc 1 (by kernel_rfl)).1
        have xX5 : X 5 = eB (pb (β 7)) 26 #[.int .i64 0, .int .i64 0, .slice none 0 0] := (cx.anc 2 (by kernel_rfl)).2
        exact dv_store (n := 3) rfl fF7 fF22 (by kernel_rfl) rfl rfl cx xX5 rfl (Nat.le_of_ble_eq_true rfl) rfl rfl rfl rfl (fun σ β' X' hs hb hx => by rw [hb 7, hb 22]; exact hx)
    intro σ β X W4 hD hX hst4q fr hfr
    obtain ⟨A22_4, hu_A22_4⟩ : ∃ z, sA (tg (β 22) 2) = z := ⟨_, rfl⟩
    obtain ⟨c22_4, hu_c22_4⟩ : ∃ z, sC (tg (β 22) 2) = z := ⟨_, rfl⟩
    obtain ⟨B7_4, hu_B7_4⟩ : ∃ z, pb (β 7) = z := ⟨_, rfl⟩
    have dD21 : σ 21 = .agg #[.int .i64 kB, .int .i64 lB, .slice B sb.length (c')] := (hD 0 (Nat.le_of_ble_eq_true rfl))
    have dD22 : σ 22 = .agg #[.int .i64 k2, .int .i64 l2, .slice A22_4 I2.length c22_4] := by rw [← hu_A22_4, ← hu_c22_4]; exact (hD 1 (Nat.le_of_ble_eq_true rfl)).1
    have dD7 : σ 7 = .pointer (some ⟨B7_4, 0, none⟩) := by rw [← hu_B7_4]; exact (hD 2 (Nat.le_of_ble_eq_true rfl)).1
    have xX0 : X 0 = eB B2_1 24 #[.int .i64 kA, .int .i64 lA, .slice A sa.length c] := hX 0 _ rfl
    have xX1 : X 1 = eB B3_1 24 #[.int .i64 kB, .int .i64 lB, .slice B sb.length (c')] := hX 1 _ rfl
    have xX2 : X 2 = eO 9 1 (.slice A20_3 I1.length c20_3) I1.length (I1.map Value.string) := hX 2 _ rfl
    have xX3 : X 3 = eB B6_3 26 #[.int .i64 k1, .int .i64 l1, .slice A20_3 I1.length c20_3] := hX 3 _ rfl
    have xX4 : X 4 = eO 9 1 (.slice A22_4 I2.length c22_4) I2.length (I2.map Value.string) := by rw [← hu_A22_4, ← hu_c22_4]; exact (hD 1 (Nat.le_of_ble_eq_true rfl)).2
    have xX6 : X 6 = eB B7_4 26 #[.int .i64 k2, .int .i64 l2, .slice A22_4 I2.length c22_4] := by rw [← hu_A22_4, ← hu_c22_4, ← hu_B7_4]; exact (hD 3 (Nat.le_of_ble_eq_true rfl))
    have hst4 : St w [] [eB B2_1 24 #[.int .i64 kA, .int .i64 lA, .slice A sa.length c], eB B3_1 24 #[.int .i64 kB, .int .i64 lB, .slice B sb.length (c')], eO 9 1 (.slice A20_3 I1.length c20_3) I1.length (I1.map Value.string), eB B6_3 26 #[.int .i64 k1, .int .i64 l1, .slice A20_3 I1.length c20_3], eO 9 1 (.slice A22_4 I2.length c22_4) I2.length (I2.map Value.string), eB B7_4 26 #[.int .i64 k2, .int .i64 l2, .slice A22_4 I2.length c22_4]] W4 := by
      have h := hst4q
      simp only [List.map_cons, List.map_nil, xX0, xX1, xX2, xX3, xX4, xX6] at h
      exact h
    have hfr2 : fr = #[.agg #[.int .i64 kA, .int .i64 lA, .slice A sa.length c], .agg #[.int .i64 kB, .int .i64 lB, .slice B sb.length (c')], .pointer (some ⟨B2_1, 0, none⟩), .pointer (some ⟨B3_1, 0, none⟩), .bool false, .bool true, .pointer (some ⟨B6_3, 0, none⟩), .pointer (some ⟨B7_4, 0, none⟩), undef, undef, undef, undef, undef, undef, undef, undef, undef, undef, .bool true, .agg #[.int .i64 kA, .int .i64 lA, .slice A sa.length c], .agg #[.int .i64 k1, .int .i64 l1, .slice A20_3 I1.length c20_3], .agg #[.int .i64 kB, .int .i64 lB, .slice B sb.length (c')], .agg #[.int .i64 k2, .int .i64 l2, .slice A22_4 I2.length c22_4], undef, undef, undef, undef, undef, undef, undef, undef, undef, undef, undef, undef, undef, undef, undef, undef, undef, undef, undef, undef, undef, undef, undef, undef, undef, undef, undef, undef, undef, undef, undef, undef, undef, undef, undef, undef, undef, undef, undef, undef, undef, undef, undef, undef, undef, undef, undef, undef, undef, undef, undef, undef, undef, undef, undef, undef, undef, undef, undef, undef, undef, undef, undef, undef] := hfr.trans (by rw [show dstsU _ = [21, 22, 7] by kernel_rfl]; simp only [List.map_cons, List.map_nil, putAll, List.setIfInBounds_toArray, List.set_cons_succ, List.set_cons_zero, dD21, dD22, dD7])
    clear hfr hX hD hst4q dD21 dD22 dD7 xX0 xX1 xX2 xX3 xX4 xX6 hu_A22_4 hu_c22_4 hu_B7_4
    subst hfr2
    clear σ β X
    refine then_normal ?_
    refine wp_seq ?_
    refine wp_region_V (by kernel_rfl) [0, 1, 3, 7, 7, 15, 63] [[3], [2], [], [], [], [], []] [[], [], [], [], [], [], []] [[], [], [], [], [], [], []] (fun ix σ β X => match ix with | 0 => σ 24 = .agg #[.int .i64 k1, .int .i64 l1, .slice A20_3 I1.length c20_3] | 1 => σ 25 = .tuple #[.string S1, .int .i64 0] | 2 => σ 23 = .tuple #[.string S1, .int .i64 0] | 3 => σ 26 = .string S1 | 4 => σ 27 = .int .i64 0 | 5 => σ 8 = .string S1 | 6 => σ 9 = .int .i64 0 | _ => True) [0, 1, 2, 3, 4, 5] (by kernel_rfl) (by kernel_rfl) (by kernel_rfl) (by kernel_rfl) ?_ hst4 ?_ ?_
    · intro ix σ σ' β β' X X' hs hb hx h
      match ix, hs, hb, hx, h with
      | 0, hs, hb, hx, h => rw [← hs 24 (by kernel_rfl)]; exact h
      | 1, hs, hb, hx, h => rw [← hs 25 (by kernel_rfl)]; exact h
      | 2, hs, hb, hx, h => rw [← hs 23 (by kernel_rfl)]; exact h
      | 3, hs, hb, hx, h => rw [← hs 26 (by kernel_rfl)]; exact h
      | 4, hs, hb, hx, h => rw [← hs 27 (by kernel_rfl)]; exact h
      | 5, hs, hb, hx, h => rw [← hs 8 (by kernel_rfl)]; exact h
      | 6, hs, hb, hx, h => rw [← hs 9 (by kernel_rfl)]; exact h
      | _ + 7, _, _, _, _ => trivial
    · refine ⟨⟨⟨⟨⟨⟨⟨trivial, ?_⟩, ?_⟩, ?_⟩, ?_⟩, ?_⟩, ?_⟩, ?_⟩
      · refine sv rfl rfl rfl rfl rfl (fun β => .agg #[.int .i64 k1, .int .i64 l1, .slice A20_3 I1.length c20_3]) (fun _ _ _ h => h) (fun _ _ _ => rfl) fun ρ β W X cx => ?_
        have fF6 : ρ (.tmp 6) = .pointer (some ⟨B6_3, 0, none⟩) := cx.out 6 (by kernel_rfl)
        have xX3 : X 3 = eB B6_3 26 #[.int .i64 k1, .int .i64 l1, .slice A20_3 I1.length c20_3] := cx.init 3 _ rfl
        have kK3 : Blk W B6_3 26 #[.int .i64 k1, .int .i64 l1, .slice A20_3 I1.length c20_3] := by have h := (cx.ok 3 rfl).holds; rw [xX3] at h; exact h
        exact run_loadB (n := 3) rfl (by kernel_rfl) (by kernel_rfl) fF6 kK3 (Nat.le_of_ble_eq_true rfl) rfl
      · refine sv_any rfl rfl fun ρ β W X cx => ?_
        have fF24 : ρ (.tmp 24) = .agg #[.int .i64 k1, .int .i64 l1, .slice A20_3 I1.length c20_3] := (cx.anc 0 (by kernel_rfl))
        have xX2 : X 2 = eO 9 1 (.slice A20_3 I1.length c20_3) I1.length (I1.map Value.string) := cx.init 2 _ rfl
        have kK2 : W.ownsRow 0 9 1 (.slice A20_3 I1.length c20_3) I1.length (I1.map Value.string) := by have h := (cx.ok 2 rfl).holds; rw [xX2] at h; exact h
        refine DoesU.call (run_callF (args := #[.agg #[.int .i64 k1, .int .i64 l1, .slice A20_3 I1.length c20_3]]) rfl cx.sees rfl (by kernel_rfl) (by simp only [List.map_toArray, List.map_cons, List.map_nil, fF24])) ?_
        refine (BY1.out _ _ _ (At.of_own kK2)).mono ?_
        rintro e W1 ⟨rfl, hx⟩
        refine ⟨_, rfl, post_call [] rfl rfl hx (by simp) List.Pairwise.nil (fun σ β' X' hs hb hv hN => ?_)⟩
        have hv1 := (hv 25 rfl).1; have hv2 := (hv 25 rfl).2
        exact hv1.trans rfl
      · refine sv rfl rfl rfl rfl rfl (fun β => .tuple #[.string S1, .int .i64 0]) (fun _ _ _ h => h) (fun _ _ _ => rfl) fun ρ β W X cx => ?_
        have fF25 : ρ (.tmp 25) = .tuple #[.string S1, .int .i64 0] := (cx.anc 1 (by kernel_rfl))
        exact run_move' rfl fF25
      · refine sv rfl rfl rfl rfl rfl (fun β => .string S1) (fun _ _ _ h => h) (fun _ _ _ => rfl) fun ρ β W X cx => ?_
        have fF23 : ρ (.tmp 23) = .tuple #[.string S1, .int .i64 0] := (cx.anc 2 (by kernel_rfl))
        exact run_extract' rfl fF23 rfl
      · refine sv rfl rfl rfl rfl rfl (fun β => .int .i64 0) (fun _ _ _ h => h) (fun _ _ _ => rfl) fun ρ β W X cx => ?_
        have fF23 : ρ (.tmp 23) = .tuple #[.string S1, .int .i64 0] := (cx.anc 2 (by kernel_rfl))
        exact run_extract' rfl fF23 rfl
      · refine sv rfl rfl rfl rfl rfl (fun β => .string S1) (fun _ _ _ h => h) (fun _ _ _ => rfl) fun ρ β W X cx => ?_
        have fF26 : ρ (.tmp 26) = .string S1 := (cx.anc 3 (by kernel_rfl))
        exact run_assign' rfl fF26
      · refine sv rfl rfl rfl rfl rfl (fun β => .int .i64 0) (fun _ _ _ h => h) (fun _ _ _ => rfl) fun ρ β W X cx => ?_
        have fF27 : ρ (.tmp 27) = .int .i64 0 := (cx.anc 4 (by kernel_rfl))
        exact run_assign' rfl fF27
    intro σ β X W5 hD hX hst5q fr hfr
    have dD24 : σ 24 = .agg #[.int .i64 k1, .int .i64 l1, .slice A20_3 I1.length c20_3] := (hD 0 (Nat.le_of_ble_eq_true rfl))
    have dD25 : σ 25 = .tuple #[.string S1, .int .i64 0] := (hD 1 (Nat.le_of_ble_eq_true rfl))
    have dD23 : σ 23 = .tuple #[.string S1, .int .i64 0] := (hD 2 (Nat.le_of_ble_eq_true rfl))
    have dD26 : σ 26 = .string S1 := (hD 3 (Nat.le_of_ble_eq_true rfl))
    have dD27 : σ 27 = .int .i64 0 := (hD 4 (Nat.le_of_ble_eq_true rfl))
    have dD8 : σ 8 = .string S1 := (hD 5 (Nat.le_of_ble_eq_true rfl))
    have dD9 : σ 9 = .int .i64 0 := (hD 6 (Nat.le_of_ble_eq_true rfl))
    have xX0 : X 0 = eB B2_1 24 #[.int .i64 kA, .int .i64 lA, .slice A sa.length c] := hX 0 _ rfl
    have xX1 : X 1 = eB B3_1 24 #[.int .i64 kB, .int .i64 lB, .slice B sb.length (c')] := hX 1 _ rfl
    have xX2 : X 2 = eO 9 1 (.slice A20_3 I1.length c20_3) I1.length (I1.map Value.string) := hX 2 _ rfl
    have xX3 : X 3 = eB B6_3 26 #[.int .i64 k1, .int .i64 l1, .slice A20_3 I1.length c20_3] := hX 3 _ rfl
    have xX4 : X 4 = eO 9 1 (.slice A22_4 I2.length c22_4) I2.length (I2.map Value.string) := hX 4 _ rfl
    have xX5 : X 5 = eB B7_4 26 #[.int .i64 k2, .int .i64 l2, .slice A22_4 I2.length c22_4] := hX 5 _ rfl
    have hst5 : St w [] [eB B2_1 24 #[.int .i64 kA, .int .i64 lA, .slice A sa.length c], eB B3_1 24 #[.int .i64 kB, .int .i64 lB, .slice B sb.length (c')], eO 9 1 (.slice A20_3 I1.length c20_3) I1.length (I1.map Value.string), eB B6_3 26 #[.int .i64 k1, .int .i64 l1, .slice A20_3 I1.length c20_3], eO 9 1 (.slice A22_4 I2.length c22_4) I2.length (I2.map Value.string), eB B7_4 26 #[.int .i64 k2, .int .i64 l2, .slice A22_4 I2.length c22_4]] W5 := by
      have h := hst5q
      simp only [List.map_cons, List.map_nil, xX0, xX1, xX2, xX3, xX4, xX5] at h
      exact h
    have hfr2 : fr = #[.agg #[.int .i64 kA, .int .i64 lA, .slice A sa.length c], .agg #[.int .i64 kB, .int .i64 lB, .slice B sb.length (c')], .pointer (some ⟨B2_1, 0, none⟩), .pointer (some ⟨B3_1, 0, none⟩), .bool false, .bool true, .pointer (some ⟨B6_3, 0, none⟩), .pointer (some ⟨B7_4, 0, none⟩), .string S1, .int .i64 0, undef, undef, undef, undef, undef, undef, undef, undef, .bool true, .agg #[.int .i64 kA, .int .i64 lA, .slice A sa.length c], .agg #[.int .i64 k1, .int .i64 l1, .slice A20_3 I1.length c20_3], .agg #[.int .i64 kB, .int .i64 lB, .slice B sb.length (c')], .agg #[.int .i64 k2, .int .i64 l2, .slice A22_4 I2.length c22_4], .tuple #[.string S1, .int .i64 0], .agg #[.int .i64 k1, .int .i64 l1, .slice A20_3 I1.length c20_3], .tuple #[.string S1, .int .i64 0], .string S1, .int .i64 0, undef, undef, undef, undef, undef, undef, undef, undef, undef, undef, undef, undef, undef, undef, undef, undef, undef, undef, undef, undef, undef, undef, undef, undef, undef, undef, undef, undef, undef, undef, undef, undef, undef, undef, undef, undef, undef, undef, undef, undef, undef, undef, undef, undef, undef, undef, undef, undef, undef, undef, undef, undef, undef, undef, undef, undef, undef, undef, undef] := hfr.trans (by rw [show dstsU _ = [24, 25, 23, 26, 27, 8, 9] by kernel_rfl]; simp only [List.map_cons, List.map_nil, putAll, List.setIfInBounds_toArray, List.set_cons_succ, List.set_cons_zero, dD24, dD25, dD23, dD26, dD27, dD8, dD9])
    clear hfr hX hD hst5q dD24 dD25 dD23 dD26 dD27 dD8 dD9 xX0 xX1 xX2 xX3 xX4 xX5
    subst hfr2
    clear σ β X
    refine then_normal ?_
    refine wp_seq ?_
    refine wp_region_V (by kernel_rfl) [0, 1, 3, 7, 7, 15, 63] [[5], [4], [], [], [], [], []] [[], [], [], [], [], [], []] [[], [], [], [], [], [], []] (fun ix σ β X => match ix with | 0 => σ 29 = .agg #[.int .i64 k2, .int .i64 l2, .slice A22_4 I2.length c22_4] | 1 => σ 30 = .tuple #[.string S2, .int .i64 0] | 2 => σ 28 = .tuple #[.string S2, .int .i64 0] | 3 => σ 31 = .string S2 | 4 => σ 32 = .int .i64 0 | 5 => σ 10 = .string S2 | 6 => σ 11 = .int .i64 0 | _ => True) [0, 1, 2, 3, 4, 5] (by kernel_rfl) (by kernel_rfl) (by kernel_rfl) (by kernel_rfl) ?_ hst5 ?_ ?_
    · intro ix σ σ' β β' X X' hs hb hx h
      match ix, hs, hb, hx, h with
      | 0, hs, hb, hx, h => rw [← hs 29 (by kernel_rfl)]; exact h
      | 1, hs, hb, hx, h => rw [← hs 30 (by kernel_rfl)]; exact h
      | 2, hs, hb, hx, h => rw [← hs 28 (by kernel_rfl)]; exact h
      | 3, hs, hb, hx, h => rw [← hs 31 (by kernel_rfl)]; exact h
      | 4, hs, hb, hx, h => rw [← hs 32 (by kernel_rfl)]; exact h
      | 5, hs, hb, hx, h => rw [← hs 10 (by kernel_rfl)]; exact h
      | 6, hs, hb, hx, h => rw [← hs 11 (by kernel_rfl)]; exact h
      | _ + 7, _, _, _, _ => trivial
    · refine ⟨⟨⟨⟨⟨⟨⟨trivial, ?_⟩, ?_⟩, ?_⟩, ?_⟩, ?_⟩, ?_⟩, ?_⟩
      · refine sv rfl rfl rfl rfl rfl (fun β => .agg #[.int .i64 k2, .int .i64 l2, .slice A22_4 I2.length c22_4]) (fun _ _ _ h => h) (fun _ _ _ => rfl) fun ρ β W X cx => ?_
        have fF7 : ρ (.tmp 7) = .pointer (some ⟨B7_4, 0, none⟩) := cx.out 7 (by kernel_rfl)
        have xX5 : X 5 = eB B7_4 26 #[.int .i64 k2, .int .i64 l2, .slice A22_4 I2.length c22_4] := cx.init 5 _ rfl
        have kK5 : Blk W B7_4 26 #[.int .i64 k2, .int .i64 l2, .slice A22_4 I2.length c22_4] := by have h := (cx.ok 5 rfl).holds; rw [xX5] at h; exact h
        exact run_loadB (n := 3) rfl (by kernel_rfl) (by kernel_rfl) fF7 kK5 (Nat.le_of_ble_eq_true rfl) rfl
      · refine sv_any rfl rfl fun ρ β W X cx => ?_
        have fF29 : ρ (.tmp 29) = .agg #[.int .i64 k2, .int .i64 l2, .slice A22_4 I2.length c22_4] := (cx.anc 0 (by kernel_rfl))
        have xX4 : X 4 = eO 9 1 (.slice A22_4 I2.length c22_4) I2.length (I2.map Value.string) := cx.init 4 _ rfl
        have kK4 : W.ownsRow 0 9 1 (.slice A22_4 I2.length c22_4) I2.length (I2.map Value.string) := by have h := (cx.ok 4 rfl).holds; rw [xX4] at h; exact h
        refine DoesU.call (run_callF (args := #[.agg #[.int .i64 k2, .int .i64 l2, .slice A22_4 I2.length c22_4]]) rfl cx.sees rfl (by kernel_rfl) (by simp only [List.map_toArray, List.map_cons, List.map_nil, fF29])) ?_
        refine (BY2.out _ _ _ (At.of_own kK4)).mono ?_
        rintro e W1 ⟨rfl, hx⟩
        refine ⟨_, rfl, post_call [] rfl rfl hx (by simp) List.Pairwise.nil (fun σ β' X' hs hb hv hN => ?_)⟩
        have hv1 := (hv 30 rfl).1; have hv2 := (hv 30 rfl).2
        exact hv1.trans rfl
      · refine sv rfl rfl rfl rfl rfl (fun β => .tuple #[.string S2, .int .i64 0]) (fun _ _ _ h => h) (fun _ _ _ => rfl) fun ρ β W X cx => ?_
        have fF30 : ρ (.tmp 30) = .tuple #[.string S2, .int .i64 0] := (cx.anc 1 (by kernel_rfl))
        exact run_move' rfl fF30
      · refine sv rfl rfl rfl rfl rfl (fun β => .string S2) (fun _ _ _ h => h) (fun _ _ _ => rfl) fun ρ β W X cx => ?_
        have fF28 : ρ (.tmp 28) = .tuple #[.string S2, .int .i64 0] := (cx.anc 2 (by kernel_rfl))
        exact run_extract' rfl fF28 rfl
      · refine sv rfl rfl rfl rfl rfl (fun β => .int .i64 0) (fun _ _ _ h => h) (fun _ _ _ => rfl) fun ρ β W X cx => ?_
        have fF28 : ρ (.tmp 28) = .tuple #[.string S2, .int .i64 0] := (cx.anc 2 (by kernel_rfl))
        exact run_extract' rfl fF28 rfl
      · refine sv rfl rfl rfl rfl rfl (fun β => .string S2) (fun _ _ _ h => h) (fun _ _ _ => rfl) fun ρ β W X cx => ?_
        have fF31 : ρ (.tmp 31) = .string S2 := (cx.anc 3 (by kernel_rfl))
        exact run_assign' rfl fF31
      · refine sv rfl rfl rfl rfl rfl (fun β => .int .i64 0) (fun _ _ _ h => h) (fun _ _ _ => rfl) fun ρ β W X cx => ?_
        have fF32 : ρ (.tmp 32) = .int .i64 0 := (cx.anc 4 (by kernel_rfl))
        exact run_assign' rfl fF32
    intro σ β X W6 hD hX hst6q fr hfr
    have dD29 : σ 29 = .agg #[.int .i64 k2, .int .i64 l2, .slice A22_4 I2.length c22_4] := (hD 0 (Nat.le_of_ble_eq_true rfl))
    have dD30 : σ 30 = .tuple #[.string S2, .int .i64 0] := (hD 1 (Nat.le_of_ble_eq_true rfl))
    have dD28 : σ 28 = .tuple #[.string S2, .int .i64 0] := (hD 2 (Nat.le_of_ble_eq_true rfl))
    have dD31 : σ 31 = .string S2 := (hD 3 (Nat.le_of_ble_eq_true rfl))
    have dD32 : σ 32 = .int .i64 0 := (hD 4 (Nat.le_of_ble_eq_true rfl))
    have dD10 : σ 10 = .string S2 := (hD 5 (Nat.le_of_ble_eq_true rfl))
    have dD11 : σ 11 = .int .i64 0 := (hD 6 (Nat.le_of_ble_eq_true rfl))
    have xX0 : X 0 = eB B2_1 24 #[.int .i64 kA, .int .i64 lA, .slice A sa.length c] := hX 0 _ rfl
    have xX1 : X 1 = eB B3_1 24 #[.int .i64 kB, .int .i64 lB, .slice B sb.length (c')] := hX 1 _ rfl
    have xX2 : X 2 = eO 9 1 (.slice A20_3 I1.length c20_3) I1.length (I1.map Value.string) := hX 2 _ rfl
    have xX3 : X 3 = eB B6_3 26 #[.int .i64 k1, .int .i64 l1, .slice A20_3 I1.length c20_3] := hX 3 _ rfl
    have xX4 : X 4 = eO 9 1 (.slice A22_4 I2.length c22_4) I2.length (I2.map Value.string) := hX 4 _ rfl
    have xX5 : X 5 = eB B7_4 26 #[.int .i64 k2, .int .i64 l2, .slice A22_4 I2.length c22_4] := hX 5 _ rfl
    have hst6 : St w [] [eB B2_1 24 #[.int .i64 kA, .int .i64 lA, .slice A sa.length c], eB B3_1 24 #[.int .i64 kB, .int .i64 lB, .slice B sb.length (c')], eO 9 1 (.slice A20_3 I1.length c20_3) I1.length (I1.map Value.string), eB B6_3 26 #[.int .i64 k1, .int .i64 l1, .slice A20_3 I1.length c20_3], eO 9 1 (.slice A22_4 I2.length c22_4) I2.length (I2.map Value.string), eB B7_4 26 #[.int .i64 k2, .int .i64 l2, .slice A22_4 I2.length c22_4]] W6 := by
      have h := hst6q
      simp only [List.map_cons, List.map_nil, xX0, xX1, xX2, xX3, xX4, xX5] at h
      exact h
    have hfr2 : fr = #[.agg #[.int .i64 kA, .int .i64 lA, .slice A sa.length c], .agg #[.int .i64 kB, .int .i64 lB, .slice B sb.length (c')], .pointer (some ⟨B2_1, 0, none⟩), .pointer (some ⟨B3_1, 0, none⟩), .bool false, .bool true, .pointer (some ⟨B6_3, 0, none⟩), .pointer (some ⟨B7_4, 0, none⟩), .string S1, .int .i64 0, .string S2, .int .i64 0, undef, undef, undef, undef, undef, undef, .bool true, .agg #[.int .i64 kA, .int .i64 lA, .slice A sa.length c], .agg #[.int .i64 k1, .int .i64 l1, .slice A20_3 I1.length c20_3], .agg #[.int .i64 kB, .int .i64 lB, .slice B sb.length (c')], .agg #[.int .i64 k2, .int .i64 l2, .slice A22_4 I2.length c22_4], .tuple #[.string S1, .int .i64 0], .agg #[.int .i64 k1, .int .i64 l1, .slice A20_3 I1.length c20_3], .tuple #[.string S1, .int .i64 0], .string S1, .int .i64 0, .tuple #[.string S2, .int .i64 0], .agg #[.int .i64 k2, .int .i64 l2, .slice A22_4 I2.length c22_4], .tuple #[.string S2, .int .i64 0], .string S2, .int .i64 0, undef, undef, undef, undef, undef, undef, undef, undef, undef, undef, undef, undef, undef, undef, undef, undef, undef, undef, undef, undef, undef, undef, undef, undef, undef, undef, undef, undef, undef, undef, undef, undef, undef, undef, undef, undef, undef, undef, undef, undef, undef, undef, undef, undef, undef, undef, undef, undef, undef, undef, undef, undef, undef, undef] := hfr.trans (by rw [show dstsU _ = [29, 30, 28, 31, 32, 10, 11] by kernel_rfl]; simp only [List.map_cons, List.map_nil, putAll, List.setIfInBounds_toArray, List.set_cons_succ, List.set_cons_zero, dD29, dD30, dD28, dD31, dD32, dD10, dD11])
    clear hfr hX hD hst6q dD29 dD30 dD28 dD31 dD32 dD10 dD11 xX0 xX1 xX2 xX3 xX4 xX5
    subst hfr2
    clear σ β X
    refine then_normal ?_
    refine wp_seq ?_
    refine wp_seq ?_
    have hd8 : ((S1.size : Int) != 512) = false := by rw [hsz1]; rfl
    have hd9 : ((S2.size : Int) != 512) = false := by rw [hsz2]; rfl
    refine wp_region_V (by kernel_rfl) [0, 1, 3, 7, 15, 31, 63, 127, 255, 511, 1023, 2047, 4095, 8191, 16383, 32767] [[], [], [], [], [], [], [], [], [], [], [], [], [], [], [], []] [[], [], [], [], [], [], [], [], [], [], [], [], [], [], [], []] [[], [], [], [], [], [], [], [], [], [], [], [], [], [], [], []] (fun ix σ β X => match ix with | 0 => σ 33 = .int .i64 0 | 1 => σ 34 = .bool false | 2 => σ 35 = .bool false | 3 => σ 36 = .int .i64 0 | 4 => σ 37 = .bool false | 5 => σ 38 = .bool false | 6 => σ 39 = .bool false | 7 => σ 40 = .string S1 | 8 => σ 41 = .int .i64 ((S1.size : Int)) | 9 => σ 42 = .bool ((S1.size : Int) != 512) | 10 => σ 43 = .bool false | 11 => σ 44 = .bool false | 12 => σ 45 = .string S2 | 13 => σ 46 = .int .i64 ((S2.size : Int)) | 14 => σ 47 = .bool ((S2.size : Int) != 512) | 15 => σ 48 = .bool false | _ => True) [0, 1, 2, 3, 4, 5] (by kernel_rfl) (by kernel_rfl) (by kernel_rfl) (by kernel_rfl) ?_ hst6 ?_ ?_
    · intro ix σ σ' β β' X X' hs hb hx h
      match ix, hs, hb, hx, h with
      | 0, hs, hb, hx, h => rw [← hs 33 (by kernel_rfl)]; exact h
      | 1, hs, hb, hx, h => rw [← hs 34 (by kernel_rfl)]; exact h
      | 2, hs, hb, hx, h => rw [← hs 35 (by kernel_rfl)]; exact h
      | 3, hs, hb, hx, h => rw [← hs 36 (by kernel_rfl)]; exact h
      | 4, hs, hb, hx, h => rw [← hs 37 (by kernel_rfl)]; exact h
      | 5, hs, hb, hx, h => rw [← hs 38 (by kernel_rfl)]; exact h
      | 6, hs, hb, hx, h => rw [← hs 39 (by kernel_rfl)]; exact h
      | 7, hs, hb, hx, h => rw [← hs 40 (by kernel_rfl)]; exact h
      | 8, hs, hb, hx, h => rw [← hs 41 (by kernel_rfl)]; exact h
      | 9, hs, hb, hx, h => rw [← hs 42 (by kernel_rfl)]; exact h
      | 10, hs, hb, hx, h => rw [← hs 43 (by kernel_rfl)]; exact h
      | 11, hs, hb, hx, h => rw [← hs 44 (by kernel_rfl)]; exact h
      | 12, hs, hb, hx, h => rw [← hs 45 (by kernel_rfl)]; exact h
      | 13, hs, hb, hx, h => rw [← hs 46 (by kernel_rfl)]; exact h
      | 14, hs, hb, hx, h => rw [← hs 47 (by kernel_rfl)]; exact h
      | 15, hs, hb, hx, h => rw [← hs 48 (by kernel_rfl)]; exact h
      | _ + 16, _, _, _, _ => trivial
    · refine ⟨⟨⟨⟨⟨⟨⟨⟨⟨⟨⟨⟨⟨⟨⟨⟨trivial, ?_⟩, ?_⟩, ?_⟩, ?_⟩, ?_⟩, ?_⟩, ?_⟩, ?_⟩, ?_⟩, ?_⟩, ?_⟩, ?_⟩, ?_⟩, ?_⟩, ?_⟩, ?_⟩
      · refine sv rfl rfl rfl rfl rfl (fun β => .int .i64 0) (fun _ _ _ h => h) (fun _ _ _ => rfl) fun ρ β W X cx => ?_
        have fF9 : ρ (.tmp 9) = .int .i64 0 := cx.out 9 (by kernel_rfl)
        exact run_move' rfl fF9
      · refine sv rfl rfl rfl rfl rfl (fun β => .bool false) (fun _ _ _ h => h) (fun _ _ _ => rfl) fun ρ β W X cx => ?_
        have fF33 : ρ (.tmp 33) = .int .i64 0 := (cx.anc 0 (by kernel_rfl))
        exact run_bin rfl fF33 (cx.sees.const _) rfl
      · refine sv rfl rfl rfl rfl rfl (fun β => .bool false) (fun _ _ _ h => h) (fun _ _ _ => rfl) fun ρ β W X cx => ?_
        have fF34 : ρ (.tmp 34) = .bool false := (cx.anc 1 (by kernel_rfl))
        exact run_move' rfl fF34
      · refine sv_on rfl rfl rfl rfl rfl rfl (fun β => .int .i64 0) (fun _ _ _ h => h) (fun _ _ _ => rfl) (fun ρ β W X cx => (show ρ (.tmp 35) = .bool false from (cx.anc 2 (by kernel_rfl)))) fun ρ β W X cx => ?_
        have fF11 : ρ (.tmp 11) = .int .i64 0 := cx.out 11 (by kernel_rfl)
        exact run_move' rfl fF11
      · refine sv_on rfl rfl rfl rfl rfl rfl (fun β => .bool false) (fun _ _ _ h => h) (fun _ _ _ => rfl) (fun ρ β W X cx => (show ρ (.tmp 35) = .bool false from (cx.anc 2 (by kernel_rfl)))) fun ρ β W X cx => ?_
        have fF36 : ρ (.tmp 36) = .int .i64 0 := (cx.anc 3 (by kernel_rfl))
        exact run_bin rfl fF36 (cx.sees.const _) rfl
      · refine sv rfl rfl rfl rfl rfl (fun β => .bool false) (fun _ _ _ h => h) (fun _ _ _ => rfl) fun ρ β W X cx => ?_
        have fF35 : ρ (.tmp 35) = .bool false := (cx.anc 2 (by kernel_rfl))
        have fF37 : ρ (.tmp 37) = .bool false := (cx.anc 4 (by kernel_rfl))
        exact run_pick_f rfl fF35 fF37
      · refine sv rfl rfl rfl rfl rfl (fun β => .bool false) (fun _ _ _ h => h) (fun _ _ _ => rfl) fun ρ β W X cx => ?_
        have fF38 : ρ (.tmp 38) = .bool false := (cx.anc 5 (by kernel_rfl))
        exact run_move' rfl fF38
      · refine sv_on rfl rfl rfl rfl rfl rfl (fun β => .string S1) (fun _ _ _ h => h) (fun _ _ _ => rfl) (fun ρ β W X cx => (show ρ (.tmp 39) = .bool false from (cx.anc 6 (by kernel_rfl)))) fun ρ β W X cx => ?_
        have fF8 : ρ (.tmp 8) = .string S1 := cx.out 8 (by kernel_rfl)
        exact run_move' rfl fF8
      · refine sv_on rfl rfl rfl rfl rfl rfl (fun β => .int .i64 ((S1.size : Int))) (fun _ _ _ h => h) (fun _ _ _ => rfl) (fun ρ β W X cx => (show ρ (.tmp 39) = .bool false from (cx.anc 6 (by kernel_rfl)))) fun ρ β W X cx => ?_
        have fF40 : ρ (.tmp 40) = .string S1 := (cx.anc 7 (by kernel_rfl))
        exact run_len_s rfl (by kernel_rfl) fF40
      · refine sv_on rfl rfl rfl rfl rfl rfl (fun β => .bool ((S1.size : Int) != 512)) (fun _ _ _ h => h) (fun _ _ _ => rfl) (fun ρ β W X cx => (show ρ (.tmp 39) = .bool false from (cx.anc 6 (by kernel_rfl)))) fun ρ β W X cx => ?_
        have fF41 : ρ (.tmp 41) = .int .i64 ((S1.size : Int)) := (cx.anc 8 (by kernel_rfl))
        exact run_bin rfl fF41 (cx.sees.const _) rfl
      · refine sv rfl rfl rfl rfl rfl (fun β => .bool false) (fun _ _ _ h => h) (fun _ _ _ => rfl) fun ρ β W X cx => ?_
        have fF39 : ρ (.tmp 39) = .bool false := (cx.anc 6 (by kernel_rfl))
        have fF42 : ρ (.tmp 42) = .bool false := (show ρ (.tmp 42) = .bool ((S1.size : Int) != 512) from (cx.anc 9 (by kernel_rfl))).trans (congrArg Value.bool hd8)
        exact run_pick_f rfl fF39 fF42
      · refine sv rfl rfl rfl rfl rfl (fun β => .bool false) (fun _ _ _ h => h) (fun _ _ _ => rfl) fun ρ β W X cx => ?_
        have fF43 : ρ (.tmp 43) = .bool false := (cx.anc 10 (by kernel_rfl))
        exact run_move' rfl fF43
      · refine sv_on rfl rfl rfl rfl rfl rfl (fun β => .string S2) (fun _ _ _ h => h) (fun _ _ _ => rfl) (fun ρ β W X cx => (show ρ (.tmp 44) = .bool false from (cx.anc 11 (by kernel_rfl)))) fun ρ β W X cx => ?_
        have fF10 : ρ (.tmp 10) = .string S2 := cx.out 10 (by kernel_rfl)
        exact run_move' rfl fF10
      · refine sv_on rfl rfl rfl rfl rfl rfl (fun β => .int .i64 ((S2.size : Int))) (fun _ _ _ h => h) (fun _ _ _ => rfl) (fun ρ β W X cx => (show ρ (.tmp 44) = .bool false from (cx.anc 11 (by kernel_rfl)))) fun ρ β W X cx => ?_
        have fF45 : ρ (.tmp 45) = .string S2 := (cx.anc 12 (by kernel_rfl))
        exact run_len_s rfl (by kernel_rfl) fF45
      · refine sv_on rfl rfl rfl rfl rfl rfl (fun β => .bool ((S2.size : Int) != 512)) (fun _ _ _ h => h) (fun _ _ _ => rfl) (fun ρ β W X cx => (show ρ (.tmp 44) = .bool false from (cx.anc 11 (by kernel_rfl)))) fun ρ β W X cx => ?_
        have fF46 : ρ (.tmp 46) = .int .i64 ((S2.size : Int)) := (cx.anc 13 (by kernel_rfl))
        exact run_bin rfl fF46 (cx.sees.const _) rfl
      · refine sv rfl rfl rfl rfl rfl (fun β => .bool false) (fun _ _ _ h => h) (fun _ _ _ => rfl) fun ρ β W X cx => ?_
        have fF44 : ρ (.tmp 44) = .bool false := (cx.anc 11 (by kernel_rfl))
        have fF47 : ρ (.tmp 47) = .bool false := (show ρ (.tmp 47) = .bool ((S2.size : Int) != 512) from (cx.anc 14 (by kernel_rfl))).trans (congrArg Value.bool hd9)
        exact run_pick_f rfl fF44 fF47
    intro σ β X W7 hD hX hst7q fr hfr
    have dD33 : σ 33 = .int .i64 0 := (hD 0 (Nat.le_of_ble_eq_true rfl))
    have dD34 : σ 34 = .bool false := (hD 1 (Nat.le_of_ble_eq_true rfl))
    have dD35 : σ 35 = .bool false := (hD 2 (Nat.le_of_ble_eq_true rfl))
    have dD36 : σ 36 = .int .i64 0 := (hD 3 (Nat.le_of_ble_eq_true rfl))
    have dD37 : σ 37 = .bool false := (hD 4 (Nat.le_of_ble_eq_true rfl))
    have dD38 : σ 38 = .bool false := (hD 5 (Nat.le_of_ble_eq_true rfl))
    have dD39 : σ 39 = .bool false := (hD 6 (Nat.le_of_ble_eq_true rfl))
    have dD40 : σ 40 = .string S1 := (hD 7 (Nat.le_of_ble_eq_true rfl))
    have dD41 : σ 41 = .int .i64 ((S1.size : Int)) := (hD 8 (Nat.le_of_ble_eq_true rfl))
    have dD42 : σ 42 = .bool ((S1.size : Int) != 512) := (hD 9 (Nat.le_of_ble_eq_true rfl))
    have dD43 : σ 43 = .bool false := (hD 10 (Nat.le_of_ble_eq_true rfl))
    have dD44 : σ 44 = .bool false := (hD 11 (Nat.le_of_ble_eq_true rfl))
    have dD45 : σ 45 = .string S2 := (hD 12 (Nat.le_of_ble_eq_true rfl))
    have dD46 : σ 46 = .int .i64 ((S2.size : Int)) := (hD 13 (Nat.le_of_ble_eq_true rfl))
    have dD47 : σ 47 = .bool ((S2.size : Int) != 512) := (hD 14 (Nat.le_of_ble_eq_true rfl))
    have dD48 : σ 48 = .bool false := (hD 15 (Nat.le_of_ble_eq_true rfl))
    have xX0 : X 0 = eB B2_1 24 #[.int .i64 kA, .int .i64 lA, .slice A sa.length c] := hX 0 _ rfl
    have xX1 : X 1 = eB B3_1 24 #[.int .i64 kB, .int .i64 lB, .slice B sb.length (c')] := hX 1 _ rfl
    have xX2 : X 2 = eO 9 1 (.slice A20_3 I1.length c20_3) I1.length (I1.map Value.string) := hX 2 _ rfl
    have xX3 : X 3 = eB B6_3 26 #[.int .i64 k1, .int .i64 l1, .slice A20_3 I1.length c20_3] := hX 3 _ rfl
    have xX4 : X 4 = eO 9 1 (.slice A22_4 I2.length c22_4) I2.length (I2.map Value.string) := hX 4 _ rfl
    have xX5 : X 5 = eB B7_4 26 #[.int .i64 k2, .int .i64 l2, .slice A22_4 I2.length c22_4] := hX 5 _ rfl
    have hst7 : St w [] [eB B2_1 24 #[.int .i64 kA, .int .i64 lA, .slice A sa.length c], eB B3_1 24 #[.int .i64 kB, .int .i64 lB, .slice B sb.length (c')], eO 9 1 (.slice A20_3 I1.length c20_3) I1.length (I1.map Value.string), eB B6_3 26 #[.int .i64 k1, .int .i64 l1, .slice A20_3 I1.length c20_3], eO 9 1 (.slice A22_4 I2.length c22_4) I2.length (I2.map Value.string), eB B7_4 26 #[.int .i64 k2, .int .i64 l2, .slice A22_4 I2.length c22_4]] W7 := by
      have h := hst7q
      simp only [List.map_cons, List.map_nil, xX0, xX1, xX2, xX3, xX4, xX5] at h
      exact h
    have hfr2 : fr = #[.agg #[.int .i64 kA, .int .i64 lA, .slice A sa.length c], .agg #[.int .i64 kB, .int .i64 lB, .slice B sb.length (c')], .pointer (some ⟨B2_1, 0, none⟩), .pointer (some ⟨B3_1, 0, none⟩), .bool false, .bool true, .pointer (some ⟨B6_3, 0, none⟩), .pointer (some ⟨B7_4, 0, none⟩), .string S1, .int .i64 0, .string S2, .int .i64 0, undef, undef, undef, undef, undef, undef, .bool true, .agg #[.int .i64 kA, .int .i64 lA, .slice A sa.length c], .agg #[.int .i64 k1, .int .i64 l1, .slice A20_3 I1.length c20_3], .agg #[.int .i64 kB, .int .i64 lB, .slice B sb.length (c')], .agg #[.int .i64 k2, .int .i64 l2, .slice A22_4 I2.length c22_4], .tuple #[.string S1, .int .i64 0], .agg #[.int .i64 k1, .int .i64 l1, .slice A20_3 I1.length c20_3], .tuple #[.string S1, .int .i64 0], .string S1, .int .i64 0, .tuple #[.string S2, .int .i64 0], .agg #[.int .i64 k2, .int .i64 l2, .slice A22_4 I2.length c22_4], .tuple #[.string S2, .int .i64 0], .string S2, .int .i64 0, .int .i64 0, .bool false, .bool false, .int .i64 0, .bool false, .bool false, .bool false, .string S1, .int .i64 ((S1.size : Int)), .bool ((S1.size : Int) != 512), .bool false, .bool false, .string S2, .int .i64 ((S2.size : Int)), .bool ((S2.size : Int) != 512), .bool false, undef, undef, undef, undef, undef, undef, undef, undef, undef, undef, undef, undef, undef, undef, undef, undef, undef, undef, undef, undef, undef, undef, undef, undef, undef, undef, undef, undef, undef, undef, undef, undef, undef, undef, undef, undef, undef, undef] := hfr.trans (by rw [show dstsU _ = [33, 34, 35, 36, 37, 38, 39, 40, 41, 42, 43, 44, 45, 46, 47, 48] by kernel_rfl]; simp only [List.map_cons, List.map_nil, putAll, List.setIfInBounds_toArray, List.set_cons_succ, List.set_cons_zero, dD33, dD34, dD35, dD36, dD37, dD38, dD39, dD40, dD41, dD42, dD43, dD44, dD45, dD46, dD47, dD48])
    clear hfr hX hD hst7q dD33 dD34 dD35 dD36 dD37 dD38 dD39 dD40 dD41 dD42 dD43 dD44 dD45 dD46 dD47 dD48 xX0 xX1 xX2 xX3 xX4 xX5
    subst hfr2
    clear σ β X
    refine then_normal ?_
    refine wp_cond_false (show Act.eval _ _ = .bool false from rfl) ?_
    refine wp_skip ?_
    refine then_normal ?_
    refine wp_seq ?_
    refine wp_region_V (by kernel_rfl) [0, 1, 0, 4, 15, 31] [[], [], [], [], [], []] [[], [], [], [], [], []] [[], [], [], [], [], []] (fun ix σ β X => match ix with | 0 => σ 49 = .string S1 | 1 => σ 50 = .string (S1.extract 0 256) | 2 => σ 51 = .string S2 | 3 => σ 52 = .string (S2.extract 256 S2.size) | 4 => σ 53 = .string ((S1.extract 0 256) ++ (S2.extract 256 S2.size)) | 5 => σ 12 = .string T | _ => True) [0, 1, 2, 3, 4, 5] (by kernel_rfl) (by kernel_rfl) (by kernel_rfl) (by kernel_rfl) ?_ hst7 ?_ ?_
    · intro ix σ σ' β β' X X' hs hb hx h
      match ix, hs, hb, hx, h with
      | 0, hs, hb, hx, h => rw [← hs 49 (by kernel_rfl)]; exact h
      | 1, hs, hb, hx, h => rw [← hs 50 (by kernel_rfl)]; exact h
      | 2, hs, hb, hx, h => rw [← hs 51 (by kernel_rfl)]; exact h
      | 3, hs, hb, hx, h => rw [← hs 52 (by kernel_rfl)]; exact h
      | 4, hs, hb, hx, h => rw [← hs 53 (by kernel_rfl)]; exact h
      | 5, hs, hb, hx, h => rw [← hs 12 (by kernel_rfl)]; exact h
      | _ + 6, _, _, _, _ => trivial
    · refine ⟨⟨⟨⟨⟨⟨trivial, ?_⟩, ?_⟩, ?_⟩, ?_⟩, ?_⟩, ?_⟩
      · refine sv rfl rfl rfl rfl rfl (fun β => .string S1) (fun _ _ _ h => h) (fun _ _ _ => rfl) fun ρ β W X cx => ?_
        have fF8 : ρ (.tmp 8) = .string S1 := cx.out 8 (by kernel_rfl)
        exact run_move' rfl fF8
      · refine sv rfl rfl rfl rfl rfl (fun β => .string (S1.extract 0 256)) (fun _ _ _ h => h) (fun _ _ _ => rfl) fun ρ β W X cx => ?_
        have fF49 : ρ (.tmp 49) = .string S1 := (cx.anc 0 (by kernel_rfl))
        exact run_slice_hi (l := 256) rfl (by kernel_rfl) fF49 (cx.sees.const _) (by omega) (by omega)
      · refine sv rfl rfl rfl rfl rfl (fun β => .string S2) (fun _ _ _ h => h) (fun _ _ _ => rfl) fun ρ β W X cx => ?_
        have fF10 : ρ (.tmp 10) = .string S2 := cx.out 10 (by kernel_rfl)
        exact run_move' rfl fF10
      · refine sv rfl rfl rfl rfl rfl (fun β => .string (S2.extract 256 S2.size)) (fun _ _ _ h => h) (fun _ _ _ => rfl) fun ρ β W X cx => ?_
        have fF51 : ρ (.tmp 51) = .string S2 := (cx.anc 2 (by kernel_rfl))
        exact run_slice_lo (l := 256) rfl (by kernel_rfl) fF51 (cx.sees.const _) (by omega) (by omega)
      · refine sv rfl rfl rfl rfl rfl (fun β => .string ((S1.extract 0 256) ++ (S2.extract 256 S2.size))) (fun _ _ _ h => h) (fun _ _ _ => rfl) fun ρ β W X cx => ?_
        have fF50 : ρ (.tmp 50) = .string (S1.extract 0 256) := (cx.anc 1 (by kernel_rfl))
        have fF52 : ρ (.tmp 52) = .string (S2.extract 256 S2.size) := (cx.anc 3 (by kernel_rfl))
        exact run_strcat rfl fF50 fF52 (by omega)
      · refine sv rfl rfl rfl rfl rfl (fun β => .string T) (fun _ _ _ h => h) (fun _ _ _ => rfl) fun ρ β W X cx => ?_
        have fF53 : ρ (.tmp 53) = .string ((S1.extract 0 256) ++ (S2.extract 256 S2.size)) := (cx.anc 4 (by kernel_rfl))
        exact (by rw [HT.out]; exact run_assign' rfl fF53)
    intro σ β X W10 hD hX hst10q fr hfr
    have dD49 : σ 49 = .string S1 := (hD 0 (Nat.le_of_ble_eq_true rfl))
    have dD50 : σ 50 = .string (S1.extract 0 256) := (hD 1 (Nat.le_of_ble_eq_true rfl))
    have dD51 : σ 51 = .string S2 := (hD 2 (Nat.le_of_ble_eq_true rfl))
    have dD52 : σ 52 = .string (S2.extract 256 S2.size) := (hD 3 (Nat.le_of_ble_eq_true rfl))
    have dD53 : σ 53 = .string ((S1.extract 0 256) ++ (S2.extract 256 S2.size)) := (hD 4 (Nat.le_of_ble_eq_true rfl))
    have dD12 : σ 12 = .string T := (hD 5 (Nat.le_of_ble_eq_true rfl))
    have xX0 : X 0 = eB B2_1 24 #[.int .i64 kA, .int .i64 lA, .slice A sa.length c] := hX 0 _ rfl
    have xX1 : X 1 = eB B3_1 24 #[.int .i64 kB, .int .i64 lB, .slice B sb.length (c')] := hX 1 _ rfl
    have xX2 : X 2 = eO 9 1 (.slice A20_3 I1.length c20_3) I1.length (I1.map Value.string) := hX 2 _ rfl
    have xX3 : X 3 = eB B6_3 26 #[.int .i64 k1, .int .i64 l1, .slice A20_3 I1.length c20_3] := hX 3 _ rfl
    have xX4 : X 4 = eO 9 1 (.slice A22_4 I2.length c22_4) I2.length (I2.map Value.string) := hX 4 _ rfl
    have xX5 : X 5 = eB B7_4 26 #[.int .i64 k2, .int .i64 l2, .slice A22_4 I2.length c22_4] := hX 5 _ rfl
    have hst10 : St w [] [eB B2_1 24 #[.int .i64 kA, .int .i64 lA, .slice A sa.length c], eB B3_1 24 #[.int .i64 kB, .int .i64 lB, .slice B sb.length (c')], eO 9 1 (.slice A20_3 I1.length c20_3) I1.length (I1.map Value.string), eB B6_3 26 #[.int .i64 k1, .int .i64 l1, .slice A20_3 I1.length c20_3], eO 9 1 (.slice A22_4 I2.length c22_4) I2.length (I2.map Value.string), eB B7_4 26 #[.int .i64 k2, .int .i64 l2, .slice A22_4 I2.length c22_4]] W10 := by
      have h := hst10q
      simp only [List.map_cons, List.map_nil, xX0, xX1, xX2, xX3, xX4, xX5] at h
      exact h
    have hfr2 : fr = #[.agg #[.int .i64 kA, .int .i64 lA, .slice A sa.length c], .agg #[.int .i64 kB, .int .i64 lB, .slice B sb.length (c')], .pointer (some ⟨B2_1, 0, none⟩), .pointer (some ⟨B3_1, 0, none⟩), .bool false, .bool true, .pointer (some ⟨B6_3, 0, none⟩), .pointer (some ⟨B7_4, 0, none⟩), .string S1, .int .i64 0, .string S2, .int .i64 0, .string T, undef, undef, undef, undef, undef, .bool true, .agg #[.int .i64 kA, .int .i64 lA, .slice A sa.length c], .agg #[.int .i64 k1, .int .i64 l1, .slice A20_3 I1.length c20_3], .agg #[.int .i64 kB, .int .i64 lB, .slice B sb.length (c')], .agg #[.int .i64 k2, .int .i64 l2, .slice A22_4 I2.length c22_4], .tuple #[.string S1, .int .i64 0], .agg #[.int .i64 k1, .int .i64 l1, .slice A20_3 I1.length c20_3], .tuple #[.string S1, .int .i64 0], .string S1, .int .i64 0, .tuple #[.string S2, .int .i64 0], .agg #[.int .i64 k2, .int .i64 l2, .slice A22_4 I2.length c22_4], .tuple #[.string S2, .int .i64 0], .string S2, .int .i64 0, .int .i64 0, .bool false, .bool false, .int .i64 0, .bool false, .bool false, .bool false, .string S1, .int .i64 ((S1.size : Int)), .bool ((S1.size : Int) != 512), .bool false, .bool false, .string S2, .int .i64 ((S2.size : Int)), .bool ((S2.size : Int) != 512), .bool false, .string S1, .string (S1.extract 0 256), .string S2, .string (S2.extract 256 S2.size), .string ((S1.extract 0 256) ++ (S2.extract 256 S2.size)), undef, undef, undef, undef, undef, undef, undef, undef, undef, undef, undef, undef, undef, undef, undef, undef, undef, undef, undef, undef, undef, undef, undef, undef, undef, undef, undef, undef, undef, undef, undef, undef, undef] := hfr.trans (by rw [show dstsU _ = [49, 50, 51, 52, 53, 12] by kernel_rfl]; simp only [List.map_cons, List.map_nil, putAll, List.setIfInBounds_toArray, List.set_cons_succ, List.set_cons_zero, dD49, dD50, dD51, dD52, dD53, dD12])
    clear hfr hX hD hst10q dD49 dD50 dD51 dD52 dD53 dD12 xX0 xX1 xX2 xX3 xX4 xX5
    subst hfr2
    clear σ β X
    refine then_normal ?_
    refine wp_seq ?_
    refine wp_region_V (by kernel_rfl) [0, 1, 3, 7, 15, 0, 32, 127, 255] [[], [], [], [], [], [], [], [], []] [[], [], [], [], [], [], [], [], []] [[], [], [], [], [], [], [], [], []] (fun ix σ β X => match ix with | 0 => σ 54 = .string T | 1 => σ 55 = .string (T.extract 4 T.size) | 2 => σ 56 = .int .u32 ((q : Int)) | 3 => σ 57 = .int .i64 ((q : Int)) | 4 => σ 58 = .string (putS (q : Int) 4) | 5 => σ 59 = .string T | 6 => σ 60 = .string (T.extract 4 T.size) | 7 => σ 61 = .string ((putS (q : Int) 4) ++ (T.extract 4 T.size)) | 8 => σ 13 = .string U | _ => True) [0, 1, 2, 3, 4, 5] (by kernel_rfl) (by kernel_rfl) (by kernel_rfl) (by kernel_rfl) ?_ hst10 ?_ ?_
    · intro ix σ σ' β β' X X' hs hb hx h
      match ix, hs, hb, hx, h with
      | 0, hs, hb, hx, h => rw [← hs 54 (by kernel_rfl)]; exact h
      | 1, hs, hb, hx, h => rw [← hs 55 (by kernel_rfl)]; exact h
      | 2, hs, hb, hx, h => rw [← hs 56 (by kernel_rfl)]; exact h
      | 3, hs, hb, hx, h => rw [← hs 57 (by kernel_rfl)]; exact h
      | 4, hs, hb, hx, h => rw [← hs 58 (by kernel_rfl)]; exact h
      | 5, hs, hb, hx, h => rw [← hs 59 (by kernel_rfl)]; exact h
      | 6, hs, hb, hx, h => rw [← hs 60 (by kernel_rfl)]; exact h
      | 7, hs, hb, hx, h => rw [← hs 61 (by kernel_rfl)]; exact h
      | 8, hs, hb, hx, h => rw [← hs 13 (by kernel_rfl)]; exact h
      | _ + 9, _, _, _, _ => trivial
    · refine ⟨⟨⟨⟨⟨⟨⟨⟨⟨trivial, ?_⟩, ?_⟩, ?_⟩, ?_⟩, ?_⟩, ?_⟩, ?_⟩, ?_⟩, ?_⟩
      · refine sv rfl rfl rfl rfl rfl (fun β => .string T) (fun _ _ _ h => h) (fun _ _ _ => rfl) fun ρ β W X cx => ?_
        have fF12 : ρ (.tmp 12) = .string T := cx.out 12 (by kernel_rfl)
        exact run_move' rfl fF12
      · refine sv rfl rfl rfl rfl rfl (fun β => .string (T.extract 4 T.size)) (fun _ _ _ h => h) (fun _ _ _ => rfl) fun ρ β W X cx => ?_
        have fF54 : ρ (.tmp 54) = .string T := (cx.anc 0 (by kernel_rfl))
        exact run_slice_lo (l := 4) rfl (by kernel_rfl) fF54 (cx.sees.const _) (by omega) (by omega)
      · refine sv_any rfl rfl fun ρ β W X cx => ?_
        have fF55 : ρ (.tmp 55) = .string (T.extract 4 T.size) := (cx.anc 1 (by kernel_rfl))
        refine DoesU.call (run_callF (args := #[.string (T.extract 4 T.size)]) rfl cx.sees rfl (by kernel_rfl) (by simp only [List.map_toArray, List.map_cons, List.map_nil, fF55])) ?_
        refine (HU.out _).mono ?_
        rintro e W1 ⟨rfl, hx⟩
        refine ⟨_, rfl, post_call [] rfl rfl hx (by simp) List.Pairwise.nil (fun σ β' X' hs hb hv hN => ?_)⟩
        have hv1 := (hv 56 rfl).1; have hv2 := (hv 56 rfl).2
        exact hv1.trans rfl
      · refine sv rfl rfl rfl rfl rfl (fun β => .int .i64 ((q : Int))) (fun _ _ _ h => h) (fun _ _ _ => rfl) fun ρ β W X cx => ?_
        have fF56 : ρ (.tmp 56) = .int .u32 ((q : Int)) := (cx.anc 2 (by kernel_rfl))
        exact run_convI rfl (by kernel_rfl) (by kernel_rfl) fF56 (IntWalk.i64_in _ (by omega))
      · refine sv_any rfl rfl fun ρ β W X cx => ?_
        have fF57 : ρ (.tmp 57) = .int .i64 ((q : Int)) := (cx.anc 3 (by kernel_rfl))
        refine DoesU.call (run_callF (args := #[.int .i64 ((q : Int)), .int .i64 4]) rfl cx.sees rfl (by kernel_rfl) (by simp only [List.map_toArray, List.map_cons, List.map_nil, fF57, cx.sees.const])) ?_
        refine (HP.out _).mono ?_
        rintro e W1 ⟨rfl, hx⟩
        refine ⟨_, rfl, post_call [] rfl rfl hx (by simp) List.Pairwise.nil (fun σ β' X' hs hb hv hN => ?_)⟩
        have hv1 := (hv 58 rfl).1; have hv2 := (hv 58 rfl).2
        exact hv1.trans rfl
      · refine sv rfl rfl rfl rfl rfl (fun β => .string T) (fun _ _ _ h => h) (fun _ _ _ => rfl) fun ρ β W X cx => ?_
        have fF12 : ρ (.tmp 12) = .string T := cx.out 12 (by kernel_rfl)
        exact run_move' rfl fF12
      · refine sv rfl rfl rfl rfl rfl (fun β => .string (T.extract 4 T.size)) (fun _ _ _ h => h) (fun _ _ _ => rfl) fun ρ β W X cx => ?_
        have fF59 : ρ (.tmp 59) = .string T := (cx.anc 5 (by kernel_rfl))
        exact run_slice_lo (l := 4) rfl (by kernel_rfl) fF59 (cx.sees.const _) (by omega) (by omega)
      · refine sv rfl rfl rfl rfl rfl (fun β => .string ((putS (q : Int) 4) ++ (T.extract 4 T.size))) (fun _ _ _ h => h) (fun _ _ _ => rfl) fun ρ β W X cx => ?_
        have fF58 : ρ (.tmp 58) = .string (putS (q : Int) 4) := (cx.anc 4 (by kernel_rfl))
        have fF60 : ρ (.tmp 60) = .string (T.extract 4 T.size) := (cx.anc 6 (by kernel_rfl))
        exact run_strcat rfl fF58 fF60 (by omega)
      · refine sv rfl rfl rfl rfl rfl (fun β => .string U) (fun _ _ _ h => h) (fun _ _ _ => rfl) fun ρ β W X cx => ?_
        have fF61 : ρ (.tmp 61) = .string ((putS (q : Int) 4) ++ (T.extract 4 T.size)) := (cx.anc 7 (by kernel_rfl))
        exact (by rw [HUU.out]; exact run_assign' rfl fF61)
    intro σ β X W11 hD hX hst11q fr hfr
    have dD54 : σ 54 = .string T := (hD 0 (Nat.le_of_ble_eq_true rfl))
    have dD55 : σ 55 = .string (T.extract 4 T.size) := (hD 1 (Nat.le_of_ble_eq_true rfl))
    have dD56 : σ 56 = .int .u32 ((q : Int)) := (hD 2 (Nat.le_of_ble_eq_true rfl))
    have dD57 : σ 57 = .int .i64 ((q : Int)) := (hD 3 (Nat.le_of_ble_eq_true rfl))
    have dD58 : σ 58 = .string (putS (q : Int) 4) := (hD 4 (Nat.le_of_ble_eq_true rfl))
    have dD59 : σ 59 = .string T := (hD 5 (Nat.le_of_ble_eq_true rfl))
    have dD60 : σ 60 = .string (T.extract 4 T.size) := (hD 6 (Nat.le_of_ble_eq_true rfl))
    have dD61 : σ 61 = .string ((putS (q : Int) 4) ++ (T.extract 4 T.size)) := (hD 7 (Nat.le_of_ble_eq_true rfl))
    have dD13 : σ 13 = .string U := (hD 8 (Nat.le_of_ble_eq_true rfl))
    have xX0 : X 0 = eB B2_1 24 #[.int .i64 kA, .int .i64 lA, .slice A sa.length c] := hX 0 _ rfl
    have xX1 : X 1 = eB B3_1 24 #[.int .i64 kB, .int .i64 lB, .slice B sb.length (c')] := hX 1 _ rfl
    have xX2 : X 2 = eO 9 1 (.slice A20_3 I1.length c20_3) I1.length (I1.map Value.string) := hX 2 _ rfl
    have xX3 : X 3 = eB B6_3 26 #[.int .i64 k1, .int .i64 l1, .slice A20_3 I1.length c20_3] := hX 3 _ rfl
    have xX4 : X 4 = eO 9 1 (.slice A22_4 I2.length c22_4) I2.length (I2.map Value.string) := hX 4 _ rfl
    have xX5 : X 5 = eB B7_4 26 #[.int .i64 k2, .int .i64 l2, .slice A22_4 I2.length c22_4] := hX 5 _ rfl
    have hst11 : St w [] [eB B2_1 24 #[.int .i64 kA, .int .i64 lA, .slice A sa.length c], eB B3_1 24 #[.int .i64 kB, .int .i64 lB, .slice B sb.length (c')], eO 9 1 (.slice A20_3 I1.length c20_3) I1.length (I1.map Value.string), eB B6_3 26 #[.int .i64 k1, .int .i64 l1, .slice A20_3 I1.length c20_3], eO 9 1 (.slice A22_4 I2.length c22_4) I2.length (I2.map Value.string), eB B7_4 26 #[.int .i64 k2, .int .i64 l2, .slice A22_4 I2.length c22_4]] W11 := by
      have h := hst11q
      simp only [List.map_cons, List.map_nil, xX0, xX1, xX2, xX3, xX4, xX5] at h
      exact h
    have hfr2 : fr = #[.agg #[.int .i64 kA, .int .i64 lA, .slice A sa.length c], .agg #[.int .i64 kB, .int .i64 lB, .slice B sb.length (c')], .pointer (some ⟨B2_1, 0, none⟩), .pointer (some ⟨B3_1, 0, none⟩), .bool false, .bool true, .pointer (some ⟨B6_3, 0, none⟩), .pointer (some ⟨B7_4, 0, none⟩), .string S1, .int .i64 0, .string S2, .int .i64 0, .string T, .string U, undef, undef, undef, undef, .bool true, .agg #[.int .i64 kA, .int .i64 lA, .slice A sa.length c], .agg #[.int .i64 k1, .int .i64 l1, .slice A20_3 I1.length c20_3], .agg #[.int .i64 kB, .int .i64 lB, .slice B sb.length (c')], .agg #[.int .i64 k2, .int .i64 l2, .slice A22_4 I2.length c22_4], .tuple #[.string S1, .int .i64 0], .agg #[.int .i64 k1, .int .i64 l1, .slice A20_3 I1.length c20_3], .tuple #[.string S1, .int .i64 0], .string S1, .int .i64 0, .tuple #[.string S2, .int .i64 0], .agg #[.int .i64 k2, .int .i64 l2, .slice A22_4 I2.length c22_4], .tuple #[.string S2, .int .i64 0], .string S2, .int .i64 0, .int .i64 0, .bool false, .bool false, .int .i64 0, .bool false, .bool false, .bool false, .string S1, .int .i64 ((S1.size : Int)), .bool ((S1.size : Int) != 512), .bool false, .bool false, .string S2, .int .i64 ((S2.size : Int)), .bool ((S2.size : Int) != 512), .bool false, .string S1, .string (S1.extract 0 256), .string S2, .string (S2.extract 256 S2.size), .string ((S1.extract 0 256) ++ (S2.extract 256 S2.size)), .string T, .string (T.extract 4 T.size), .int .u32 ((q : Int)), .int .i64 ((q : Int)), .string (putS (q : Int) 4), .string T, .string (T.extract 4 T.size), .string ((putS (q : Int) 4) ++ (T.extract 4 T.size)), undef, undef, undef, undef, undef, undef, undef, undef, undef, undef, undef, undef, undef, undef, undef, undef, undef, undef, undef, undef, undef, undef, undef, undef, undef] := hfr.trans (by rw [show dstsU _ = [54, 55, 56, 57, 58, 59, 60, 61, 13] by kernel_rfl]; simp only [List.map_cons, List.map_nil, putAll, List.setIfInBounds_toArray, List.set_cons_succ, List.set_cons_zero, dD54, dD55, dD56, dD57, dD58, dD59, dD60, dD61, dD13])
    clear hfr hX hD hst11q dD54 dD55 dD56 dD57 dD58 dD59 dD60 dD61 dD13 xX0 xX1 xX2 xX3 xX4 xX5
    subst hfr2
    clear σ β X
    refine then_normal ?_
    refine wp_seq ?_
    refine wp_region_V (by kernel_rfl) [0, 1, 3, 7, 7, 0, 47, 127] [[], [], [], [], [], [], [7], []] [[], [6], [], [], [], [7], [8], []] [[], [], [], [], [], [], [7], []] (fun ix σ β X => match ix with | 0 => σ 63 = .string T | 1 => σ 64 = .tuple #[.agg #[.int .i64 0, .int .i64 0, .slice (sA (tg (tg (β 64) 0) 2)) (([] : List ByteArray).length) (sC (tg (tg (β 64) 0) 2))], .int .i64 12] ∧ X 6 = eO 9 1 (.slice (sA (tg (tg (β 64) 0) 2)) (([] : List ByteArray).length) (sC (tg (tg (β 64) 0) 2))) (([] : List ByteArray).length) (([] : List ByteArray).map Value.string) | 2 => σ 62 = .tuple #[.agg #[.int .i64 0, .int .i64 0, .slice (sA (tg (tg (β 64) 0) 2)) (([] : List ByteArray).length) (sC (tg (tg (β 64) 0) 2))], .int .i64 12] | 3 => σ 65 = .agg #[.int .i64 0, .int .i64 0, .slice (sA (tg (tg (β 64) 0) 2)) (([] : List ByteArray).length) (sC (tg (tg (β 64) 0) 2))] | 4 => σ 66 = .int .i64 12 | 5 => σ 14 = .pointer (some ⟨(pb (β 14)), 0, none⟩) ∧ X 7 = eB (pb (β 14)) 26 #[.int .i64 0, .int .i64 0, .slice none 0 0] | 6 => X 8 = eB (pb (β 14)) 26 #[.int .i64 0, .int .i64 0, .slice (sA (tg (tg (β 64) 0) 2)) (([] : List ByteArray).length) (sC (tg (tg (β 64) 0) 2))] | 7 => σ 15 = .int .i64 12 | _ => True) [0, 1, 2, 3, 4, 5, 6, 8] (by kernel_rfl) (by kernel_rfl) (by kernel_rfl) (by kernel_rfl) ?_ hst11 ?_ ?_
    · intro ix σ σ' β β' X X' hs hb hx h
      match ix, hs, hb, hx, h with
      | 0, hs, hb, hx, h => rw [← hs 63 (by kernel_rfl)]; exact h
      | 1, hs, hb, hx, h => rw [← hs 64 (by kernel_rfl), ← hb 64 (by kernel_rfl), ← hx 6 (by kernel_rfl)]; exact h
      | 2, hs, hb, hx, h => rw [← hs 62 (by kernel_rfl), ← hb 64 (by kernel_rfl)]; exact h
      | 3, hs, hb, hx, h => rw [← hs 65 (by kernel_rfl), ← hb 64 (by kernel_rfl)]; exact h
      | 4, hs, hb, hx, h => rw [← hs 66 (by kernel_rfl)]; exact h
      | 5, hs, hb, hx, h => rw [← hs 14 (by kernel_rfl), ← hb 14 (by kernel_rfl), ← hx 7 (by kernel_rfl)]; exact h
      | 6, hs, hb, hx, h => rw [← hb 14 (by kernel_rfl), ← hb 64 (by kernel_rfl), ← hx 8 (by kernel_rfl)]; exact h
      | 7, hs, hb, hx, h => rw [← hs 15 (by kernel_rfl)]; exact h
      | _ + 8, _, _, _, _ => trivial
    · refine ⟨⟨⟨⟨⟨⟨⟨⟨trivial, ?_⟩, ?_⟩, ?_⟩, ?_⟩, ?_⟩, ?_⟩, ?_⟩, ?_⟩
      · refine sv rfl rfl rfl rfl rfl (fun β => .string T) (fun _ _ _ h => h) (fun _ _ _ => rfl) fun ρ β W X cx => ?_
        have fF12 : ρ (.tmp 12) = .string T := cx.out 12 (by kernel_rfl)
        exact run_move' rfl fF12
      · refine sv_any rfl rfl fun ρ β W X cx => ?_
        have fF63 : ρ (.tmp 63) = .string T := (cx.anc 0 (by kernel_rfl))
        refine DoesU.call (run_callF (args := #[.string T]) rfl cx.sees rfl (by kernel_rfl) (by simp only [List.map_toArray, List.map_cons, List.map_nil, fF63])) ?_
        refine (hXT.1 _).mono ?_
        rintro e W1 ⟨A4, c4, rfl, ho, hx⟩
        refine ⟨_, rfl, post_call [eO 9 1 (.slice A4 ([] : List ByteArray).length c4) ([] : List ByteArray).length (([] : List ByteArray).map Value.string)] rfl rfl hx (one_new (eO_new ho)) (List.pairwise_singleton _ _) (fun σ β' X' hs hb hv hN => ?_)⟩
        have hv1 := (hv 64 rfl).1; have hv2 := (hv 64 rfl).2
        exact ⟨hv1.trans (by rw [hv2]; rfl), (by rw [hv2]; exact (List.cons.inj hN).1)⟩
      · refine sv rfl rfl rfl rfl rfl (fun β => .tuple #[.agg #[.int .i64 0, .int .i64 0, .slice (sA (tg (tg (β 64) 0) 2)) (([] : List ByteArray).length) (sC (tg (tg (β 64) 0) 2))], .int .i64 12]) (fun _ _ _ h => h) (fun β β' h => by rw [h 64 (by decide)]) fun ρ β W X cx => ?_
        have fF64 : ρ (.tmp 64) = .tuple #[.agg #[.int .i64 0, .int .i64 0, .slice (sA (tg (tg (β 64) 0) 2)) (([] : List ByteArray).length) (sC (tg (tg (β 64) 0) 2))], .int .i64 12] := (cx.anc 1 (by kernel_rfl)).1
        exact run_move' rfl fF64
      · refine sv rfl rfl rfl rfl rfl (fun β => .agg #[.int .i64 0, .int .i64 0, .slice (sA (tg (tg (β 64) 0) 2)) (([] : List ByteArray).length) (sC (tg (tg (β 64) 0) 2))]) (fun _ _ _ h => h) (fun β β' h => by rw [h 64 (by decide)]) fun ρ β W X cx => ?_
        have fF62 : ρ (.tmp 62) = .tuple #[.agg #[.int .i64 0, .int .i64 0, .slice (sA (tg (tg (β 64) 0) 2)) (([] : List ByteArray).length) (sC (tg (tg (β 64) 0) 2))], .int .i64 12] := (cx.anc 2 (by kernel_rfl))
        exact run_extract' rfl fF62 rfl
      · refine sv rfl rfl rfl rfl rfl (fun β => .int .i64 12) (fun _ _ _ h => h) (fun _ _ _ => rfl) fun ρ β W X cx => ?_
        have fF62 : ρ (.tmp 62) = .tuple #[.agg #[.int .i64 0, .int .i64 0, .slice (sA (tg (tg (β 64) 0) 2)) (([] : List ByteArray).length) (sC (tg (tg (β 64) 0) 2))], .int .i64 12] := (cx.anc 2 (by kernel_rfl))
        exact run_extract' rfl fF62 rfl
      · refine sv_any rfl rfl fun ρ β W X cx => ?_
        exact dv_alloc (cs := #[.int .i64 0, .int .i64 0, .slice none 0 0]) rfl (by kernel_rfl) rfl rfl (fun σ β' X' hs hb hv hx => ⟨hv, hx⟩)
      · refine sv_any rfl rfl fun ρ β W X cx => ?_
        have fF14 : ρ (.tmp 14) = .pointer (some ⟨(pb (β 14)), 0, none⟩) := (cx.anc 5 (by kernel_rfl)).1
        have fF65 : ρ (.tmp 65) = .agg #[.int .i64 0, .int .i64 0, .slice (sA (tg (tg (β 64) 0) 2)) (([] : List ByteArray).length) (sC (tg (tg (β 64) 0) 2))] := (cx.anc 3 (by kernel_rfl))
        have xX7 : X 7 = eB (pb (β 14)) 26 #[.int .i64 0, .int .i64 0, .slice none 0 0] := (cx.anc 5 (by kernel_rfl)).2
        exact dv_store (n := 3) rfl fF14 fF65 (by kernel_rfl) rfl rfl cx xX7 rfl (Nat.le_of_ble_eq_true rfl) rfl rfl rfl rfl (fun σ β' X' hs hb hx => by rw [hb 14, hb 64]; exact hx)
      · refine sv rfl rfl rfl rfl rfl (fun β => .int .i64 12) (fun _ _ _ h => h) (fun _ _ _ => rfl) fun ρ β W X cx => ?_
        have fF66 : ρ (.tmp 66) = .int .i64 12 := (cx.anc 4 (by kernel_rfl))
        exact run_assign' rfl fF66
    intro σ β X W12 hD hX hst12q fr hfr
    obtain ⟨A64_12, hu_A64_12⟩ : ∃ z, sA (tg (tg (β 64) 0) 2) = z := ⟨_, rfl⟩
    obtain ⟨c64_12, hu_c64_12⟩ : ∃ z, sC (tg (tg (β 64) 0) 2) = z := ⟨_, rfl⟩
    obtain ⟨B14_12, hu_B14_12⟩ : ∃ z, pb (β 14) = z := ⟨_, rfl⟩
    have dD63 : σ 63 = .string T := (hD 0 (Nat.le_of_ble_eq_true rfl))
    have dD64 : σ 64 = .tuple #[.agg #[.int .i64 0, .int .i64 0, .slice A64_12 (([] : List ByteArray).length) c64_12], .int .i64 12] := by rw [← hu_A64_12, ← hu_c64_12]; exact (hD 1 (Nat.le_of_ble_eq_true rfl)).1
    have dD62 : σ 62 = .tuple #[.agg #[.int .i64 0, .int .i64 0, .slice A64_12 (([] : List ByteArray).length) c64_12], .int .i64 12] := by rw [← hu_A64_12, ← hu_c64_12]; exact (hD 2 (Nat.le_of_ble_eq_true rfl))
    have dD65 : σ 65 = .agg #[.int .i64 0, .int .i64 0, .slice A64_12 (([] : List ByteArray).length) c64_12] := by rw [← hu_A64_12, ← hu_c64_12]; exact (hD 3 (Nat.le_of_ble_eq_true rfl))
    have dD66 : σ 66 = .int .i64 12 := (hD 4 (Nat.le_of_ble_eq_true rfl))
    have dD14 : σ 14 = .pointer (some ⟨B14_12, 0, none⟩) := by rw [← hu_B14_12]; exact (hD 5 (Nat.le_of_ble_eq_true rfl)).1
    have dD15 : σ 15 = .int .i64 12 := (hD 7 (Nat.le_of_ble_eq_true rfl))
    have xX0 : X 0 = eB B2_1 24 #[.int .i64 kA, .int .i64 lA, .slice A sa.length c] := hX 0 _ rfl
    have xX1 : X 1 = eB B3_1 24 #[.int .i64 kB, .int .i64 lB, .slice B sb.length (c')] := hX 1 _ rfl
    have xX2 : X 2 = eO 9 1 (.slice A20_3 I1.length c20_3) I1.length (I1.map Value.string) := hX 2 _ rfl
    have xX3 : X 3 = eB B6_3 26 #[.int .i64 k1, .int .i64 l1, .slice A20_3 I1.length c20_3] := hX 3 _ rfl
    have xX4 : X 4 = eO 9 1 (.slice A22_4 I2.length c22_4) I2.length (I2.map Value.string) := hX 4 _ rfl
    have xX5 : X 5 = eB B7_4 26 #[.int .i64 k2, .int .i64 l2, .slice A22_4 I2.length c22_4] := hX 5 _ rfl
    have xX6 : X 6 = eO 9 1 (.slice A64_12 (([] : List ByteArray).length) c64_12) (([] : List ByteArray).length) (([] : List ByteArray).map Value.string) := by rw [← hu_A64_12, ← hu_c64_12]; exact (hD 1 (Nat.le_of_ble_eq_true rfl)).2
    have xX8 : X 8 = eB B14_12 26 #[.int .i64 0, .int .i64 0, .slice A64_12 (([] : List ByteArray).length) c64_12] := by rw [← hu_A64_12, ← hu_c64_12, ← hu_B14_12]; exact (hD 6 (Nat.le_of_ble_eq_true rfl))
    have hst12 : St w [] [eB B2_1 24 #[.int .i64 kA, .int .i64 lA, .slice A sa.length c], eB B3_1 24 #[.int .i64 kB, .int .i64 lB, .slice B sb.length (c')], eO 9 1 (.slice A20_3 I1.length c20_3) I1.length (I1.map Value.string), eB B6_3 26 #[.int .i64 k1, .int .i64 l1, .slice A20_3 I1.length c20_3], eO 9 1 (.slice A22_4 I2.length c22_4) I2.length (I2.map Value.string), eB B7_4 26 #[.int .i64 k2, .int .i64 l2, .slice A22_4 I2.length c22_4], eO 9 1 (.slice A64_12 (([] : List ByteArray).length) c64_12) (([] : List ByteArray).length) (([] : List ByteArray).map Value.string), eB B14_12 26 #[.int .i64 0, .int .i64 0, .slice A64_12 (([] : List ByteArray).length) c64_12]] W12 := by
      have h := hst12q
      simp only [List.map_cons, List.map_nil, xX0, xX1, xX2, xX3, xX4, xX5, xX6, xX8] at h
      exact h
    have hfr2 : fr = #[.agg #[.int .i64 kA, .int .i64 lA, .slice A sa.length c], .agg #[.int .i64 kB, .int .i64 lB, .slice B sb.length (c')], .pointer (some ⟨B2_1, 0, none⟩), .pointer (some ⟨B3_1, 0, none⟩), .bool false, .bool true, .pointer (some ⟨B6_3, 0, none⟩), .pointer (some ⟨B7_4, 0, none⟩), .string S1, .int .i64 0, .string S2, .int .i64 0, .string T, .string U, .pointer (some ⟨B14_12, 0, none⟩), .int .i64 12, undef, undef, .bool true, .agg #[.int .i64 kA, .int .i64 lA, .slice A sa.length c], .agg #[.int .i64 k1, .int .i64 l1, .slice A20_3 I1.length c20_3], .agg #[.int .i64 kB, .int .i64 lB, .slice B sb.length (c')], .agg #[.int .i64 k2, .int .i64 l2, .slice A22_4 I2.length c22_4], .tuple #[.string S1, .int .i64 0], .agg #[.int .i64 k1, .int .i64 l1, .slice A20_3 I1.length c20_3], .tuple #[.string S1, .int .i64 0], .string S1, .int .i64 0, .tuple #[.string S2, .int .i64 0], .agg #[.int .i64 k2, .int .i64 l2, .slice A22_4 I2.length c22_4], .tuple #[.string S2, .int .i64 0], .string S2, .int .i64 0, .int .i64 0, .bool false, .bool false, .int .i64 0, .bool false, .bool false, .bool false, .string S1, .int .i64 ((S1.size : Int)), .bool ((S1.size : Int) != 512), .bool false, .bool false, .string S2, .int .i64 ((S2.size : Int)), .bool ((S2.size : Int) != 512), .bool false, .string S1, .string (S1.extract 0 256), .string S2, .string (S2.extract 256 S2.size), .string ((S1.extract 0 256) ++ (S2.extract 256 S2.size)), .string T, .string (T.extract 4 T.size), .int .u32 ((q : Int)), .int .i64 ((q : Int)), .string (putS (q : Int) 4), .string T, .string (T.extract 4 T.size), .string ((putS (q : Int) 4) ++ (T.extract 4 T.size)), .tuple #[.agg #[.int .i64 0, .int .i64 0, .slice A64_12 (([] : List ByteArray).length) c64_12], .int .i64 12], .string T, .tuple #[.agg #[.int .i64 0, .int .i64 0, .slice A64_12 (([] : List ByteArray).length) c64_12], .int .i64 12], .agg #[.int .i64 0, .int .i64 0, .slice A64_12 (([] : List ByteArray).length) c64_12], .int .i64 12, undef, undef, undef, undef, undef, undef, undef, undef, undef, undef, undef, undef, undef, undef, undef, undef, undef, undef, undef, undef] := hfr.trans (by rw [show dstsU _ = [63, 64, 62, 65, 66, 14, 15] by kernel_rfl]; simp only [List.map_cons, List.map_nil, putAll, List.setIfInBounds_toArray, List.set_cons_succ, List.set_cons_zero, dD63, dD64, dD62, dD65, dD66, dD14, dD15])
    clear hfr hX hD hst12q dD63 dD64 dD62 dD65 dD66 dD14 dD15 xX0 xX1 xX2 xX3 xX4 xX5 xX6 xX8 hu_A64_12 hu_c64_12 hu_B14_12
    subst hfr2
    clear σ β X
    refine then_normal ?_
    refine wp_seq ?_
    refine wp_region_V (by kernel_rfl) [0, 1, 3, 7, 7, 0, 47, 127] [[], [], [], [], [], [], [9], []] [[], [8], [], [], [], [9], [10], []] [[], [], [], [], [], [], [9], []] (fun ix σ β X => match ix with | 0 => σ 68 = .string U | 1 => σ 69 = .tuple #[.agg #[.int .i64 0, .int .i64 0, .slice (sA (tg (tg (β 69) 0) 2)) (([] : List ByteArray).length) (sC (tg (tg (β 69) 0) 2))], .int .i64 12] ∧ X 8 = eO 9 1 (.slice (sA (tg (tg (β 69) 0) 2)) (([] : List ByteArray).length) (sC (tg (tg (β 69) 0) 2))) (([] : List ByteArray).length) (([] : List ByteArray).map Value.string) | 2 => σ 67 = .tuple #[.agg #[.int .i64 0, .int .i64 0, .slice (sA (tg (tg (β 69) 0) 2)) (([] : List ByteArray).length) (sC (tg (tg (β 69) 0) 2))], .int .i64 12] | 3 => σ 70 = .agg #[.int .i64 0, .int .i64 0, .slice (sA (tg (tg (β 69) 0) 2)) (([] : List ByteArray).length) (sC (tg (tg (β 69) 0) 2))] | 4 => σ 71 = .int .i64 12 | 5 => σ 16 = .pointer (some ⟨(pb (β 16)), 0, none⟩) ∧ X 9 = eB (pb (β 16)) 26 #[.int .i64 0, .int .i64 0, .slice none 0 0] | 6 => X 10 = eB (pb (β 16)) 26 #[.int .i64 0, .int .i64 0, .slice (sA (tg (tg (β 69) 0) 2)) (([] : List ByteArray).length) (sC (tg (tg (β 69) 0) 2))] | 7 => σ 17 = .int .i64 12 | _ => True) [0, 1, 2, 3, 4, 5, 6, 7, 8, 10] (by kernel_rfl) (by kernel_rfl) (by kernel_rfl) (by kernel_rfl) ?_ hst12 ?_ ?_
    · intro ix σ σ' β β' X X' hs hb hx h
      match ix, hs, hb, hx, h with
      | 0, hs, hb, hx, h => rw [← hs 68 (by kernel_rfl)]; exact h
      | 1, hs, hb, hx, h => rw [← hs 69 (by kernel_rfl), ← hb 69 (by kernel_rfl), ← hx 8 (by kernel_rfl)]; exact h
      | 2, hs, hb, hx, h => rw [← hs 67 (by kernel_rfl), ← hb 69 (by kernel_rfl)]; exact h
      | 3, hs, hb, hx, h => rw [← hs 70 (by kernel_rfl), ← hb 69 (by kernel_rfl)]; exact h
      | 4, hs, hb, hx, h => rw [← hs 71 (by kernel_rfl)]; exact h
      | 5, hs, hb, hx, h => rw [← hs 16 (by kernel_rfl), ← hb 16 (by kernel_rfl), ← hx 9 (by kernel_rfl)]; exact h
      | 6, hs, hb, hx, h => rw [← hb 16 (by kernel_rfl), ← hb 69 (by kernel_rfl), ← hx 10 (by kernel_rfl)]; exact h
      | 7, hs, hb, hx, h => rw [← hs 17 (by kernel_rfl)]; exact h
      | _ + 8, _, _, _, _ => trivial
    · refine ⟨⟨⟨⟨⟨⟨⟨⟨trivial, ?_⟩, ?_⟩, ?_⟩, ?_⟩, ?_⟩, ?_⟩, ?_⟩, ?_⟩
      · refine sv rfl rfl rfl rfl rfl (fun β => .string U) (fun _ _ _ h => h) (fun _ _ _ => rfl) fun ρ β W X cx => ?_
        have fF13 : ρ (.tmp 13) = .string U := cx.out 13 (by kernel_rfl)
        exact run_move' rfl fF13
      · refine sv_any rfl rfl fun ρ β W X cx => ?_
        have fF68 : ρ (.tmp 68) = .string U := (cx.anc 0 (by kernel_rfl))
        refine DoesU.call (run_callF (args := #[.string U]) rfl cx.sees rfl (by kernel_rfl) (by simp only [List.map_toArray, List.map_cons, List.map_nil, fF68])) ?_
        refine (hXT.2 _).mono ?_
        rintro e W1 ⟨A4, c4, rfl, ho, hx⟩
        refine ⟨_, rfl, post_call [eO 9 1 (.slice A4 ([] : List ByteArray).length c4) ([] : List ByteArray).length (([] : List ByteArray).map Value.string)] rfl rfl hx (one_new (eO_new ho)) (List.pairwise_singleton _ _) (fun σ β' X' hs hb hv hN => ?_)⟩
        have hv1 := (hv 69 rfl).1; have hv2 := (hv 69 rfl).2
        exact ⟨hv1.trans (by rw [hv2]; rfl), (by rw [hv2]; exact (List.cons.inj hN).1)⟩
      · refine sv rfl rfl rfl rfl rfl (fun β => .tuple #[.agg #[.int .i64 0, .int .i64 0, .slice (sA (tg (tg (β 69) 0) 2)) (([] : List ByteArray).length) (sC (tg (tg (β 69) 0) 2))], .int .i64 12]) (fun _ _ _ h => h) (fun β β' h => by rw [h 69 (by decide)]) fun ρ β W X cx => ?_
        have fF69 : ρ (.tmp 69) = .tuple #[.agg #[.int .i64 0, .int .i64 0, .slice (sA (tg (tg (β 69) 0) 2)) (([] : List ByteArray).length) (sC (tg (tg (β 69) 0) 2))], .int .i64 12] := (cx.anc 1 (by kernel_rfl)).1
        exact run_move' rfl fF69
      · refine sv rfl rfl rfl rfl rfl (fun β => .agg #[.int .i64 0, .int .i64 0, .slice (sA (tg (tg (β 69) 0) 2)) (([] : List ByteArray).length) (sC (tg (tg (β 69) 0) 2))]) (fun _ _ _ h => h) (fun β β' h => by rw [h 69 (by decide)]) fun ρ β W X cx => ?_
        have fF67 : ρ (.tmp 67) = .tuple #[.agg #[.int .i64 0, .int .i64 0, .slice (sA (tg (tg (β 69) 0) 2)) (([] : List ByteArray).length) (sC (tg (tg (β 69) 0) 2))], .int .i64 12] := (cx.anc 2 (by kernel_rfl))
        exact run_extract' rfl fF67 rfl
      · refine sv rfl rfl rfl rfl rfl (fun β => .int .i64 12) (fun _ _ _ h => h) (fun _ _ _ => rfl) fun ρ β W X cx => ?_
        have fF67 : ρ (.tmp 67) = .tuple #[.agg #[.int .i64 0, .int .i64 0, .slice (sA (tg (tg (β 69) 0) 2)) (([] : List ByteArray).length) (sC (tg (tg (β 69) 0) 2))], .int .i64 12] := (cx.anc 2 (by kernel_rfl))
        exact run_extract' rfl fF67 rfl
      · refine sv_any rfl rfl fun ρ β W X cx => ?_
        exact dv_alloc (cs := #[.int .i64 0, .int .i64 0, .slice none 0 0]) rfl (by kernel_rfl) rfl rfl (fun σ β' X' hs hb hv hx => ⟨hv, hx⟩)
      · refine sv_any rfl rfl fun ρ β W X cx => ?_
        have fF16 : ρ (.tmp 16) = .pointer (some ⟨(pb (β 16)), 0, none⟩) := (cx.anc 5 (by kernel_rfl)).1
        have fF70 : ρ (.tmp 70) = .agg #[.int .i64 0, .int .i64 0, .slice (sA (tg (tg (β 69) 0) 2)) (([] : List ByteArray).length) (sC (tg (tg (β 69) 0) 2))] := (cx.anc 3 (by kernel_rfl))
        have xX9 : X 9 = eB (pb (β 16)) 26 #[.int .i64 0, .int .i64 0, .slice none 0 0] := (cx.anc 5 (by kernel_rfl)).2
        exact dv_store (n := 3) rfl fF16 fF70 (by kernel_rfl) rfl rfl cx xX9 rfl (Nat.le_of_ble_eq_true rfl) rfl rfl rfl rfl (fun σ β' X' hs hb hx => by rw [hb 16, hb 69]; exact hx)
      · refine sv rfl rfl rfl rfl rfl (fun β => .int .i64 12) (fun _ _ _ h => h) (fun _ _ _ => rfl) fun ρ β W X cx => ?_
        have fF71 : ρ (.tmp 71) = .int .i64 12 := (cx.anc 4 (by kernel_rfl))
        exact run_assign' rfl fF71
    intro σ β X W13 hD hX hst13q fr hfr
    obtain ⟨A69_13, hu_A69_13⟩ : ∃ z, sA (tg (tg (β 69) 0) 2) = z := ⟨_, rfl⟩
    obtain ⟨c69_13, hu_c69_13⟩ : ∃ z, sC (tg (tg (β 69) 0) 2) = z := ⟨_, rfl⟩
    obtain ⟨B16_13, hu_B16_13⟩ : ∃ z, pb (β 16) = z := ⟨_, rfl⟩
    have dD68 : σ 68 = .string U := (hD 0 (Nat.le_of_ble_eq_true rfl))
    have dD69 : σ 69 = .tuple #[.agg #[.int .i64 0, .int .i64 0, .slice A69_13 (([] : List ByteArray).length) c69_13], .int .i64 12] := by rw [← hu_A69_13, ← hu_c69_13]; exact (hD 1 (Nat.le_of_ble_eq_true rfl)).1
    have dD67 : σ 67 = .tuple #[.agg #[.int .i64 0, .int .i64 0, .slice A69_13 (([] : List ByteArray).length) c69_13], .int .i64 12] := by rw [← hu_A69_13, ← hu_c69_13]; exact (hD 2 (Nat.le_of_ble_eq_true rfl))
    have dD70 : σ 70 = .agg #[.int .i64 0, .int .i64 0, .slice A69_13 (([] : List ByteArray).length) c69_13] := by rw [← hu_A69_13, ← hu_c69_13]; exact (hD 3 (Nat.le_of_ble_eq_true rfl))
    have dD71 : σ 71 = .int .i64 12 := (hD 4 (Nat.le_of_ble_eq_true rfl))
    have dD16 : σ 16 = .pointer (some ⟨B16_13, 0, none⟩) := by rw [← hu_B16_13]; exact (hD 5 (Nat.le_of_ble_eq_true rfl)).1
    have dD17 : σ 17 = .int .i64 12 := (hD 7 (Nat.le_of_ble_eq_true rfl))
    have xX0 : X 0 = eB B2_1 24 #[.int .i64 kA, .int .i64 lA, .slice A sa.length c] := hX 0 _ rfl
    have xX1 : X 1 = eB B3_1 24 #[.int .i64 kB, .int .i64 lB, .slice B sb.length (c')] := hX 1 _ rfl
    have xX2 : X 2 = eO 9 1 (.slice A20_3 I1.length c20_3) I1.length (I1.map Value.string) := hX 2 _ rfl
    have xX3 : X 3 = eB B6_3 26 #[.int .i64 k1, .int .i64 l1, .slice A20_3 I1.length c20_3] := hX 3 _ rfl
    have xX4 : X 4 = eO 9 1 (.slice A22_4 I2.length c22_4) I2.length (I2.map Value.string) := hX 4 _ rfl
    have xX5 : X 5 = eB B7_4 26 #[.int .i64 k2, .int .i64 l2, .slice A22_4 I2.length c22_4] := hX 5 _ rfl
    have xX6 : X 6 = eO 9 1 (.slice A64_12 (([] : List ByteArray).length) c64_12) (([] : List ByteArray).length) (([] : List ByteArray).map Value.string) := hX 6 _ rfl
    have xX7 : X 7 = eB B14_12 26 #[.int .i64 0, .int .i64 0, .slice A64_12 (([] : List ByteArray).length) c64_12] := hX 7 _ rfl
    have xX8 : X 8 = eO 9 1 (.slice A69_13 (([] : List ByteArray).length) c69_13) (([] : List ByteArray).length) (([] : List ByteArray).map Value.string) := by rw [← hu_A69_13, ← hu_c69_13]; exact (hD 1 (Nat.le_of_ble_eq_true rfl)).2
    have xX10 : X 10 = eB B16_13 26 #[.int .i64 0, .int .i64 0, .slice A69_13 (([] : List ByteArray).length) c69_13] := by rw [← hu_A69_13, ← hu_c69_13, ← hu_B16_13]; exact (hD 6 (Nat.le_of_ble_eq_true rfl))
    have hst13 : St w [] [eB B2_1 24 #[.int .i64 kA, .int .i64 lA, .slice A sa.length c], eB B3_1 24 #[.int .i64 kB, .int .i64 lB, .slice B sb.length (c')], eO 9 1 (.slice A20_3 I1.length c20_3) I1.length (I1.map Value.string), eB B6_3 26 #[.int .i64 k1, .int .i64 l1, .slice A20_3 I1.length c20_3], eO 9 1 (.slice A22_4 I2.length c22_4) I2.length (I2.map Value.string), eB B7_4 26 #[.int .i64 k2, .int .i64 l2, .slice A22_4 I2.length c22_4], eO 9 1 (.slice A64_12 (([] : List ByteArray).length) c64_12) (([] : List ByteArray).length) (([] : List ByteArray).map Value.string), eB B14_12 26 #[.int .i64 0, .int .i64 0, .slice A64_12 (([] : List ByteArray).length) c64_12], eO 9 1 (.slice A69_13 (([] : List ByteArray).length) c69_13) (([] : List ByteArray).length) (([] : List ByteArray).map Value.string), eB B16_13 26 #[.int .i64 0, .int .i64 0, .slice A69_13 (([] : List ByteArray).length) c69_13]] W13 := by
      have h := hst13q
      simp only [List.map_cons, List.map_nil, xX0, xX1, xX2, xX3, xX4, xX5, xX6, xX7, xX8, xX10] at h
      exact h
    have hfr2 : fr = #[.agg #[.int .i64 kA, .int .i64 lA, .slice A sa.length c], .agg #[.int .i64 kB, .int .i64 lB, .slice B sb.length (c')], .pointer (some ⟨B2_1, 0, none⟩), .pointer (some ⟨B3_1, 0, none⟩), .bool false, .bool true, .pointer (some ⟨B6_3, 0, none⟩), .pointer (some ⟨B7_4, 0, none⟩), .string S1, .int .i64 0, .string S2, .int .i64 0, .string T, .string U, .pointer (some ⟨B14_12, 0, none⟩), .int .i64 12, .pointer (some ⟨B16_13, 0, none⟩), .int .i64 12, .bool true, .agg #[.int .i64 kA, .int .i64 lA, .slice A sa.length c], .agg #[.int .i64 k1, .int .i64 l1, .slice A20_3 I1.length c20_3], .agg #[.int .i64 kB, .int .i64 lB, .slice B sb.length (c')], .agg #[.int .i64 k2, .int .i64 l2, .slice A22_4 I2.length c22_4], .tuple #[.string S1, .int .i64 0], .agg #[.int .i64 k1, .int .i64 l1, .slice A20_3 I1.length c20_3], .tuple #[.string S1, .int .i64 0], .string S1, .int .i64 0, .tuple #[.string S2, .int .i64 0], .agg #[.int .i64 k2, .int .i64 l2, .slice A22_4 I2.length c22_4], .tuple #[.string S2, .int .i64 0], .string S2, .int .i64 0, .int .i64 0, .bool false, .bool false, .int .i64 0, .bool false, .bool false, .bool false, .string S1, .int .i64 ((S1.size : Int)), .bool ((S1.size : Int) != 512), .bool false, .bool false, .string S2, .int .i64 ((S2.size : Int)), .bool ((S2.size : Int) != 512), .bool false, .string S1, .string (S1.extract 0 256), .string S2, .string (S2.extract 256 S2.size), .string ((S1.extract 0 256) ++ (S2.extract 256 S2.size)), .string T, .string (T.extract 4 T.size), .int .u32 ((q : Int)), .int .i64 ((q : Int)), .string (putS (q : Int) 4), .string T, .string (T.extract 4 T.size), .string ((putS (q : Int) 4) ++ (T.extract 4 T.size)), .tuple #[.agg #[.int .i64 0, .int .i64 0, .slice A64_12 (([] : List ByteArray).length) c64_12], .int .i64 12], .string T, .tuple #[.agg #[.int .i64 0, .int .i64 0, .slice A64_12 (([] : List ByteArray).length) c64_12], .int .i64 12], .agg #[.int .i64 0, .int .i64 0, .slice A64_12 (([] : List ByteArray).length) c64_12], .int .i64 12, .tuple #[.agg #[.int .i64 0, .int .i64 0, .slice A69_13 (([] : List ByteArray).length) c69_13], .int .i64 12], .string U, .tuple #[.agg #[.int .i64 0, .int .i64 0, .slice A69_13 (([] : List ByteArray).length) c69_13], .int .i64 12], .agg #[.int .i64 0, .int .i64 0, .slice A69_13 (([] : List ByteArray).length) c69_13], .int .i64 12, undef, undef, undef, undef, undef, undef, undef, undef, undef, undef, undef, undef, undef, undef, undef] := hfr.trans (by rw [show dstsU _ = [68, 69, 67, 70, 71, 16, 17] by kernel_rfl]; simp only [List.map_cons, List.map_nil, putAll, List.setIfInBounds_toArray, List.set_cons_succ, List.set_cons_zero, dD68, dD69, dD67, dD70, dD71, dD16, dD17])
    clear hfr hX hD hst13q dD68 dD69 dD67 dD70 dD71 dD16 dD17 xX0 xX1 xX2 xX3 xX4 xX5 xX6 xX7 xX8 xX10 hu_A69_13 hu_c69_13 hu_B16_13
    subst hfr2
    clear σ β X
    refine then_normal ?_
    refine wp_seq ?_
    refine wp_seq ?_
    refine wp_region_V (by kernel_rfl) [0, 1, 0, 4, 15] [[], [3], [], [5], []] [[], [], [], [], []] [[], [], [], [], []] (fun ix σ β X => match ix with | 0 => σ 72 = .pointer (some ⟨B6_3, 1, none⟩) | 1 => σ 73 = .int .i64 l1 | 2 => σ 74 = .pointer (some ⟨B7_4, 1, none⟩) | 3 => σ 75 = .int .i64 l2 | 4 => σ 76 = .bool (l1 == l2) | _ => True) [0, 1, 2, 3, 4, 5, 6, 7, 8, 9] (by kernel_rfl) (by kernel_rfl) (by kernel_rfl) (by kernel_rfl) ?_ hst13 ?_ ?_
    · intro ix σ σ' β β' X X' hs hb hx h
      match ix, hs, hb, hx, h with
      | 0, hs, hb, hx, h => rw [← hs 72 (by kernel_rfl)]; exact h
      | 1, hs, hb, hx, h => rw [← hs 73 (by kernel_rfl)]; exact h
      | 2, hs, hb, hx, h => rw [← hs 74 (by kernel_rfl)]; exact h
      | 3, hs, hb, hx, h => rw [← hs 75 (by kernel_rfl)]; exact h
      | 4, hs, hb, hx, h => rw [← hs 76 (by kernel_rfl)]; exact h
      | _ + 5, _, _, _, _ => trivial
    · refine ⟨⟨⟨⟨⟨trivial, ?_⟩, ?_⟩, ?_⟩, ?_⟩, ?_⟩
      · refine sv rfl rfl rfl rfl rfl (fun β => .pointer (some ⟨B6_3, 1, none⟩)) (fun _ _ _ h => h) (fun _ _ _ => rfl) fun ρ β W X cx => ?_
        have fF6 : ρ (.tmp 6) = .pointer (some ⟨B6_3, 0, none⟩) := cx.out 6 (by kernel_rfl)
        exact run_fieldAddr' (k := 1) (n := 1) rfl (by kernel_rfl) fF6 rfl
      · refine sv rfl rfl rfl rfl rfl (fun β => .int .i64 l1) (fun _ _ _ h => h) (fun _ _ _ => rfl) fun ρ β W X cx => ?_
        have fF72 : ρ (.tmp 72) = .pointer (some ⟨B6_3, 1, none⟩) := (cx.anc 0 (by kernel_rfl))
        have xX3 : X 3 = eB B6_3 26 #[.int .i64 k1, .int .i64 l1, .slice A20_3 I1.length c20_3] := cx.init 3 _ rfl
        have kK3 : Blk W B6_3 26 #[.int .i64 k1, .int .i64 l1, .slice A20_3 I1.length c20_3] := by have h := (cx.ok 3 rfl).holds; rw [xX3] at h; exact h
        exact run_load1 rfl (by kernel_rfl) fF72 (show W.cell? ⟨B6_3, 1, none⟩ = some (.int .i64 l1) from kK3.cell 1)
      · refine sv rfl rfl rfl rfl rfl (fun β => .pointer (some ⟨B7_4, 1, none⟩)) (fun _ _ _ h => h) (fun _ _ _ => rfl) fun ρ β W X cx => ?_
        have fF7 : ρ (.tmp 7) = .pointer (some ⟨B7_4, 0, none⟩) := cx.out 7 (by kernel_rfl)
        exact run_fieldAddr' (k := 1) (n := 1) rfl (by kernel_rfl) fF7 rfl
      · refine sv rfl rfl rfl rfl rfl (fun β => .int .i64 l2) (fun _ _ _ h => h) (fun _ _ _ => rfl) fun ρ β W X cx => ?_
        have fF74 : ρ (.tmp 74) = .pointer (some ⟨B7_4, 1, none⟩) := (cx.anc 2 (by kernel_rfl))
        have xX5 : X 5 = eB B7_4 26 #[.int .i64 k2, .int .i64 l2, .slice A22_4 I2.length c22_4] := cx.init 5 _ rfl
        have kK5 : Blk W B7_4 26 #[.int .i64 k2, .int .i64 l2, .slice A22_4 I2.length c22_4] := by have h := (cx.ok 5 rfl).holds; rw [xX5] at h; exact h
        exact run_load1 rfl (by kernel_rfl) fF74 (show W.cell? ⟨B7_4, 1, none⟩ = some (.int .i64 l2) from kK5.cell 1)
      · refine sv rfl rfl rfl rfl rfl (fun β => .bool (l1 == l2)) (fun _ _ _ h => h) (fun _ _ _ => rfl) fun ρ β W X cx => ?_
        have fF73 : ρ (.tmp 73) = .int .i64 l1 := (cx.anc 1 (by kernel_rfl))
        have fF75 : ρ (.tmp 75) = .int .i64 l2 := (cx.anc 3 (by kernel_rfl))
        exact run_bin rfl fF73 fF75 rfl
    intro σ β X W14 hD hX hst14q fr hfr
    have dD72 : σ 72 = .pointer (some ⟨B6_3, 1, none⟩) := (hD 0 (Nat.le_of_ble_eq_true rfl))
    have dD73 : σ 73 = .int .i64 l1 := (hD 1 (Nat.le_of_ble_eq_true rfl))
    have dD74 : σ 74 = .pointer (some ⟨B7_4, 1, none⟩) := (hD 2 (Nat.le_of_ble_eq_true rfl))
    have dD75 : σ 75 = .int .i64 l2 := (hD 3 (Nat.le_of_ble_eq_true rfl))
    have dD76 : σ 76 = .bool (l1 == l2) := (hD 4 (Nat.le_of_ble_eq_true rfl))
    have xX0 : X 0 = eB B2_1 24 #[.int .i64 kA, .int .i64 lA, .slice A sa.length c] := hX 0 _ rfl
    have xX1 : X 1 = eB B3_1 24 #[.int .i64 kB, .int .i64 lB, .slice B sb.length (c')] := hX 1 _ rfl
    have xX2 : X 2 = eO 9 1 (.slice A20_3 I1.length c20_3) I1.length (I1.map Value.string) := hX 2 _ rfl
    have xX3 : X 3 = eB B6_3 26 #[.int .i64 k1, .int .i64 l1, .slice A20_3 I1.length c20_3] := hX 3 _ rfl
    have xX4 : X 4 = eO 9 1 (.slice A22_4 I2.length c22_4) I2.length (I2.map Value.string) := hX 4 _ rfl
    have xX5 : X 5 = eB B7_4 26 #[.int .i64 k2, .int .i64 l2, .slice A22_4 I2.length c22_4] := hX 5 _ rfl
    have xX6 : X 6 = eO 9 1 (.slice A64_12 (([] : List ByteArray).length) c64_12) (([] : List ByteArray).length) (([] : List ByteArray).map Value.string) := hX 6 _ rfl
    have xX7 : X 7 = eB B14_12 26 #[.int .i64 0, .int .i64 0, .slice A64_12 (([] : List ByteArray).length) c64_12] := hX 7 _ rfl
    have xX8 : X 8 = eO 9 1 (.slice A69_13 (([] : List ByteArray).length) c69_13) (([] : List ByteArray).length) (([] : List ByteArray).map Value.string) := hX 8 _ rfl
    have xX9 : X 9 = eB B16_13 26 #[.int .i64 0, .int .i64 0, .slice A69_13 (([] : List ByteArray).length) c69_13] := hX 9 _ rfl
    have hst14 : St w [] [eB B2_1 24 #[.int .i64 kA, .int .i64 lA, .slice A sa.length c], eB B3_1 24 #[.int .i64 kB, .int .i64 lB, .slice B sb.length (c')], eO 9 1 (.slice A20_3 I1.length c20_3) I1.length (I1.map Value.string), eB B6_3 26 #[.int .i64 k1, .int .i64 l1, .slice A20_3 I1.length c20_3], eO 9 1 (.slice A22_4 I2.length c22_4) I2.length (I2.map Value.string), eB B7_4 26 #[.int .i64 k2, .int .i64 l2, .slice A22_4 I2.length c22_4], eO 9 1 (.slice A64_12 (([] : List ByteArray).length) c64_12) (([] : List ByteArray).length) (([] : List ByteArray).map Value.string), eB B14_12 26 #[.int .i64 0, .int .i64 0, .slice A64_12 (([] : List ByteArray).length) c64_12], eO 9 1 (.slice A69_13 (([] : List ByteArray).length) c69_13) (([] : List ByteArray).length) (([] : List ByteArray).map Value.string), eB B16_13 26 #[.int .i64 0, .int .i64 0, .slice A69_13 (([] : List ByteArray).length) c69_13]] W14 := by
      have h := hst14q
      simp only [List.map_cons, List.map_nil, xX0, xX1, xX2, xX3, xX4, xX5, xX6, xX7, xX8, xX9] at h
      exact h
    have hfr2 : fr = #[.agg #[.int .i64 kA, .int .i64 lA, .slice A sa.length c], .agg #[.int .i64 kB, .int .i64 lB, .slice B sb.length (c')], .pointer (some ⟨B2_1, 0, none⟩), .pointer (some ⟨B3_1, 0, none⟩), .bool false, .bool true, .pointer (some ⟨B6_3, 0, none⟩), .pointer (some ⟨B7_4, 0, none⟩), .string S1, .int .i64 0, .string S2, .int .i64 0, .string T, .string U, .pointer (some ⟨B14_12, 0, none⟩), .int .i64 12, .pointer (some ⟨B16_13, 0, none⟩), .int .i64 12, .bool true, .agg #[.int .i64 kA, .int .i64 lA, .slice A sa.length c], .agg #[.int .i64 k1, .int .i64 l1, .slice A20_3 I1.length c20_3], .agg #[.int .i64 kB, .int .i64 lB, .slice B sb.length (c')], .agg #[.int .i64 k2, .int .i64 l2, .slice A22_4 I2.length c22_4], .tuple #[.string S1, .int .i64 0], .agg #[.int .i64 k1, .int .i64 l1, .slice A20_3 I1.length c20_3], .tuple #[.string S1, .int .i64 0], .string S1, .int .i64 0, .tuple #[.string S2, .int .i64 0], .agg #[.int .i64 k2, .int .i64 l2, .slice A22_4 I2.length c22_4], .tuple #[.string S2, .int .i64 0], .string S2, .int .i64 0, .int .i64 0, .bool false, .bool false, .int .i64 0, .bool false, .bool false, .bool false, .string S1, .int .i64 ((S1.size : Int)), .bool ((S1.size : Int) != 512), .bool false, .bool false, .string S2, .int .i64 ((S2.size : Int)), .bool ((S2.size : Int) != 512), .bool false, .string S1, .string (S1.extract 0 256), .string S2, .string (S2.extract 256 S2.size), .string ((S1.extract 0 256) ++ (S2.extract 256 S2.size)), .string T, .string (T.extract 4 T.size), .int .u32 ((q : Int)), .int .i64 ((q : Int)), .string (putS (q : Int) 4), .string T, .string (T.extract 4 T.size), .string ((putS (q : Int) 4) ++ (T.extract 4 T.size)), .tuple #[.agg #[.int .i64 0, .int .i64 0, .slice A64_12 (([] : List ByteArray).length) c64_12], .int .i64 12], .string T, .tuple #[.agg #[.int .i64 0, .int .i64 0, .slice A64_12 (([] : List ByteArray).length) c64_12], .int .i64 12], .agg #[.int .i64 0, .int .i64 0, .slice A64_12 (([] : List ByteArray).length) c64_12], .int .i64 12, .tuple #[.agg #[.int .i64 0, .int .i64 0, .slice A69_13 (([] : List ByteArray).length) c69_13], .int .i64 12], .string U, .tuple #[.agg #[.int .i64 0, .int .i64 0, .slice A69_13 (([] : List ByteArray).length) c69_13], .int .i64 12], .agg #[.int .i64 0, .int .i64 0, .slice A69_13 (([] : List ByteArray).length) c69_13], .int .i64 12, .pointer (some ⟨B6_3, 1, none⟩), .int .i64 l1, .pointer (some ⟨B7_4, 1, none⟩), .int .i64 l2, .bool (l1 == l2), undef, undef, undef, undef, undef, undef, undef, undef, undef, undef] := hfr.trans (by rw [show dstsU _ = [72, 73, 74, 75, 76] by kernel_rfl]; simp only [List.map_cons, List.map_nil, putAll, List.setIfInBounds_toArray, List.set_cons_succ, List.set_cons_zero, dD72, dD73, dD74, dD75, dD76])
    clear hfr hX hD hst14q dD72 dD73 dD74 dD75 dD76 xX0 xX1 xX2 xX3 xX4 xX5 xX6 xX7 xX8 xX9
    subst hfr2
    clear σ β X
    refine then_normal ?_
    have hd15 : (l1 == l2) = false := by simpa using hne
    refine wp_cond_false (show Act.eval _ _ = .bool false from (congrArg Value.bool hd15)) ?_
    refine wp_skip ?_
    refine then_normal ?_
    refine wp_seq ?_
    refine wp_region_V (by kernel_rfl) [0, 1, 3, 7, 15, 31, 63, 127, 255, 511] [[], [], [], [], [], [], [], [], [], []] [[], [], [], [], [], [], [], [], [], []] [[], [], [], [], [], [], [], [], [], []] (fun ix σ β X => match ix with | 0 => σ 78 = .bool true | 1 => σ 79 = .bool true | 2 => σ 80 = .int .i64 12 | 3 => σ 81 = .bool true | 4 => σ 82 = .bool true | 5 => σ 83 = .bool true | 6 => σ 84 = .int .i64 12 | 7 => σ 85 = .bool true | 8 => σ 86 = .bool true | 9 => σ 4 = .bool true | _ => True) [0, 1, 2, 3, 4, 5, 6, 7, 8, 9] (by kernel_rfl) (by kernel_rfl) (by kernel_rfl) (by kernel_rfl) ?_ hst14 ?_ ?_
    · intro ix σ σ' β β' X X' hs hb hx h
      match ix, hs, hb, hx, h with
      | 0, hs, hb, hx, h => rw [← hs 78 (by kernel_rfl)]; exact h
      | 1, hs, hb, hx, h => rw [← hs 79 (by kernel_rfl)]; exact h
      | 2, hs, hb, hx, h => rw [← hs 80 (by kernel_rfl)]; exact h
      | 3, hs, hb, hx, h => rw [← hs 81 (by kernel_rfl)]; exact h
      | 4, hs, hb, hx, h => rw [← hs 82 (by kernel_rfl)]; exact h
      | 5, hs, hb, hx, h => rw [← hs 83 (by kernel_rfl)]; exact h
      | 6, hs, hb, hx, h => rw [← hs 84 (by kernel_rfl)]; exact h
      | 7, hs, hb, hx, h => rw [← hs 85 (by kernel_rfl)]; exact h
      | 8, hs, hb, hx, h => rw [← hs 86 (by kernel_rfl)]; exact h
      | 9, hs, hb, hx, h => rw [← hs 4 (by kernel_rfl)]; exact h
      | _ + 10, _, _, _, _ => trivial
    · refine ⟨⟨⟨⟨⟨⟨⟨⟨⟨⟨trivial, ?_⟩, ?_⟩, ?_⟩, ?_⟩, ?_⟩, ?_⟩, ?_⟩, ?_⟩, ?_⟩, ?_⟩
      · refine sv rfl rfl rfl rfl rfl (fun β => .bool true) (fun _ _ _ h => h) (fun _ _ _ => rfl) fun ρ β W X cx => ?_
        have fF5 : ρ (.tmp 5) = .bool true := cx.out 5 (by kernel_rfl)
        exact run_move' rfl fF5
      · refine sv rfl rfl rfl rfl rfl (fun β => .bool true) (fun _ _ _ h => h) (fun _ _ _ => rfl) fun ρ β W X cx => ?_
        have fF78 : ρ (.tmp 78) = .bool true := (cx.anc 0 (by kernel_rfl))
        exact run_move' rfl fF78
      · refine sv_on rfl rfl rfl rfl rfl rfl (fun β => .int .i64 12) (fun _ _ _ h => h) (fun _ _ _ => rfl) (fun ρ β W X cx => (show ρ (.tmp 79) = .bool true from (cx.anc 1 (by kernel_rfl)))) fun ρ β W X cx => ?_
        have fF15 : ρ (.tmp 15) = .int .i64 12 := cx.out 15 (by kernel_rfl)
        exact run_move' rfl fF15
      · refine sv_on rfl rfl rfl rfl rfl rfl (fun β => .bool true) (fun _ _ _ h => h) (fun _ _ _ => rfl) (fun ρ β W X cx => (show ρ (.tmp 79) = .bool true from (cx.anc 1 (by kernel_rfl)))) fun ρ β W X cx => ?_
        have fF80 : ρ (.tmp 80) = .int .i64 12 := (cx.anc 2 (by kernel_rfl))
        exact run_bin rfl fF80 (cx.sees.const _) rfl
      · refine sv rfl rfl rfl rfl rfl (fun β => .bool true) (fun _ _ _ h => h) (fun _ _ _ => rfl) fun ρ β W X cx => ?_
        have fF79 : ρ (.tmp 79) = .bool true := (cx.anc 1 (by kernel_rfl))
        have fF81 : ρ (.tmp 81) = .bool true := (cx.anc 3 (by kernel_rfl))
        exact run_pick_t rfl fF79 fF81
      · refine sv rfl rfl rfl rfl rfl (fun β => .bool true) (fun _ _ _ h => h) (fun _ _ _ => rfl) fun ρ β W X cx => ?_
        have fF82 : ρ (.tmp 82) = .bool true := (cx.anc 4 (by kernel_rfl))
        exact run_move' rfl fF82
      · refine sv_on rfl rfl rfl rfl rfl rfl (fun β => .int .i64 12) (fun _ _ _ h => h) (fun _ _ _ => rfl) (fun ρ β W X cx => (show ρ (.tmp 83) = .bool true from (cx.anc 5 (by kernel_rfl)))) fun ρ β W X cx => ?_
        have fF17 : ρ (.tmp 17) = .int .i64 12 := cx.out 17 (by kernel_rfl)
        exact run_move' rfl fF17
      · refine sv_on rfl rfl rfl rfl rfl rfl (fun β => .bool true) (fun _ _ _ h => h) (fun _ _ _ => rfl) (fun ρ β W X cx => (show ρ (.tmp 83) = .bool true from (cx.anc 5 (by kernel_rfl)))) fun ρ β W X cx => ?_
        have fF84 : ρ (.tmp 84) = .int .i64 12 := (cx.anc 6 (by kernel_rfl))
        exact run_bin rfl fF84 (cx.sees.const _) rfl
      · refine sv rfl rfl rfl rfl rfl (fun β => .bool true) (fun _ _ _ h => h) (fun _ _ _ => rfl) fun ρ β W X cx => ?_
        have fF83 : ρ (.tmp 83) = .bool true := (cx.anc 5 (by kernel_rfl))
        have fF85 : ρ (.tmp 85) = .bool true := (cx.anc 7 (by kernel_rfl))
        exact run_pick_t rfl fF83 fF85
      · refine sv rfl rfl rfl rfl rfl (fun β => .bool true) (fun _ _ _ h => h) (fun _ _ _ => rfl) fun ρ β W X cx => ?_
        have fF86 : ρ (.tmp 86) = .bool true := (cx.anc 8 (by kernel_rfl))
        exact run_assign' rfl fF86
    intro σ β X W16 hD hX hst16q fr hfr
    have dD78 : σ 78 = .bool true := (hD 0 (Nat.le_of_ble_eq_true rfl))
    have dD79 : σ 79 = .bool true := (hD 1 (Nat.le_of_ble_eq_true rfl))
    have dD80 : σ 80 = .int .i64 12 := (hD 2 (Nat.le_of_ble_eq_true rfl))
    have dD81 : σ 81 = .bool true := (hD 3 (Nat.le_of_ble_eq_true rfl))
    have dD82 : σ 82 = .bool true := (hD 4 (Nat.le_of_ble_eq_true rfl))
    have dD83 : σ 83 = .bool true := (hD 5 (Nat.le_of_ble_eq_true rfl))
    have dD84 : σ 84 = .int .i64 12 := (hD 6 (Nat.le_of_ble_eq_true rfl))
    have dD85 : σ 85 = .bool true := (hD 7 (Nat.le_of_ble_eq_true rfl))
    have dD86 : σ 86 = .bool true := (hD 8 (Nat.le_of_ble_eq_true rfl))
    have dD4 : σ 4 = .bool true := (hD 9 (Nat.le_of_ble_eq_true rfl))
    have xX0 : X 0 = eB B2_1 24 #[.int .i64 kA, .int .i64 lA, .slice A sa.length c] := hX 0 _ rfl
    have xX1 : X 1 = eB B3_1 24 #[.int .i64 kB, .int .i64 lB, .slice B sb.length (c')] := hX 1 _ rfl
    have xX2 : X 2 = eO 9 1 (.slice A20_3 I1.length c20_3) I1.length (I1.map Value.string) := hX 2 _ rfl
    have xX3 : X 3 = eB B6_3 26 #[.int .i64 k1, .int .i64 l1, .slice A20_3 I1.length c20_3] := hX 3 _ rfl
    have xX4 : X 4 = eO 9 1 (.slice A22_4 I2.length c22_4) I2.length (I2.map Value.string) := hX 4 _ rfl
    have xX5 : X 5 = eB B7_4 26 #[.int .i64 k2, .int .i64 l2, .slice A22_4 I2.length c22_4] := hX 5 _ rfl
    have xX6 : X 6 = eO 9 1 (.slice A64_12 (([] : List ByteArray).length) c64_12) (([] : List ByteArray).length) (([] : List ByteArray).map Value.string) := hX 6 _ rfl
    have xX7 : X 7 = eB B14_12 26 #[.int .i64 0, .int .i64 0, .slice A64_12 (([] : List ByteArray).length) c64_12] := hX 7 _ rfl
    have xX8 : X 8 = eO 9 1 (.slice A69_13 (([] : List ByteArray).length) c69_13) (([] : List ByteArray).length) (([] : List ByteArray).map Value.string) := hX 8 _ rfl
    have xX9 : X 9 = eB B16_13 26 #[.int .i64 0, .int .i64 0, .slice A69_13 (([] : List ByteArray).length) c69_13] := hX 9 _ rfl
    have hst16 : St w [] [eB B2_1 24 #[.int .i64 kA, .int .i64 lA, .slice A sa.length c], eB B3_1 24 #[.int .i64 kB, .int .i64 lB, .slice B sb.length (c')], eO 9 1 (.slice A20_3 I1.length c20_3) I1.length (I1.map Value.string), eB B6_3 26 #[.int .i64 k1, .int .i64 l1, .slice A20_3 I1.length c20_3], eO 9 1 (.slice A22_4 I2.length c22_4) I2.length (I2.map Value.string), eB B7_4 26 #[.int .i64 k2, .int .i64 l2, .slice A22_4 I2.length c22_4], eO 9 1 (.slice A64_12 (([] : List ByteArray).length) c64_12) (([] : List ByteArray).length) (([] : List ByteArray).map Value.string), eB B14_12 26 #[.int .i64 0, .int .i64 0, .slice A64_12 (([] : List ByteArray).length) c64_12], eO 9 1 (.slice A69_13 (([] : List ByteArray).length) c69_13) (([] : List ByteArray).length) (([] : List ByteArray).map Value.string), eB B16_13 26 #[.int .i64 0, .int .i64 0, .slice A69_13 (([] : List ByteArray).length) c69_13]] W16 := by
      have h := hst16q
      simp only [List.map_cons, List.map_nil, xX0, xX1, xX2, xX3, xX4, xX5, xX6, xX7, xX8, xX9] at h
      exact h
    have hfr2 : fr = #[.agg #[.int .i64 kA, .int .i64 lA, .slice A sa.length c], .agg #[.int .i64 kB, .int .i64 lB, .slice B sb.length (c')], .pointer (some ⟨B2_1, 0, none⟩), .pointer (some ⟨B3_1, 0, none⟩), .bool true, .bool true, .pointer (some ⟨B6_3, 0, none⟩), .pointer (some ⟨B7_4, 0, none⟩), .string S1, .int .i64 0, .string S2, .int .i64 0, .string T, .string U, .pointer (some ⟨B14_12, 0, none⟩), .int .i64 12, .pointer (some ⟨B16_13, 0, none⟩), .int .i64 12, .bool true, .agg #[.int .i64 kA, .int .i64 lA, .slice A sa.length c], .agg #[.int .i64 k1, .int .i64 l1, .slice A20_3 I1.length c20_3], .agg #[.int .i64 kB, .int .i64 lB, .slice B sb.length (c')], .agg #[.int .i64 k2, .int .i64 l2, .slice A22_4 I2.length c22_4], .tuple #[.string S1, .int .i64 0], .agg #[.int .i64 k1, .int .i64 l1, .slice A20_3 I1.length c20_3], .tuple #[.string S1, .int .i64 0], .string S1, .int .i64 0, .tuple #[.string S2, .int .i64 0], .agg #[.int .i64 k2, .int .i64 l2, .slice A22_4 I2.length c22_4], .tuple #[.string S2, .int .i64 0], .string S2, .int .i64 0, .int .i64 0, .bool false, .bool false, .int .i64 0, .bool false, .bool false, .bool false, .string S1, .int .i64 ((S1.size : Int)), .bool ((S1.size : Int) != 512), .bool false, .bool false, .string S2, .int .i64 ((S2.size : Int)), .bool ((S2.size : Int) != 512), .bool false, .string S1, .string (S1.extract 0 256), .string S2, .string (S2.extract 256 S2.size), .string ((S1.extract 0 256) ++ (S2.extract 256 S2.size)), .string T, .string (T.extract 4 T.size), .int .u32 ((q : Int)), .int .i64 ((q : Int)), .string (putS (q : Int) 4), .string T, .string (T.extract 4 T.size), .string ((putS (q : Int) 4) ++ (T.extract 4 T.size)), .tuple #[.agg #[.int .i64 0, .int .i64 0, .slice A64_12 (([] : List ByteArray).length) c64_12], .int .i64 12], .string T, .tuple #[.agg #[.int .i64 0, .int .i64 0, .slice A64_12 (([] : List ByteArray).length) c64_12], .int .i64 12], .agg #[.int .i64 0, .int .i64 0, .slice A64_12 (([] : List ByteArray).length) c64_12], .int .i64 12, .tuple #[.agg #[.int .i64 0, .int .i64 0, .slice A69_13 (([] : List ByteArray).length) c69_13], .int .i64 12], .string U, .tuple #[.agg #[.int .i64 0, .int .i64 0, .slice A69_13 (([] : List ByteArray).length) c69_13], .int .i64 12], .agg #[.int .i64 0, .int .i64 0, .slice A69_13 (([] : List ByteArray).length) c69_13], .int .i64 12, .pointer (some ⟨B6_3, 1, none⟩), .int .i64 l1, .pointer (some ⟨B7_4, 1, none⟩), .int .i64 l2, .bool (l1 == l2), undef, .bool true, .bool true, .int .i64 12, .bool true, .bool true, .bool true, .int .i64 12, .bool true, .bool true] := hfr.trans (by rw [show dstsU _ = [78, 79, 80, 81, 82, 83, 84, 85, 86, 4] by kernel_rfl]; simp only [List.map_cons, List.map_nil, putAll, List.setIfInBounds_toArray, List.set_cons_succ, List.set_cons_zero, dD78, dD79, dD80, dD81, dD82, dD83, dD84, dD85, dD86, dD4])
    clear hfr hX hD hst16q dD78 dD79 dD80 dD81 dD82 dD83 dD84 dD85 dD86 dD4 xX0 xX1 xX2 xX3 xX4 xX5 xX6 xX7 xX8 xX9
    subst hfr2
    clear σ β X
    refine then_normal ?_
    refine wp_ret ?_
    refine bodyPost_ret (v := .bool true) (by simp [results, Try.results12, go_sem]) rfl ?_
    exact ⟨rfl, hst16.ext⟩
end Go.Proofs.Ytkkldciofndedaa

/- the walk of PageBytes. -/
import Derived.Test.YtkkldciofndedaaRead
import Derived.Test.YtkkldciofndedaaRRead
import Derived.Test.YtkkldciofndedaaLawSame
import Derived.Test.YtkkldciofndedaaRaw
import Derived.Test.YtkkldciofndedaaRBytes
import Derived.Test.YtkkldciofndedaaLawMade
import Derived.Test.YtkkldciofndedaaZeros
import Derived.Test.YtkkldciofndedaaPageRoom
import Derived.Test.YtkkldciofndedaaVw
import Derived.Test.YtkkldciofndedaaVn
namespace Go.Proofs.Ytkkldciofndedaa
open Go.RowKit
set_option linter.unusedVariables false

/-- a page's text, by both -/
theorem bytes_both (k l : Int) (ss : List ByteArray) (hs : Small ss) : ∃ (S : ByteArray) (E : Int), (∀ (A : Option Addr) (c : Nat) (w : World), At w A (ss.map Value.string) → Calls Try.prog 27 #[.agg #[.int .i64 k, .int .i64 l, .slice A ss.length c]] w (Ret1 (.tuple #[.string S, .int .i64 E]) w)) ∧
    (∀ (A : Option Addr) (c : Nat) (w : World), At w A (ss.map Value.string) → ss.length ≤ c → Calls Try.prog 35 #[.agg #[.int .i64 k, .int .i64 l, .slice A ss.length c]] w (Ret1 (.agg #[.string S, .int .i64 E]) w)) := by
  cases hr : rightB k l ss with
  | false => exact ⟨_, _, fun A c w h => bytes_not k l A _ c ss w rfl h hs hr, fun A c w h hc => rbytes_not k l A _ c ss w rfl h hs hc hr⟩
  | true => exact ⟨_, _, fun A c w h => bytes_right k l A _ c ss w rfl h hr, fun A c w h hc => rbytes_right k l A _ c ss w rfl h hc hr⟩
theorem rread_any (s : ByteArray) (w : World) : Calls Try.prog 38 #[.string s] w (GotPost (readX s).1.1 (readX s).1.2 (readX s).2.1 (readX s).2.2 w) := by
  by_cases h : s.size = 512
  · by_cases h2 : numS s 0 4 = sumF (s.extract 4 512) ∧ s.extract 5 9 = s.extract 508 512
    · exact rread_page s w h h2
    · exact rread_sum s w h h2
  · exact rread_form s w h
theorem plain_len_le (ss : List ByteArray) : (plainL ss).length ≤ ss.length := by rw [plainL_len]; exact trimN_le ss ss.length
theorem readX_len (s : ByteArray) : (readX s).2.1.length ≤ 300 := by
  unfold readX
  split
  · split
    · split
      · rename_i xs p h
        split
        · have h1 := rtx_len h
          have h2 := numS_lt1 s 9
          have h3 := plain_len_le xs
          show (plainL xs).length ≤ 300
          omega
        · simp
      · simp
    · simp
  · simp
/-- a string read by both -/
theorem read_both (s : ByteArray) (hs : s.size ≤ 9223372036854775807) : ∃ (k l : Int) (I : List ByteArray) (e : Int), I.length ≤ 300 ∧ (∀ (w : World), Calls Try.prog 37 #[.string s] w (PgPost k l I e w)) ∧
    (∀ (w : World), Calls Try.prog 38 #[.string s] w (GotPost k l I e w)) :=
  ⟨_, _, _, _, readX_len s, fun w => read_any s w hs, fun w => rread_any s w⟩
def prI (q : Int × Int) : List Value := [.int .i64 q.1, .int .i64 q.2]
theorem prI_len (q : Int × Int) : (prI q).length = 2 := rfl
theorem raw_small (ss : List ByteArray) : Small (rawL ss (min ss.length 26)) := by
  refine ⟨by rw [rawL_len _ _ (by omega)]; omega, fun s hs => ?_⟩
  simp only [rawL, List.mem_map] at hs
  obtain ⟨t, _, rfl⟩ := hs
  have := cutN_size t 500
  omega
theorem same0 (k : Int) (w : World) : Calls Try.prog 19 #[.agg #[.int .i64 k, .int .i64 0, .slice none 0 0], .agg #[.int .i64 k, .int .i64 0, .slice none 0 0]] w (Ret1 (.bool true) w) := by
  have h := same_any k 0 none 0 0 [] k 0 none 0 0 [] w rfl rfl (At.nil _ _) (At.nil _ _) (by simp) (by simp)
  rw [same_self] at h
  exact h

set_option maxRecDepth 100000 in
set_option maxHeartbeats 8000000 in
theorem pagebytes_any (kp lp : Int) (Ap : Option Addr) (cp : Nat) (sp : List ByteArray) (kA lA : Int) (A : Option Addr) (c : Nat) (sa : List ByteArray) (S : ByteArray) (QA : Option Addr) (qc : Nat) (qs : List (Int × Int)) (summed : Bool) (w : World)
    (hp : At w Ap (sp.map Value.string)) (hlp : sp.length ≤ 9223372036854775807) (hsp : ∀ s ∈ sp, s.size ≤ 9223372036854775807)
    (ha : At w A (sa.map Value.string)) (hla : sa.length ≤ 9223372036854775807) (hS : S.size ≤ 9223372036854775807) (hq : At w QA (qs.flatMap prI)) (hql : qs.length ≤ 8796093022207) :
    Calls Try.prog 10 #[.agg #[.int .i64 kp, .int .i64 lp, .slice Ap sp.length cp], .agg #[.int .i64 kA, .int .i64 lA, .slice A sa.length c], .agg #[.string S, .slice QA qs.length qc, .bool summed]] w (Ret1 (.bool true) w) := by
  have HP := Lib.hid hp; clear hp
  have HA := Lib.hid ha; clear ha
  have HQ := Lib.hid hq; clear hq
  obtain ⟨RL, hRL⟩ : ∃ z, z = rawL sp (min sp.length 26) := ⟨_, rfl⟩
  have HR := Lib.hid (show ∀ (w : World), At w Ap (sp.map Value.string) → Calls Try.prog 20 #[.agg #[.int .i64 kp, .int .i64 lp, .slice Ap sp.length cp]] w (PgOne kp lp RL w) by
    rw [hRL]; exact fun w h => raw_any kp lp Ap _ cp sp w rfl h hlp hsp)
  have hsm : Small RL := by rw [hRL]; exact raw_small sp
  clear hRL
  obtain ⟨S0, E0, hB0, hC0⟩ := bytes_both kp lp RL hsm
  have HB0 := Lib.hid hB0
  have HC0 := Lib.hid hC0
  clear hB0 hC0 hsm
  obtain ⟨k1, hk1⟩ : ∃ z, z = kindF kA := ⟨_, rfl⟩
  obtain ⟨l1, hl1⟩ : ∃ z, z = lsnF lA := ⟨_, rfl⟩
  obtain ⟨I1, hI1⟩ : ∃ z, z = mkL kA lA sa := ⟨_, rfl⟩
  have hr1 : rightB k1 l1 I1 = true := by rw [hk1, hl1, hI1]; exact mkL_right kA lA sa
  have HM1 := Lib.hid (show ∀ (w : World), At w A (sa.map Value.string) → Calls Try.prog 14 #[.agg #[.int .i64 kA, .int .i64 lA, .slice A sa.length c]] w (PgOne k1 l1 I1 w) by
    rw [hk1, hl1, hI1]; exact fun w h => lmade_any kA lA A _ c sa w rfl h hla)
  clear hk1 hl1 hI1
  have hsz1 := bytesF_size k1 l1 (plainL I1) (by have := (right_parts hr1).2.2.2; rw [sizeL] at this; omega)
  obtain ⟨S1, hS1⟩ : ∃ z, z = bytesF k1 l1 (plainL I1) := ⟨_, rfl⟩
  have HB1 := Lib.hid (show ∀ (A : Option Addr) (c : Nat) (w : World), At w A (I1.map Value.string) → Calls Try.prog 27 #[.agg #[.int .i64 k1, .int .i64 l1, .slice A I1.length c]] w (Ret1 (.tuple #[.string S1, .int .i64 0]) w) by
    rw [hS1]; exact fun A c w h => bytes_right k1 l1 A _ c I1 w rfl h hr1)
  have HC1 := Lib.hid (show ∀ (A : Option Addr) (c : Nat) (w : World), At w A (I1.map Value.string) → I1.length ≤ c → Calls Try.prog 35 #[.agg #[.int .i64 k1, .int .i64 l1, .slice A I1.length c]] w (Ret1 (.agg #[.string S1, .int .i64 0]) w) by
    rw [hS1]; exact fun A c w h hc => rbytes_right k1 l1 A _ c I1 w rfl h hc hr1)
  rw [← hS1] at hsz1
  clear hS1 hr1
  go_enter Try.func10, Try.ntmps10
  have hst0 := St.start w
  refine wp_seq ?_
  refine wp_region_W (by kernel_rfl) [0, 0, 0, 0] [[], [], [], []] [[0], [1], [2], []] [[], [], [], []] (fun ix σ β X => match ix with | 0 => σ 3 = .pointer (some ⟨(pb (β 3)), 0, none⟩) ∧ X 0 = eB (pb (β 3)) 26 #[.int .i64 kp, .int .i64 lp, .slice Ap sp.length cp] | 1 => σ 4 = .pointer (some ⟨(pb (β 4)), 0, none⟩) ∧ X 1 = eB (pb (β 4)) 24 #[.int .i64 kA, .int .i64 lA, .slice A sa.length c] | 2 => σ 5 = .pointer (some ⟨(pb (β 5)), 0, none⟩) ∧ X 2 = eB (pb (β 5)) 70 #[.string S, .slice QA qs.length qc, .bool summed] | 3 => σ 6 = .bool false | _ => True) [0, 1, 2] (by kernel_rfl) (by kernel_rfl) (by kernel_rfl) (by kernel_rfl) ?_ hst0 ?_ ?_
  · exact fun ix _ _ _ _ _ _ hs hb hx h => match ix, h with
      | 0, h => by dsimp only at h ⊢; rw [← hs 3 rfl, ← hb 3 rfl, ← hx 0 rfl]; exact h
      | 1, h => by dsimp only at h ⊢; rw [← hs 4 rfl, ← hb 4 rfl, ← hx 1 rfl]; exact h
      | 2, h => by dsimp only at h ⊢; rw [← hs 5 rfl, ← hb 5 rfl, ← hx 2 rfl]; exact h
      | 3, h => (hs 6 rfl).symm.trans h
      | _ + 4, _ => trivial
  · refine ⟨⟨⟨⟨trivial, ?_⟩, ?_⟩, ?_⟩, ?_⟩
    · refine sv_any rfl rfl fun ρ β W X cx => ?_
      exact dv_box (cs := #[.int .i64 kp, .int .i64 lp, .slice Ap sp.length cp]) rfl (cx.out 0 rfl) rfl rfl rfl (fun σ β' X' hs hb hv hx => ⟨hv, hx⟩)
    · refine sv_any rfl rfl fun ρ β W X cx => ?_
      exact dv_box (cs := #[.int .i64 kA, .int .i64 lA, .slice A sa.length c]) rfl (cx.out 1 rfl) rfl rfl rfl (fun σ β' X' hs hb hv hx => ⟨hv, hx⟩)
    · refine sv_any rfl rfl fun ρ β W X cx => ?_
      exact dv_box (cs := #[.string S, .slice QA qs.length qc, .bool summed]) rfl (cx.out 2 rfl) rfl rfl rfl (fun σ β' X' hs hb hv hx => ⟨hv, hx⟩)
    · exact sv0 rfl rfl rfl rfl rfl (fun _ _ _ h => h) fun ρ β W X cx => run_assign' rfl (cx.sees.const _)
  intro σ β X W1 hD hX hst1 fr hfr
  obtain ⟨B3_1, hu_B3_1⟩ : ∃ z, pb (β 3) = z := ⟨_, rfl⟩
  obtain ⟨B4_1, hu_B4_1⟩ : ∃ z, pb (β 4) = z := ⟨_, rfl⟩
  obtain ⟨B5_1, hu_B5_1⟩ : ∃ z, pb (β 5) = z := ⟨_, rfl⟩
  have dD3 : σ 3 = _ := (hD 0 lq).1
  have dD4 : σ 4 = _ := (hD 1 lq).1
  have dD5 : σ 5 = _ := (hD 2 lq).1
  have dD6 : σ 6 = _ := hD 3 lq
  have xX0 : X 0 = _ := (hD 0 lq).2
  have xX1 : X 1 = _ := (hD 1 lq).2
  have xX2 : X 2 = _ := (hD 2 lq).2
  simp only [List.map_cons, List.map_nil, xX0, xX1, xX2, hu_B3_1, hu_B4_1, hu_B5_1] at hst1
  rw [show dstsU _ = [3, 4, 5, 6] by kernel_rfl] at hfr
  simp only [List.map_cons, List.map_nil, putAll, List.setIfInBounds_toArray, List.set_cons_succ, List.set_cons_zero, dD3, dD4, dD5, dD6, hu_B3_1, hu_B4_1, hu_B5_1] at hfr
  clear hX hD dD3 dD4 dD5 dD6 xX0 xX1 xX2 hu_B3_1 hu_B4_1 hu_B5_1
  subst hfr
  clear σ β X
  refine then_normal ?_
  refine wp_seq ?_
  refine wp_region_W (by kernel_rfl) [0, 1] [[], []] [[], []] [[], []] (fun ix σ β X => match ix with | 0 => σ 22 = .bool true | 1 => σ 7 = .bool true | _ => True) [0, 1, 2] (by kernel_rfl) (by kernel_rfl) (by kernel_rfl) (by kernel_rfl) ?_ hst1 ?_ ?_
  · exact fun ix _ _ _ _ _ _ hs hb hx h => match ix, h with
      | 0, h => (hs 22 rfl).symm.trans h
      | 1, h => (hs 7 rfl).symm.trans h
      | _ + 2, _ => trivial
  · refine ⟨⟨trivial, ?_⟩, ?_⟩
    · exact sv_call rfl rfl rfl rfl rfl (fun _ _ _ h => h) fun ρ β W X cx => ⟨_, _, run_callF (args := #[]) rfl cx.sees rfl (by kernel_rfl) map0, sanity_any _⟩
    · exact sv0 rfl rfl rfl rfl rfl (fun _ _ _ h => h) fun ρ β W X cx => run_assign' rfl (cx.anc 0 rfl)
  intro σ β X W2 hD hX hst2 fr hfr
  have dD22 : σ 22 = _ := hD 0 lq
  have dD7 : σ 7 = _ := hD 1 lq
  have xX0 : X 0 = _ := hX 0 _ rfl
  have xX1 : X 1 = _ := hX 1 _ rfl
  have xX2 : X 2 = _ := hX 2 _ rfl
  simp only [List.map_cons, List.map_nil, xX0, xX1, xX2] at hst2
  rw [show dstsU _ = [22, 7] by kernel_rfl] at hfr
  simp only [List.map_cons, List.map_nil, putAll, List.setIfInBounds_toArray, List.set_cons_succ, List.set_cons_zero, dD22, dD7] at hfr
  clear hX hD dD22 dD7 xX0 xX1 xX2
  subst hfr
  clear σ β X
  refine then_normal ?_
  refine wp_seq ?_
  refine wp_region_W (by kernel_rfl) [0, 1, 0, 7] [[0], [], [], [4]] [[], [3], [4], [5]] [[], [], [], [4]] (fun ix σ β X => match ix with | 0 => σ 23 = .agg #[.int .i64 kp, .int .i64 lp, .slice Ap sp.length cp] | 1 => σ 24 = .agg #[.int .i64 kp, .int .i64 lp, .slice (sA (tg (β 24) 2)) RL.length (sC (tg (β 24) 2))] ∧ X 3 = eO 9 1 (.slice (sA (tg (β 24) 2)) RL.length (sC (tg (β 24) 2))) RL.length (RL.map Value.string) | 2 => σ 8 = .pointer (some ⟨(pb (β 8)), 0, none⟩) ∧ X 4 = eB (pb (β 8)) 26 #[.int .i64 0, .int .i64 0, .slice none 0 0] | 3 => X 5 = eB (pb (β 8)) 26 #[.int .i64 kp, .int .i64 lp, .slice (sA (tg (β 24) 2)) RL.length (sC (tg (β 24) 2))] | _ => True) [0, 1, 2, 3, 5] (by kernel_rfl) (by kernel_rfl) (by kernel_rfl) (by kernel_rfl) ?_ hst2 ?_ ?_
  · exact fun ix _ _ _ _ _ _ hs hb hx h => match ix, h with
      | 0, h => (hs 23 rfl).symm.trans h
      | 1, h => by dsimp only at h ⊢; rw [← hs 24 rfl, ← hb 24 rfl, ← hx 3 rfl]; exact h
      | 2, h => by dsimp only at h ⊢; rw [← hs 8 rfl, ← hb 8 rfl, ← hx 4 rfl]; exact h
      | 3, h => by dsimp only at h ⊢; rw [← hb 8 rfl, ← hb 24 rfl, ← hx 5 rfl]; exact h
      | _ + 4, _ => trivial
  · refine ⟨⟨⟨⟨trivial, ?_⟩, ?_⟩, ?_⟩, ?_⟩
    · exact sv0 rfl rfl rfl rfl rfl (fun _ _ _ h => h) fun ρ β W X cx => run_loadB (n := 3) rfl (by kernel_rfl) (by kernel_rfl) (cx.out 3 rfl) (cx.blk (cx.init 0 _ rfl) rfl) (Nat.le_of_ble_eq_true rfl) rfl
    · refine sv_any rfl rfl fun ρ β W X cx => ?_
      refine DoesU.call (run_callF (args := #[.agg #[.int .i64 kp, .int .i64 lp, .slice Ap sp.length cp]]) rfl cx.sees rfl (by kernel_rfl) (map1 (cx.anc 0 rfl))) ?_
      refine (HR.out _ (HP.out.ext cx.upd.to_ext)).mono ?_
      rintro e W1 ⟨A4, c4, rfl, ho, hx⟩
      refine ⟨_, rfl, post_call [eO 9 1 (.slice A4 RL.length c4) RL.length (RL.map Value.string)] rfl rfl hx (one_new (eO_new ho)) (List.pairwise_singleton _ _) (fun σ β' X' hs hb hv hN => ?_)⟩
      have hv1 := (hv 24 rfl).1; have hv2 := (hv 24 rfl).2
      exact ⟨hv1.trans (by rw [hv2]; rfl), (by rw [hv2]; exact (List.cons.inj hN).1)⟩
    · refine sv_any rfl rfl fun ρ β W X cx => ?_
      exact dv_alloc (cs := #[.int .i64 0, .int .i64 0, .slice none 0 0]) rfl (by kernel_rfl) rfl rfl (fun σ β' X' hs hb hv hx => ⟨hv, hx⟩)
    · refine sv_any rfl rfl fun ρ β W X cx => ?_
      exact dv_store (n := 3) rfl (cx.anc 2 rfl).1 (cx.anc 1 rfl).1 (by kernel_rfl) rfl rfl cx (cx.anc 2 rfl).2 rfl (Nat.le_of_ble_eq_true rfl) rfl rfl rfl rfl (fun σ β' X' hs hb hx => by rw [hb 8, hb 24]; exact hx)
  intro σ β X W3 hD hX hst3 fr hfr
  obtain ⟨A24_3, hu_A24_3⟩ : ∃ z, sA (tg (β 24) 2) = z := ⟨_, rfl⟩
  obtain ⟨c24_3, hu_c24_3⟩ : ∃ z, sC (tg (β 24) 2) = z := ⟨_, rfl⟩
  obtain ⟨B8_3, hu_B8_3⟩ : ∃ z, pb (β 8) = z := ⟨_, rfl⟩
  have dD23 : σ 23 = _ := hD 0 lq
  have dD24 : σ 24 = _ := (hD 1 lq).1
  have dD8 : σ 8 = _ := (hD 2 lq).1
  have xX0 : X 0 = _ := hX 0 _ rfl
  have xX1 : X 1 = _ := hX 1 _ rfl
  have xX2 : X 2 = _ := hX 2 _ rfl
  have xX3 : X 3 = _ := (hD 1 lq).2
  have xX5 : X 5 = _ := (hD 3 lq)
  simp only [List.map_cons, List.map_nil, xX0, xX1, xX2, xX3, xX5, hu_A24_3, hu_c24_3, hu_B8_3] at hst3
  rw [show dstsU _ = [23, 24, 8] by kernel_rfl] at hfr
  simp only [List.map_cons, List.map_nil, putAll, List.setIfInBounds_toArray, List.set_cons_succ, List.set_cons_zero, dD23, dD24, dD8, hu_A24_3, hu_c24_3, hu_B8_3] at hfr
  clear hX hD dD23 dD24 dD8 xX0 xX1 xX2 xX3 xX5 hu_A24_3 hu_c24_3 hu_B8_3
  subst hfr
  clear σ β X
  refine then_normal ?_
  refine wp_seq ?_
  refine wp_region_W (by kernel_rfl) [0, 1, 3, 7, 7, 15, 63] [[4], [3], [], [], [], [], []] [[], [], [], [], [], [], []] [[], [], [], [], [], [], []] (fun ix σ β X => match ix with | 0 => σ 26 = .agg #[.int .i64 kp, .int .i64 lp, .slice A24_3 RL.length c24_3] | 1 => σ 27 = .tuple #[.string S0, .int .i64 E0] | 2 => σ 25 = .tuple #[.string S0, .int .i64 E0] | 3 => σ 28 = .string S0 | 4 => σ 29 = .int .i64 E0 | 5 => σ 9 = .string S0 | 6 => σ 10 = .int .i64 E0 | _ => True) [0, 1, 2, 3, 4] (by kernel_rfl) (by kernel_rfl) (by kernel_rfl) (by kernel_rfl) ?_ hst3 ?_ ?_
  · exact fun ix _ _ _ _ _ _ hs hb hx h => match ix, h with
      | 0, h => (hs 26 rfl).symm.trans h
      | 1, h => (hs 27 rfl).symm.trans h
      | 2, h => (hs 25 rfl).symm.trans h
      | 3, h => (hs 28 rfl).symm.trans h
      | 4, h => (hs 29 rfl).symm.trans h
      | 5, h => (hs 9 rfl).symm.trans h
      | 6, h => (hs 10 rfl).symm.trans h
      | _ + 7, _ => trivial
  · refine ⟨⟨⟨⟨⟨⟨⟨trivial, ?_⟩, ?_⟩, ?_⟩, ?_⟩, ?_⟩, ?_⟩, ?_⟩
    · exact sv0 rfl rfl rfl rfl rfl (fun _ _ _ h => h) fun ρ β W X cx => run_loadB (n := 3) rfl (by kernel_rfl) (by kernel_rfl) (cx.out 8 rfl) (cx.blk (cx.init 4 _ rfl) rfl) (Nat.le_of_ble_eq_true rfl) rfl
    · exact sv_call rfl rfl rfl rfl rfl (fun _ _ _ h => h) fun ρ β W X cx => ⟨_, _, run_callF (args := #[.agg #[.int .i64 kp, .int .i64 lp, .slice A24_3 RL.length c24_3]]) rfl cx.sees rfl (by kernel_rfl) (map1 (cx.anc 0 rfl)), HB0.out _ _ _ (At.of_own (cx.row (cx.init 3 _ rfl) rfl))⟩
    · exact sv0 rfl rfl rfl rfl rfl (fun _ _ _ h => h) fun ρ β W X cx => run_move' rfl (cx.anc 1 rfl)
    · exact sv0 rfl rfl rfl rfl rfl (fun _ _ _ h => h) fun ρ β W X cx => run_extract' rfl (cx.anc 2 rfl) rfl
    · exact sv0 rfl rfl rfl rfl rfl (fun _ _ _ h => h) fun ρ β W X cx => run_extract' rfl (cx.anc 2 rfl) rfl
    · exact sv0 rfl rfl rfl rfl rfl (fun _ _ _ h => h) fun ρ β W X cx => run_assign' rfl (cx.anc 3 rfl)
    · exact sv0 rfl rfl rfl rfl rfl (fun _ _ _ h => h) fun ρ β W X cx => run_assign' rfl (cx.anc 4 rfl)
  intro σ β X W4 hD hX hst4 fr hfr
  have dD26 : σ 26 = _ := hD 0 lq
  have dD27 : σ 27 = _ := hD 1 lq
  have dD25 : σ 25 = _ := hD 2 lq
  have dD28 : σ 28 = _ := hD 3 lq
  have dD29 : σ 29 = _ := hD 4 lq
  have dD9 : σ 9 = _ := hD 5 lq
  have dD10 : σ 10 = _ := hD 6 lq
  have xX0 : X 0 = _ := hX 0 _ rfl
  have xX1 : X 1 = _ := hX 1 _ rfl
  have xX2 : X 2 = _ := hX 2 _ rfl
  have xX3 : X 3 = _ := hX 3 _ rfl
  have xX4 : X 4 = _ := hX 4 _ rfl
  simp only [List.map_cons, List.map_nil, xX0, xX1, xX2, xX3, xX4] at hst4
  rw [show dstsU _ = [26, 27, 25, 28, 29, 9, 10] by kernel_rfl] at hfr
  simp only [List.map_cons, List.map_nil, putAll, List.setIfInBounds_toArray, List.set_cons_succ, List.set_cons_zero, dD26, dD27, dD25, dD28, dD29, dD9, dD10] at hfr
  clear hX hD dD26 dD27 dD25 dD28 dD29 dD9 dD10 xX0 xX1 xX2 xX3 xX4
  subst hfr
  clear σ β X
  refine then_normal ?_
  refine wp_seq ?_
  refine wp_region_W (by kernel_rfl) [0, 1, 0, 7] [[4], [3], [], [5]] [[], [], [5], [6]] [[], [], [], [5]] (fun ix σ β X => match ix with | 0 => σ 30 = .agg #[.int .i64 kp, .int .i64 lp, .slice A24_3 RL.length c24_3] | 1 => σ 31 = .agg #[.string S0, .int .i64 E0] | 2 => σ 11 = .pointer (some ⟨(pb (β 11)), 0, none⟩) ∧ X 5 = eB (pb (β 11)) 72 #[.string ByteArray.empty, .int .i64 0] | 3 => X 6 = eB (pb (β 11)) 72 #[.string S0, .int .i64 E0] | _ => True) [0, 1, 2, 3, 4, 6] (by kernel_rfl) (by kernel_rfl) (by kernel_rfl) (by kernel_rfl) ?_ hst4 ?_ ?_
  · exact fun ix _ _ _ _ _ _ hs hb hx h => match ix, h with
      | 0, h => (hs 30 rfl).symm.trans h
      | 1, h => (hs 31 rfl).symm.trans h
      | 2, h => by dsimp only at h ⊢; rw [← hs 11 rfl, ← hb 11 rfl, ← hx 5 rfl]; exact h
      | 3, h => by dsimp only at h ⊢; rw [← hb 11 rfl, ← hx 6 rfl]; exact h
      | _ + 4, _ => trivial
  · refine ⟨⟨⟨⟨trivial, ?_⟩, ?_⟩, ?_⟩, ?_⟩
    · exact sv0 rfl rfl rfl rfl rfl (fun _ _ _ h => h) fun ρ β W X cx => run_loadB (n := 3) rfl (by kernel_rfl) (by kernel_rfl) (cx.out 8 rfl) (cx.blk (cx.init 4 _ rfl) rfl) (Nat.le_of_ble_eq_true rfl) rfl
    · exact sv_call rfl rfl rfl rfl rfl (fun _ _ _ h => h) fun ρ β W X cx => ⟨_, _, run_callF (args := #[.agg #[.int .i64 kp, .int .i64 lp, .slice A24_3 RL.length c24_3]]) rfl cx.sees rfl (by kernel_rfl) (map1 (cx.anc 0 rfl)), HC0.out _ _ _ (At.of_own (cx.row (cx.init 3 _ rfl) rfl)) (eown_cap (cx.row (cx.init 3 _ rfl) rfl))⟩
    · refine sv_any rfl rfl fun ρ β W X cx => ?_
      exact dv_alloc (cs := #[.string ByteArray.empty, .int .i64 0]) rfl (by kernel_rfl) rfl rfl (fun σ β' X' hs hb hv hx => ⟨hv, hx⟩)
    · refine sv_any rfl rfl fun ρ β W X cx => ?_
      exact dv_store (n := 2) rfl (cx.anc 2 rfl).1 (cx.anc 1 rfl) (by kernel_rfl) rfl rfl cx (cx.anc 2 rfl).2 rfl (Nat.le_of_ble_eq_true rfl) rfl rfl rfl rfl (fun σ β' X' hs hb hx => by rw [hb 11]; exact hx)
  intro σ β X W5 hD hX hst5 fr hfr
  obtain ⟨B11_5, hu_B11_5⟩ : ∃ z, pb (β 11) = z := ⟨_, rfl⟩
  have dD30 : σ 30 = _ := hD 0 lq
  have dD31 : σ 31 = _ := hD 1 lq
  have dD11 : σ 11 = _ := (hD 2 lq).1
  have xX0 : X 0 = _ := hX 0 _ rfl
  have xX1 : X 1 = _ := hX 1 _ rfl
  have xX2 : X 2 = _ := hX 2 _ rfl
  have xX3 : X 3 = _ := hX 3 _ rfl
  have xX4 : X 4 = _ := hX 4 _ rfl
  have xX6 : X 6 = _ := (hD 3 lq)
  simp only [List.map_cons, List.map_nil, xX0, xX1, xX2, xX3, xX4, xX6, hu_B11_5] at hst5
  rw [show dstsU _ = [30, 31, 11] by kernel_rfl] at hfr
  simp only [List.map_cons, List.map_nil, putAll, List.setIfInBounds_toArray, List.set_cons_succ, List.set_cons_zero, dD30, dD31, dD11, hu_B11_5] at hfr
  clear hX hD dD30 dD31 dD11 xX0 xX1 xX2 xX3 xX4 xX6 hu_B11_5
  subst hfr
  clear σ β X
  refine then_normal ?_
  refine wp_seq ?_
  refine wp_region_W (by kernel_rfl) [0, 1, 3, 0, 15] [[1], [], [6], [], [7]] [[], [6], [], [7], [8]] [[], [], [], [], [7]] (fun ix σ β X => match ix with | 0 => σ 32 = .agg #[.int .i64 kA, .int .i64 lA, .slice A sa.length c] | 1 => σ 33 = .agg #[.int .i64 k1, .int .i64 l1, .slice (sA (tg (β 33) 2)) I1.length (sC (tg (β 33) 2))] ∧ X 6 = eO 9 1 (.slice (sA (tg (β 33) 2)) I1.length (sC (tg (β 33) 2))) I1.length (I1.map Value.string) | 2 => σ 34 = .agg #[.string S1, .int .i64 0] | 3 => σ 12 = .pointer (some ⟨(pb (β 12)), 0, none⟩) ∧ X 7 = eB (pb (β 12)) 72 #[.string ByteArray.empty, .int .i64 0] | 4 => X 8 = eB (pb (β 12)) 72 #[.string S1, .int .i64 0] | _ => True) [0, 1, 2, 3, 4, 5, 6, 8] (by kernel_rfl) (by kernel_rfl) (by kernel_rfl) (by kernel_rfl) ?_ hst5 ?_ ?_
  · exact fun ix _ _ _ _ _ _ hs hb hx h => match ix, h with
      | 0, h => (hs 32 rfl).symm.trans h
      | 1, h => by dsimp only at h ⊢; rw [← hs 33 rfl, ← hb 33 rfl, ← hx 6 rfl]; exact h
      | 2, h => (hs 34 rfl).symm.trans h
      | 3, h => by dsimp only at h ⊢; rw [← hs 12 rfl, ← hb 12 rfl, ← hx 7 rfl]; exact h
      | 4, h => by dsimp only at h ⊢; rw [← hb 12 rfl, ← hx 8 rfl]; exact h
      | _ + 5, _ => trivial
  · refine ⟨⟨⟨⟨⟨trivial, ?_⟩, ?_⟩, ?_⟩, ?_⟩, ?_⟩
    · exact sv0 rfl rfl rfl rfl rfl (fun _ _ _ h => h) fun ρ β W X cx => run_loadB (n := 3) rfl (by kernel_rfl) (by kernel_rfl) (cx.out 4 rfl) (cx.blk (cx.init 1 _ rfl) rfl) (Nat.le_of_ble_eq_true rfl) rfl
    · refine sv_any rfl rfl fun ρ β W X cx => ?_
      refine DoesU.call (run_callF (args := #[.agg #[.int .i64 kA, .int .i64 lA, .slice A sa.length c]]) rfl cx.sees rfl (by kernel_rfl) (map1 (cx.anc 0 rfl))) ?_
      refine (HM1.out _ (HA.out.ext cx.upd.to_ext)).mono ?_
      rintro e W1 ⟨A4, c4, rfl, ho, hx⟩
      refine ⟨_, rfl, post_call [eO 9 1 (.slice A4 I1.length c4) I1.length (I1.map Value.string)] rfl rfl hx (one_new (eO_new ho)) (List.pairwise_singleton _ _) (fun σ β' X' hs hb hv hN => ?_)⟩
      have hv1 := (hv 33 rfl).1; have hv2 := (hv 33 rfl).2
      exact ⟨hv1.trans (by rw [hv2]; rfl), (by rw [hv2]; exact (List.cons.inj hN).1)⟩
    · exact sv_call rfl rfl rfl rfl rfl (fun _ _ _ h => h) fun ρ β W X cx => ⟨_, _, run_callF (args := #[.agg #[.int .i64 k1, .int .i64 l1, .slice (sA (tg (β 33) 2)) I1.length (sC (tg (β 33) 2))]]) rfl cx.sees rfl (by kernel_rfl) (map1 (cx.anc 1 rfl).1), HC1.out _ _ _ (At.of_own (cx.row (cx.anc 1 rfl).2 rfl)) (eown_cap (cx.row (cx.anc 1 rfl).2 rfl))⟩
    · refine sv_any rfl rfl fun ρ β W X cx => ?_
      exact dv_alloc (cs := #[.string ByteArray.empty, .int .i64 0]) rfl (by kernel_rfl) rfl rfl (fun σ β' X' hs hb hv hx => ⟨hv, hx⟩)
    · refine sv_any rfl rfl fun ρ β W X cx => ?_
      exact dv_store (n := 2) rfl (cx.anc 3 rfl).1 (cx.anc 2 rfl) (by kernel_rfl) rfl rfl cx (cx.anc 3 rfl).2 rfl (Nat.le_of_ble_eq_true rfl) rfl rfl rfl rfl (fun σ β' X' hs hb hx => by rw [hb 12]; exact hx)
  intro σ β X W6 hD hX hst6 fr hfr
  obtain ⟨A33_6, hu_A33_6⟩ : ∃ z, sA (tg (β 33) 2) = z := ⟨_, rfl⟩
  obtain ⟨c33_6, hu_c33_6⟩ : ∃ z, sC (tg (β 33) 2) = z := ⟨_, rfl⟩
  obtain ⟨B12_6, hu_B12_6⟩ : ∃ z, pb (β 12) = z := ⟨_, rfl⟩
  have dD32 : σ 32 = _ := hD 0 lq
  have dD33 : σ 33 = _ := (hD 1 lq).1
  have dD34 : σ 34 = _ := hD 2 lq
  have dD12 : σ 12 = _ := (hD 3 lq).1
  have xX0 : X 0 = _ := hX 0 _ rfl
  have xX1 : X 1 = _ := hX 1 _ rfl
  have xX2 : X 2 = _ := hX 2 _ rfl
  have xX3 : X 3 = _ := hX 3 _ rfl
  have xX4 : X 4 = _ := hX 4 _ rfl
  have xX5 : X 5 = _ := hX 5 _ rfl
  have xX6 : X 6 = _ := (hD 1 lq).2
  have xX8 : X 8 = _ := (hD 4 lq)
  simp only [List.map_cons, List.map_nil, xX0, xX1, xX2, xX3, xX4, xX5, xX6, xX8, hu_A33_6, hu_c33_6, hu_B12_6] at hst6
  rw [show dstsU _ = [32, 33, 34, 12] by kernel_rfl] at hfr
  simp only [List.map_cons, List.map_nil, putAll, List.setIfInBounds_toArray, List.set_cons_succ, List.set_cons_zero, dD32, dD33, dD34, dD12, hu_A33_6, hu_c33_6, hu_B12_6] at hfr
  clear hX hD dD32 dD33 dD34 dD12 xX0 xX1 xX2 xX3 xX4 xX5 xX6 xX8 hu_A33_6 hu_c33_6 hu_B12_6
  subst hfr
  clear σ β X
  refine then_normal ?_
  refine wp_seq ?_
  refine wp_region_W (by kernel_rfl) [0, 1, 3, 7, 15, 15, 31, 127] [[1], [], [8], [], [], [], [], []] [[], [8], [], [], [], [], [], []] [[], [], [], [], [], [], [], []] (fun ix σ β X => match ix with | 0 => σ 36 = .agg #[.int .i64 kA, .int .i64 lA, .slice A sa.length c] | 1 => σ 37 = .agg #[.int .i64 k1, .int .i64 l1, .slice (sA (tg (β 37) 2)) I1.length (sC (tg (β 37) 2))] ∧ X 8 = eO 9 1 (.slice (sA (tg (β 37) 2)) I1.length (sC (tg (β 37) 2))) I1.length (I1.map Value.string) | 2 => σ 38 = .tuple #[.string S1, .int .i64 0] | 3 => σ 35 = .tuple #[.string S1, .int .i64 0] | 4 => σ 39 = .string S1 | 5 => σ 40 = .int .i64 0 | 6 => σ 13 = .string S1 | 7 => σ 14 = .int .i64 0 | _ => True) [0, 1, 2, 3, 4, 5, 6, 7, 8] (by kernel_rfl) (by kernel_rfl) (by kernel_rfl) (by kernel_rfl) ?_ hst6 ?_ ?_
  · exact fun ix _ _ _ _ _ _ hs hb hx h => match ix, h with
      | 0, h => (hs 36 rfl).symm.trans h
      | 1, h => by dsimp only at h ⊢; rw [← hs 37 rfl, ← hb 37 rfl, ← hx 8 rfl]; exact h
      | 2, h => (hs 38 rfl).symm.trans h
      | 3, h => (hs 35 rfl).symm.trans h
      | 4, h => (hs 39 rfl).symm.trans h
      | 5, h => (hs 40 rfl).symm.trans h
      | 6, h => (hs 13 rfl).symm.trans h
      | 7, h => (hs 14 rfl).symm.trans h
      | _ + 8, _ => trivial
  · refine ⟨⟨⟨⟨⟨⟨⟨⟨trivial, ?_⟩, ?_⟩, ?_⟩, ?_⟩, ?_⟩, ?_⟩, ?_⟩, ?_⟩
    · exact sv0 rfl rfl rfl rfl rfl (fun _ _ _ h => h) fun ρ β W X cx => run_loadB (n := 3) rfl (by kernel_rfl) (by kernel_rfl) (cx.out 4 rfl) (cx.blk (cx.init 1 _ rfl) rfl) (Nat.le_of_ble_eq_true rfl) rfl
    · refine sv_any rfl rfl fun ρ β W X cx => ?_
      refine DoesU.call (run_callF (args := #[.agg #[.int .i64 kA, .int .i64 lA, .slice A sa.length c]]) rfl cx.sees rfl (by kernel_rfl) (map1 (cx.anc 0 rfl))) ?_
      refine (HM1.out _ (HA.out.ext cx.upd.to_ext)).mono ?_
      rintro e W1 ⟨A4, c4, rfl, ho, hx⟩
      refine ⟨_, rfl, post_call [eO 9 1 (.slice A4 I1.length c4) I1.length (I1.map Value.string)] rfl rfl hx (one_new (eO_new ho)) (List.pairwise_singleton _ _) (fun σ β' X' hs hb hv hN => ?_)⟩
      have hv1 := (hv 37 rfl).1; have hv2 := (hv 37 rfl).2
      exact ⟨hv1.trans (by rw [hv2]; rfl), (by rw [hv2]; exact (List.cons.inj hN).1)⟩
    · exact sv_call rfl rfl rfl rfl rfl (fun _ _ _ h => h) fun ρ β W X cx => ⟨_, _, run_callF (args := #[.agg #[.int .i64 k1, .int .i64 l1, .slice (sA (tg (β 37) 2)) I1.length (sC (tg (β 37) 2))]]) rfl cx.sees rfl (by kernel_rfl) (map1 (cx.anc 1 rfl).1), HB1.out _ _ _ (At.of_own (cx.row (cx.anc 1 rfl).2 rfl))⟩
    · exact sv0 rfl rfl rfl rfl rfl (fun _ _ _ h => h) fun ρ β W X cx => run_move' rfl (cx.anc 2 rfl)
    · exact sv0 rfl rfl rfl rfl rfl (fun _ _ _ h => h) fun ρ β W X cx => run_extract' rfl (cx.anc 3 rfl) rfl
    · exact sv0 rfl rfl rfl rfl rfl (fun _ _ _ h => h) fun ρ β W X cx => run_extract' rfl (cx.anc 3 rfl) rfl
    · exact sv0 rfl rfl rfl rfl rfl (fun _ _ _ h => h) fun ρ β W X cx => run_assign' rfl (cx.anc 4 rfl)
    · exact sv0 rfl rfl rfl rfl rfl (fun _ _ _ h => h) fun ρ β W X cx => run_assign' rfl (cx.anc 5 rfl)
  intro σ β X W7 hD hX hst7 fr hfr
  obtain ⟨A37_7, hu_A37_7⟩ : ∃ z, sA (tg (β 37) 2) = z := ⟨_, rfl⟩
  obtain ⟨c37_7, hu_c37_7⟩ : ∃ z, sC (tg (β 37) 2) = z := ⟨_, rfl⟩
  have dD36 : σ 36 = _ := hD 0 lq
  have dD37 : σ 37 = _ := (hD 1 lq).1
  have dD38 : σ 38 = _ := hD 2 lq
  have dD35 : σ 35 = _ := hD 3 lq
  have dD39 : σ 39 = _ := hD 4 lq
  have dD40 : σ 40 = _ := hD 5 lq
  have dD13 : σ 13 = _ := hD 6 lq
  have dD14 : σ 14 = _ := hD 7 lq
  have xX0 : X 0 = _ := hX 0 _ rfl
  have xX1 : X 1 = _ := hX 1 _ rfl
  have xX2 : X 2 = _ := hX 2 _ rfl
  have xX3 : X 3 = _ := hX 3 _ rfl
  have xX4 : X 4 = _ := hX 4 _ rfl
  have xX5 : X 5 = _ := hX 5 _ rfl
  have xX6 : X 6 = _ := hX 6 _ rfl
  have xX7 : X 7 = _ := hX 7 _ rfl
  have xX8 : X 8 = _ := (hD 1 lq).2
  simp only [List.map_cons, List.map_nil, xX0, xX1, xX2, xX3, xX4, xX5, xX6, xX7, xX8, hu_A37_7, hu_c37_7] at hst7
  rw [show dstsU _ = [36, 37, 38, 35, 39, 40, 13, 14] by kernel_rfl] at hfr
  simp only [List.map_cons, List.map_nil, putAll, List.setIfInBounds_toArray, List.set_cons_succ, List.set_cons_zero, dD36, dD37, dD38, dD35, dD39, dD40, dD13, dD14, hu_A37_7, hu_c37_7] at hfr
  clear hX hD dD36 dD37 dD38 dD35 dD39 dD40 dD13 dD14 xX0 xX1 xX2 xX3 xX4 xX5 xX6 xX7 xX8 hu_A37_7 hu_c37_7
  subst hfr
  clear σ β X
  refine then_normal ?_
  refine wp_seq ?_
  refine wp_seq ?_
  have hd9 : (!(S0.toList == S0.toList)) = false := by simp
  have hd10 : (E0 != E0) = false := by simp
  have hd11 : (!(S1.toList == S1.toList)) = false := by simp
  refine wp_region_W (by kernel_rfl) [0, 0, 2, 7, 15, 31, 31, 95, 255, 511, 1023, 2047, 2047, 6143, 16383, 32767, 65535, 131071, 262143, 524287, 1048575, 2097151, 4194303, 8388607, 16777215] [[], [], [5], [], [], [], [], [5], [], [], [], [], [], [7], [], [], [], [], [], [], [], [], [7], [], []] [[], [], [], [], [], [], [], [], [], [], [], [], [], [], [], [], [], [], [], [], [], [], [], [], []] [[], [], [], [], [], [], [], [], [], [], [], [], [], [], [], [], [], [], [], [], [], [], [], [], []] (fun ix σ β X => match ix with | 0 => σ 41 = .string S0 | 1 => σ 42 = .pointer (some ⟨B11_5, 0, none⟩) | 2 => σ 43 = .string S0 | 3 => σ 44 = .bool (!(S0.toList == S0.toList)) | 4 => σ 45 = .bool false | 5 => σ 46 = .int .i64 E0 | 6 => σ 47 = .pointer (some ⟨B11_5, 1, none⟩) | 7 => σ 48 = .int .i64 E0 | 8 => σ 49 = .bool (E0 != E0) | 9 => σ 50 = .bool false | 10 => σ 51 = .bool false | 11 => σ 52 = .string S1 | 12 => σ 53 = .pointer (some ⟨B12_6, 0, none⟩) | 13 => σ 54 = .string S1 | 14 => σ 55 = .bool (!(S1.toList == S1.toList)) | 15 => σ 56 = .bool false | 16 => σ 57 = .bool false | 17 => σ 58 = .int .i64 0 | 18 => σ 59 = .bool false | 19 => σ 60 = .bool false | 20 => σ 61 = .bool false | 21 => σ 62 = .pointer (some ⟨B12_6, 1, none⟩) | 22 => σ 63 = .int .i64 0 | 23 => σ 64 = .bool false | 24 => σ 65 = .bool false | _ => True) [0, 1, 2, 3, 4, 5, 6, 7, 8] (by kernel_rfl) (by kernel_rfl) (by kernel_rfl) (by kernel_rfl) ?_ hst7 ?_ ?_
  · exact fun ix _ _ _ _ _ _ hs hb hx h => match ix, h with
      | 0, h => (hs 41 rfl).symm.trans h
      | 1, h => (hs 42 rfl).symm.trans h
      | 2, h => (hs 43 rfl).symm.trans h
      | 3, h => (hs 44 rfl).symm.trans h
      | 4, h => (hs 45 rfl).symm.trans h
      | 5, h => (hs 46 rfl).symm.trans h
      | 6, h => (hs 47 rfl).symm.trans h
      | 7, h => (hs 48 rfl).symm.trans h
      | 8, h => (hs 49 rfl).symm.trans h
      | 9, h => (hs 50 rfl).symm.trans h
      | 10, h => (hs 51 rfl).symm.trans h
      | 11, h => (hs 52 rfl).symm.trans h
      | 12, h => (hs 53 rfl).symm.trans h
      | 13, h => (hs 54 rfl).symm.trans h
      | 14, h => (hs 55 rfl).symm.trans h
      | 15, h => (hs 56 rfl).symm.trans h
      | 16, h => (hs 57 rfl).symm.trans h
      | 17, h => (hs 58 rfl).symm.trans h
      | 18, h => (hs 59 rfl).symm.trans h
      | 19, h => (hs 60 rfl).symm.trans h
      | 20, h => (hs 61 rfl).symm.trans h
      | 21, h => (hs 62 rfl).symm.trans h
      | 22, h => (hs 63 rfl).symm.trans h
      | 23, h => (hs 64 rfl).symm.trans h
      | 24, h => (hs 65 rfl).symm.trans h
      | _ + 25, _ => trivial
  · refine ⟨⟨⟨⟨⟨⟨⟨⟨⟨⟨⟨⟨⟨⟨⟨⟨⟨⟨⟨⟨⟨⟨⟨⟨⟨trivial, ?_⟩, ?_⟩, ?_⟩, ?_⟩, ?_⟩, ?_⟩, ?_⟩, ?_⟩, ?_⟩, ?_⟩, ?_⟩, ?_⟩, ?_⟩, ?_⟩, ?_⟩, ?_⟩, ?_⟩, ?_⟩, ?_⟩, ?_⟩, ?_⟩, ?_⟩, ?_⟩, ?_⟩, ?_⟩
    · exact sv0 rfl rfl rfl rfl rfl (fun _ _ _ h => h) fun ρ β W X cx => run_move' rfl (cx.out 9 rfl)
    · exact sv0 rfl rfl rfl rfl rfl (fun _ _ _ h => h) fun ρ β W X cx => run_fieldAddr' (k := 0) (n := 0) rfl (by kernel_rfl) (cx.out 11 rfl) rfl
    · exact sv0 rfl rfl rfl rfl rfl (fun _ _ _ h => h) fun ρ β W X cx => run_load1 rfl (by kernel_rfl) (cx.anc 1 rfl) ((cx.blk (cx.init 5 _ rfl) rfl).cell 0)
    · exact sv0 rfl rfl rfl rfl rfl (fun _ _ _ h => h) fun ρ β W X cx => run_strne rfl (cx.anc 0 rfl) (cx.anc 2 rfl)
    · exact sv0 rfl rfl rfl rfl rfl (fun _ _ _ h => h) fun ρ β W X cx => run_move' rfl (Eq.trans (cx.anc 3 rfl) (congrArg Value.bool hd9))
    · exact sv0_on rfl rfl rfl rfl rfl rfl (fun _ _ _ h => h) (fun _ _ _ _ cx => (cx.anc 4 rfl)) fun ρ β W X cx => run_move' rfl (cx.out 10 rfl)
    · exact sv0_on rfl rfl rfl rfl rfl rfl (fun _ _ _ h => h) (fun _ _ _ _ cx => (cx.anc 4 rfl)) fun ρ β W X cx => run_fieldAddr' (k := 1) (n := 1) rfl (by kernel_rfl) (cx.out 11 rfl) rfl
    · exact sv0_on rfl rfl rfl rfl rfl rfl (fun _ _ _ h => h) (fun _ _ _ _ cx => (cx.anc 4 rfl)) fun ρ β W X cx => run_load1 rfl (by kernel_rfl) (cx.anc 6 rfl) ((cx.blk (cx.init 5 _ rfl) rfl).cell 1)
    · exact sv0_on rfl rfl rfl rfl rfl rfl (fun _ _ _ h => h) (fun _ _ _ _ cx => (cx.anc 4 rfl)) fun ρ β W X cx => run_bin rfl (cx.anc 5 rfl) (cx.anc 7 rfl) rfl
    · exact sv0 rfl rfl rfl rfl rfl (fun _ _ _ h => h) fun ρ β W X cx => run_pick_f rfl (cx.anc 4 rfl) (Eq.trans (cx.anc 8 rfl) (congrArg Value.bool hd10))
    · exact sv0 rfl rfl rfl rfl rfl (fun _ _ _ h => h) fun ρ β W X cx => run_move' rfl (cx.anc 9 rfl)
    · exact sv0_on rfl rfl rfl rfl rfl rfl (fun _ _ _ h => h) (fun _ _ _ _ cx => (cx.anc 10 rfl)) fun ρ β W X cx => run_move' rfl (cx.out 13 rfl)
    · exact sv0_on rfl rfl rfl rfl rfl rfl (fun _ _ _ h => h) (fun _ _ _ _ cx => (cx.anc 10 rfl)) fun ρ β W X cx => run_fieldAddr' (k := 0) (n := 0) rfl (by kernel_rfl) (cx.out 12 rfl) rfl
    · exact sv0_on rfl rfl rfl rfl rfl rfl (fun _ _ _ h => h) (fun _ _ _ _ cx => (cx.anc 10 rfl)) fun ρ β W X cx => run_load1 rfl (by kernel_rfl) (cx.anc 12 rfl) ((cx.blk (cx.init 7 _ rfl) rfl).cell 0)
    · exact sv0_on rfl rfl rfl rfl rfl rfl (fun _ _ _ h => h) (fun _ _ _ _ cx => (cx.anc 10 rfl)) fun ρ β W X cx => run_strne rfl (cx.anc 11 rfl) (cx.anc 13 rfl)
    · exact sv0 rfl rfl rfl rfl rfl (fun _ _ _ h => h) fun ρ β W X cx => run_pick_f rfl (cx.anc 10 rfl) (Eq.trans (cx.anc 14 rfl) (congrArg Value.bool hd11))
    · exact sv0 rfl rfl rfl rfl rfl (fun _ _ _ h => h) fun ρ β W X cx => run_move' rfl (cx.anc 15 rfl)
    · exact sv0_on rfl rfl rfl rfl rfl rfl (fun _ _ _ h => h) (fun _ _ _ _ cx => (cx.anc 16 rfl)) fun ρ β W X cx => run_move' rfl (cx.out 14 rfl)
    · exact sv0_on rfl rfl rfl rfl rfl rfl (fun _ _ _ h => h) (fun _ _ _ _ cx => (cx.anc 16 rfl)) fun ρ β W X cx => run_bin rfl (cx.anc 17 rfl) (cx.sees.const _) rfl
    · exact sv0 rfl rfl rfl rfl rfl (fun _ _ _ h => h) fun ρ β W X cx => run_pick_f rfl (cx.anc 16 rfl) (cx.anc 18 rfl)
    · exact sv0 rfl rfl rfl rfl rfl (fun _ _ _ h => h) fun ρ β W X cx => run_move' rfl (cx.anc 19 rfl)
    · exact sv0_on rfl rfl rfl rfl rfl rfl (fun _ _ _ h => h) (fun _ _ _ _ cx => (cx.anc 20 rfl)) fun ρ β W X cx => run_fieldAddr' (k := 1) (n := 1) rfl (by kernel_rfl) (cx.out 12 rfl) rfl
    · exact sv0_on rfl rfl rfl rfl rfl rfl (fun _ _ _ h => h) (fun _ _ _ _ cx => (cx.anc 20 rfl)) fun ρ β W X cx => run_load1 rfl (by kernel_rfl) (cx.anc 21 rfl) ((cx.blk (cx.init 7 _ rfl) rfl).cell 1)
    · exact sv0_on rfl rfl rfl rfl rfl rfl (fun _ _ _ h => h) (fun _ _ _ _ cx => (cx.anc 20 rfl)) fun ρ β W X cx => run_bin rfl (cx.anc 22 rfl) (cx.sees.const _) rfl
    · exact sv0 rfl rfl rfl rfl rfl (fun _ _ _ h => h) fun ρ β W X cx => run_pick_f rfl (cx.anc 20 rfl) (cx.anc 23 rfl)
  intro σ β X W8 hD hX hst8 fr hfr
  have dD41 : σ 41 = _ := hD 0 lq
  have dD42 : σ 42 = _ := hD 1 lq
  have dD43 : σ 43 = _ := hD 2 lq
  have dD44 : σ 44 = _ := hD 3 lq
  have dD45 : σ 45 = _ := hD 4 lq
  have dD46 : σ 46 = _ := hD 5 lq
  have dD47 : σ 47 = _ := hD 6 lq
  have dD48 : σ 48 = _ := hD 7 lq
  have dD49 : σ 49 = _ := hD 8 lq
  have dD50 : σ 50 = _ := hD 9 lq
  have dD51 : σ 51 = _ := hD 10 lq
  have dD52 : σ 52 = _ := hD 11 lq
  have dD53 : σ 53 = _ := hD 12 lq
  have dD54 : σ 54 = _ := hD 13 lq
  have dD55 : σ 55 = _ := hD 14 lq
  have dD56 : σ 56 = _ := hD 15 lq
  have dD57 : σ 57 = _ := hD 16 lq
  have dD58 : σ 58 = _ := hD 17 lq
  have dD59 : σ 59 = _ := hD 18 lq
  have dD60 : σ 60 = _ := hD 19 lq
  have dD61 : σ 61 = _ := hD 20 lq
  have dD62 : σ 62 = _ := hD 21 lq
  have dD63 : σ 63 = _ := hD 22 lq
  have dD64 : σ 64 = _ := hD 23 lq
  have dD65 : σ 65 = _ := hD 24 lq
  have xX0 : X 0 = _ := hX 0 _ rfl
  have xX1 : X 1 = _ := hX 1 _ rfl
  have xX2 : X 2 = _ := hX 2 _ rfl
  have xX3 : X 3 = _ := hX 3 _ rfl
  have xX4 : X 4 = _ := hX 4 _ rfl
  have xX5 : X 5 = _ := hX 5 _ rfl
  have xX6 : X 6 = _ := hX 6 _ rfl
  have xX7 : X 7 = _ := hX 7 _ rfl
  have xX8 : X 8 = _ := hX 8 _ rfl
  simp only [List.map_cons, List.map_nil, xX0, xX1, xX2, xX3, xX4, xX5, xX6, xX7, xX8] at hst8
  rw [show dstsU _ = [41, 42, 43, 44, 45, 46, 47, 48, 49, 50, 51, 52, 53, 54, 55, 56, 57, 58, 59, 60, 61, 62, 63, 64, 65] by kernel_rfl] at hfr
  simp only [List.map_cons, List.map_nil, putAll, List.setIfInBounds_toArray, List.set_cons_succ, List.set_cons_zero, dD41, dD42, dD43, dD44, dD45, dD46, dD47, dD48, dD49, dD50, dD51, dD52, dD53, dD54, dD55, dD56, dD57, dD58, dD59, dD60, dD61, dD62, dD63, dD64, dD65] at hfr
  clear hX hD dD41 dD42 dD43 dD44 dD45 dD46 dD47 dD48 dD49 dD50 dD51 dD52 dD53 dD54 dD55 dD56 dD57 dD58 dD59 dD60 dD61 dD62 dD63 dD64 dD65 xX0 xX1 xX2 xX3 xX4 xX5 xX6 xX7 xX8
  subst hfr
  clear σ β X
  refine then_normal ?_
  refine wp_cond_false (show Act.eval _ _ = .bool false from rfl) ?_
  refine wp_skip ?_
  refine then_normal ?_
  refine wp_seq ?_
  refine wp_region_W (by kernel_rfl) [0, 1, 3, 7] [[], [7], [], []] [[], [], [9], []] [[], [], [], []] (fun ix σ β X => match ix with | 0 => σ 66 = .pointer (some ⟨B12_6, 0, none⟩) | 1 => σ 67 = .string S1 | 2 => σ 68 = .slice ((some ⟨(pb' (β 68)), 0, none⟩)) S1.size (S1.size + (sK (β 68))) ∧ X 9 = eW (pb' (β 68)) 5 (bI S1) | 3 => σ 15 = .slice ((some ⟨(pb' (β 68)), 0, none⟩)) S1.size (S1.size + (sK (β 68))) | _ => True) [0, 1, 2, 3, 4, 5, 6, 7, 8, 9] (by kernel_rfl) (by kernel_rfl) (by kernel_rfl) (by kernel_rfl) ?_ hst8 ?_ ?_
  · exact fun ix _ _ _ _ _ _ hs hb hx h => match ix, h with
      | 0, h => (hs 66 rfl).symm.trans h
      | 1, h => (hs 67 rfl).symm.trans h
      | 2, h => by dsimp only at h ⊢; rw [← hs 68 rfl, ← hb 68 rfl, ← hx 9 rfl]; exact h
      | 3, h => by dsimp only at h ⊢; rw [← hs 15 rfl, ← hb 68 rfl]; exact h
      | _ + 4, _ => trivial
  · refine ⟨⟨⟨⟨trivial, ?_⟩, ?_⟩, ?_⟩, ?_⟩
    · exact sv0 rfl rfl rfl rfl rfl (fun _ _ _ h => h) fun ρ β W X cx => run_fieldAddr' (k := 0) (n := 0) rfl (by kernel_rfl) (cx.out 12 rfl) rfl
    · exact sv0 rfl rfl rfl rfl rfl (fun _ _ _ h => h) fun ρ β W X cx => run_load1 rfl (by kernel_rfl) (cx.anc 0 rfl) ((cx.blk (cx.init 7 _ rfl) rfl).cell 0)
    · refine sv_any rfl rfl fun ρ β W X cx => ?_
      exact dv_convS (e := 5) (s := S1) rfl (by kernel_rfl) (by kernel_rfl) (by kernel_rfl) (cx.anc 1 rfl) rfl rfl (fun σ β' X' hs hb hv hx => ⟨hv, hx⟩)
    · exact sv rfl rfl rfl rfl rfl _ (fun _ _ _ h => h) (fun β β' h => by rw [h 68 (by decide)]) fun ρ β W X cx => run_assign' rfl (cx.anc 2 rfl).1
  intro σ β X W12 hD hX hst12 fr hfr
  obtain ⟨B68_12, hu_B68_12⟩ : ∃ z, pb' (β 68) = z := ⟨_, rfl⟩
  obtain ⟨c68_12, hu_c68_12⟩ : ∃ z, sK (β 68) = z := ⟨_, rfl⟩
  have dD66 : σ 66 = _ := hD 0 lq
  have dD67 : σ 67 = _ := hD 1 lq
  have dD68 : σ 68 = _ := (hD 2 lq).1
  have dD15 : σ 15 = _ := hD 3 lq
  have xX0 : X 0 = _ := hX 0 _ rfl
  have xX1 : X 1 = _ := hX 1 _ rfl
  have xX2 : X 2 = _ := hX 2 _ rfl
  have xX3 : X 3 = _ := hX 3 _ rfl
  have xX4 : X 4 = _ := hX 4 _ rfl
  have xX5 : X 5 = _ := hX 5 _ rfl
  have xX6 : X 6 = _ := hX 6 _ rfl
  have xX7 : X 7 = _ := hX 7 _ rfl
  have xX8 : X 8 = _ := hX 8 _ rfl
  have xX9 : X 9 = _ := (hD 2 lq).2
  simp only [List.map_cons, List.map_nil, xX0, xX1, xX2, xX3, xX4, xX5, xX6, xX7, xX8, xX9, hu_B68_12, hu_c68_12] at hst12
  rw [show dstsU _ = [66, 67, 68, 15] by kernel_rfl] at hfr
  simp only [List.map_cons, List.map_nil, putAll, List.setIfInBounds_toArray, List.set_cons_succ, List.set_cons_zero, dD66, dD67, dD68, dD15, hu_B68_12, hu_c68_12] at hfr
  clear hX hD dD66 dD67 dD68 dD15 xX0 xX1 xX2 xX3 xX4 xX5 xX6 xX7 xX8 xX9 hu_B68_12 hu_c68_12
  subst hfr
  clear σ β X
  refine then_normal ?_
  refine wp_cut (fun az W => ∃ L : List Int, ∃ u13_ : List Value, L.length = 512 ∧ az = ⟨#[.agg #[.int .i64 kp, .int .i64 lp, .slice Ap sp.length cp], .agg #[.int .i64 kA, .int .i64 lA, .slice A sa.length c], .agg #[.string S, .slice QA qs.length qc, .bool summed], .pointer (some ⟨B3_1, 0, none⟩), .pointer (some ⟨B4_1, 0, none⟩), .pointer (some ⟨B5_1, 0, none⟩), .bool false, .bool true, .pointer (some ⟨B8_3, 0, none⟩), .string S0, .int .i64 E0, .pointer (some ⟨B11_5, 0, none⟩), .pointer (some ⟨B12_6, 0, none⟩), .string S1, .int .i64 0, .slice ((some ⟨B68_12, 0, none⟩)) S1.size (S1.size + c68_12), (u13_.getD 0 undef), (u13_.getD 1 undef), undef, undef, undef, undef, .bool true, .agg #[.int .i64 kp, .int .i64 lp, .slice Ap sp.length cp], .agg #[.int .i64 kp, .int .i64 lp, .slice A24_3 RL.length c24_3], .tuple #[.string S0, .int .i64 E0], .agg #[.int .i64 kp, .int .i64 lp, .slice A24_3 RL.length c24_3], .tuple #[.string S0, .int .i64 E0], .string S0, .int .i64 E0, .agg #[.int .i64 kp, .int .i64 lp, .slice A24_3 RL.length c24_3], .agg #[.string S0, .int .i64 E0], .agg #[.int .i64 kA, .int .i64 lA, .slice A sa.length c], .agg #[.int .i64 k1, .int .i64 l1, .slice A33_6 I1.length c33_6], .agg #[.string S1, .int .i64 0], .tuple #[.string S1, .int .i64 0], .agg #[.int .i64 kA, .int .i64 lA, .slice A sa.length c], .agg #[.int .i64 k1, .int .i64 l1, .slice A37_7 I1.length c37_7], .tuple #[.string S1, .int .i64 0], .string S1, .int .i64 0, .string S0, .pointer (some ⟨B11_5, 0, none⟩), .string S0, .bool (!(S0.toList == S0.toList)), .bool false, .int .i64 E0, .pointer (some ⟨B11_5, 1, none⟩), .int .i64 E0, .bool (E0 != E0), .bool false, .bool false, .string S1, .pointer (some ⟨B12_6, 0, none⟩), .string S1, .bool (!(S1.toList == S1.toList)), .bool false, .bool false, .int .i64 0, .bool false, .bool false, .bool false, .pointer (some ⟨B12_6, 1, none⟩), .int .i64 0, .bool false, .bool false, .pointer (some ⟨B12_6, 0, none⟩), .string S1, .slice ((some ⟨B68_12, 0, none⟩)) S1.size (S1.size + c68_12), (u13_.getD 2 undef), (u13_.getD 3 undef), (u13_.getD 4 undef), (u13_.getD 5 undef), (u13_.getD 6 undef), (u13_.getD 7 undef), (u13_.getD 8 undef), (u13_.getD 9 undef), (u13_.getD 10 undef), (u13_.getD 11 undef), (u13_.getD 12 undef), (u13_.getD 13 undef), (u13_.getD 14 undef), (u13_.getD 15 undef), (u13_.getD 16 undef), (u13_.getD 17 undef), (u13_.getD 18 undef), (u13_.getD 19 undef), (u13_.getD 20 undef), (u13_.getD 21 undef), (u13_.getD 22 undef), (u13_.getD 23 undef), (u13_.getD 24 undef), (u13_.getD 25 undef), (u13_.getD 26 undef), (u13_.getD 27 undef), (u13_.getD 28 undef), (u13_.getD 29 undef), (u13_.getD 30 undef), (u13_.getD 31 undef), (u13_.getD 32 undef), (u13_.getD 33 undef), (u13_.getD 34 undef), (u13_.getD 35 undef), (u13_.getD 36 undef), undef, undef, undef, undef, undef, undef, undef, undef, undef, undef, undef, undef, undef, undef, undef, undef, undef, undef, undef, undef, undef, undef, undef, undef, undef, undef, undef, undef, undef, undef, undef, undef, undef, undef, undef, undef, undef, undef, undef, undef, undef, undef, undef, undef, undef, undef, undef, undef, undef, undef, undef, undef, undef, undef, undef, undef, undef, undef, undef], []⟩ ∧ St w [] [eB B3_1 26 #[.int .i64 kp, .int .i64 lp, .slice Ap sp.length cp], eB B4_1 24 #[.int .i64 kA, .int .i64 lA, .slice A sa.length c], eB B5_1 70 #[.string S, .slice QA qs.length qc, .bool summed], eO 9 1 (.slice A24_3 RL.length c24_3) RL.length (RL.map Value.string), eB B8_3 26 #[.int .i64 kp, .int .i64 lp, .slice A24_3 RL.length c24_3], eB B11_5 72 #[.string S0, .int .i64 E0], eO 9 1 (.slice A33_6 I1.length c33_6) I1.length (I1.map Value.string), eB B12_6 72 #[.string S1, .int .i64 0], eO 9 1 (.slice A37_7 I1.length c37_7) I1.length (I1.map Value.string), eW B68_12 5 L] W) ?_ ?_
  · skip
    refine wp_seq ?_
    refine wp_region_W (by kernel_rfl) [0] [[]] [[]] [[]] (fun ix σ β X => match ix with | 0 => σ 16 = .int .i64 0 | _ => True) [0, 1, 2, 3, 4, 5, 6, 7, 8, 9] (by kernel_rfl) (by kernel_rfl) (by kernel_rfl) (by kernel_rfl) ?_ hst12 ?_ ?_
    · exact fun ix _ _ _ _ _ _ hs hb hx h => match ix, h with
        | 0, h => (hs 16 rfl).symm.trans h
        | _ + 1, _ => trivial
    · refine ⟨trivial, ?_⟩
      · exact sv0 rfl rfl rfl rfl rfl (fun _ _ _ h => h) fun ρ β W X cx => run_assign' rfl (cx.sees.const _)
    intro σ β X W14 hD hX hst14 fr hfr
    have dD16 : σ 16 = _ := hD 0 lq
    have xX0 : X 0 = _ := hX 0 _ rfl
    have xX1 : X 1 = _ := hX 1 _ rfl
    have xX2 : X 2 = _ := hX 2 _ rfl
    have xX3 : X 3 = _ := hX 3 _ rfl
    have xX4 : X 4 = _ := hX 4 _ rfl
    have xX5 : X 5 = _ := hX 5 _ rfl
    have xX6 : X 6 = _ := hX 6 _ rfl
    have xX7 : X 7 = _ := hX 7 _ rfl
    have xX8 : X 8 = _ := hX 8 _ rfl
    have xX9 : X 9 = _ := hX 9 _ rfl
    simp only [List.map_cons, List.map_nil, xX0, xX1, xX2, xX3, xX4, xX5, xX6, xX7, xX8, xX9] at hst14
    rw [show dstsU _ = [16] by kernel_rfl] at hfr
    simp only [List.map_cons, List.map_nil, putAll, List.setIfInBounds_toArray, List.set_cons_succ, List.set_cons_zero, dD16] at hfr
    clear hX hD dD16 xX0 xX1 xX2 xX3 xX4 xX5 xX6 xX7 xX8 xX9
    subst hfr
    clear σ β X
    refine then_normal ?_
    refine wp_block ?_
    refine wp_loopN (fun mz az W => ∃ i : Nat, ∃ L : List Int, ∃ u15_ : List Value, L.length = 512 ∧ i ≤ 4 ∧ i ≤ qs.length ∧ mz = 4 - i ∧ az = ⟨#[.agg #[.int .i64 kp, .int .i64 lp, .slice Ap sp.length cp], .agg #[.int .i64 kA, .int .i64 lA, .slice A sa.length c], .agg #[.string S, .slice QA qs.length qc, .bool summed], .pointer (some ⟨B3_1, 0, none⟩), .pointer (some ⟨B4_1, 0, none⟩), .pointer (some ⟨B5_1, 0, none⟩), .bool false, .bool true, .pointer (some ⟨B8_3, 0, none⟩), .string S0, .int .i64 E0, .pointer (some ⟨B11_5, 0, none⟩), .pointer (some ⟨B12_6, 0, none⟩), .string S1, .int .i64 0, .slice ((some ⟨B68_12, 0, none⟩)) S1.size (S1.size + c68_12), .int .i64 ((i : Int)), (u15_.getD 0 undef), undef, undef, undef, undef, .bool true, .agg #[.int .i64 kp, .int .i64 lp, .slice Ap sp.length cp], .agg #[.int .i64 kp, .int .i64 lp, .slice A24_3 RL.length c24_3], .tuple #[.string S0, .int .i64 E0], .agg #[.int .i64 kp, .int .i64 lp, .slice A24_3 RL.length c24_3], .tuple #[.string S0, .int .i64 E0], .string S0, .int .i64 E0, .agg #[.int .i64 kp, .int .i64 lp, .slice A24_3 RL.length c24_3], .agg #[.string S0, .int .i64 E0], .agg #[.int .i64 kA, .int .i64 lA, .slice A sa.length c], .agg #[.int .i64 k1, .int .i64 l1, .slice A33_6 I1.length c33_6], .agg #[.string S1, .int .i64 0], .tuple #[.string S1, .int .i64 0], .agg #[.int .i64 kA, .int .i64 lA, .slice A sa.length c], .agg #[.int .i64 k1, .int .i64 l1, .slice A37_7 I1.length c37_7], .tuple #[.string S1, .int .i64 0], .string S1, .int .i64 0, .string S0, .pointer (some ⟨B11_5, 0, none⟩), .string S0, .bool (!(S0.toList == S0.toList)), .bool false, .int .i64 E0, .pointer (some ⟨B11_5, 1, none⟩), .int .i64 E0, .bool (E0 != E0), .bool false, .bool false, .string S1, .pointer (some ⟨B12_6, 0, none⟩), .string S1, .bool (!(S1.toList == S1.toList)), .bool false, .bool false, .int .i64 0, .bool false, .bool false, .bool false, .pointer (some ⟨B12_6, 1, none⟩), .int .i64 0, .bool false, .bool false, .pointer (some ⟨B12_6, 0, none⟩), .string S1, .slice ((some ⟨B68_12, 0, none⟩)) S1.size (S1.size + c68_12), (u15_.getD 1 undef), (u15_.getD 2 undef), (u15_.getD 3 undef), (u15_.getD 4 undef), (u15_.getD 5 undef), (u15_.getD 6 undef), (u15_.getD 7 undef), (u15_.getD 8 undef), (u15_.getD 9 undef), (u15_.getD 10 undef), (u15_.getD 11 undef), (u15_.getD 12 undef), (u15_.getD 13 undef), (u15_.getD 14 undef), (u15_.getD 15 undef), (u15_.getD 16 undef), (u15_.getD 17 undef), (u15_.getD 18 undef), (u15_.getD 19 undef), (u15_.getD 20 undef), (u15_.getD 21 undef), (u15_.getD 22 undef), (u15_.getD 23 undef), (u15_.getD 24 undef), (u15_.getD 25 undef), (u15_.getD 26 undef), (u15_.getD 27 undef), (u15_.getD 28 undef), (u15_.getD 29 undef), (u15_.getD 30 undef), (u15_.getD 31 undef), (u15_.getD 32 undef), (u15_.getD 33 undef), (u15_.getD 34 undef), (u15_.getD 35 undef), undef, undef, undef, undef, undef, undef, undef, undef, undef, undef, undef, undef, undef, undef, undef, undef, undef, undef, undef, undef, undef, undef, undef, undef, undef, undef, undef, undef, undef, undef, undef, undef, undef, undef, undef, undef, undef, undef, undef, undef, undef, undef, undef, undef, undef, undef, undef, undef, undef, undef, undef, undef, undef, undef, undef, undef, undef, undef, undef], []⟩ ∧ St w [] [eB B3_1 26 #[.int .i64 kp, .int .i64 lp, .slice Ap sp.length cp], eB B4_1 24 #[.int .i64 kA, .int .i64 lA, .slice A sa.length c], eB B5_1 70 #[.string S, .slice QA qs.length qc, .bool summed], eO 9 1 (.slice A24_3 RL.length c24_3) RL.length (RL.map Value.string), eB B8_3 26 #[.int .i64 kp, .int .i64 lp, .slice A24_3 RL.length c24_3], eB B11_5 72 #[.string S0, .int .i64 E0], eO 9 1 (.slice A33_6 I1.length c33_6) I1.length (I1.map Value.string), eB B12_6 72 #[.string S1, .int .i64 0], eO 9 1 (.slice A37_7 I1.length c37_7) I1.length (I1.map Value.string), eW B68_12 5 L] W) (4 - 0) ?_ ?_
    · -- the loop begins
      have hp16 := hst14.pick [0, 1, 2, 3, 4, 5, 6, 7, 8, 9] (by decide) rfl
      exact ⟨0, bI S1, [undef, undef, undef, undef, undef, undef, undef, undef, undef, undef, undef, undef, undef, undef, undef, undef, undef, undef, undef, undef, undef, undef, undef, undef, undef, undef, undef, undef, undef, undef, undef, undef, undef, undef, undef, undef], by rw [bI_len]; exact hsz1, by omega, by omega, rfl, rfl, hp16⟩
    · -- a round
      rintro n15 a15 W15 ⟨i, L, u15_, hL, hi4, hiq, rfl, rfl, hst15⟩
      refine wp_seq ?_
      refine wp_seq ?_
      rcases Bool.eq_false_or_eq_true (decide ((i : Int) < (qs.length : Int))) with hs18 | hs18
      · skip
        have hs18p : (i : Int) < (qs.length : Int) := by simpa using hs18
        refine wp_region_W (by kernel_rfl) [0, 0, 2, 6, 15, 31, 63, 127, 255] [[], [], [2], [], [], [], [], [], []] [[], [], [], [], [], [], [], [], []] [[], [], [], [], [], [], [], [], []] (fun ix σ β X => match ix with | 0 => σ 69 = .int .i64 ((i : Int)) | 1 => σ 70 = .pointer (some ⟨B5_1, 1, none⟩) | 2 => σ 71 = .slice QA qs.length qc | 3 => σ 72 = .int .i64 ((qs.length : Int)) | 4 => σ 73 = .bool (decide ((i : Int) < (qs.length : Int))) | 5 => σ 74 = .bool true | 6 => σ 75 = .int .i64 ((i : Int)) | 7 => σ 76 = .bool (decide ((i : Int) < 4)) | 8 => σ 77 = .bool (decide ((i : Int) < 4)) | _ => True) [0, 1, 2, 3, 4, 5, 6, 7, 8, 9] (by kernel_rfl) (by kernel_rfl) (by kernel_rfl) (by kernel_rfl) ?_ hst15 ?_ ?_
        · exact fun ix _ _ _ _ _ _ hs hb hx h => match ix, h with
            | 0, h => (hs 69 rfl).symm.trans h
            | 1, h => (hs 70 rfl).symm.trans h
            | 2, h => (hs 71 rfl).symm.trans h
            | 3, h => (hs 72 rfl).symm.trans h
            | 4, h => (hs 73 rfl).symm.trans h
            | 5, h => (hs 74 rfl).symm.trans h
            | 6, h => (hs 75 rfl).symm.trans h
            | 7, h => (hs 76 rfl).symm.trans h
            | 8, h => (hs 77 rfl).symm.trans h
            | _ + 9, _ => trivial
        · refine ⟨⟨⟨⟨⟨⟨⟨⟨⟨trivial, ?_⟩, ?_⟩, ?_⟩, ?_⟩, ?_⟩, ?_⟩, ?_⟩, ?_⟩, ?_⟩
          · exact sv0 rfl rfl rfl rfl rfl (fun _ _ _ h => h) fun ρ β W X cx => run_move' rfl (cx.out 16 rfl)
          · exact sv0 rfl rfl rfl rfl rfl (fun _ _ _ h => h) fun ρ β W X cx => run_fieldAddr' (k := 1) (n := 1) rfl (by kernel_rfl) (cx.out 5 rfl) rfl
          · exact sv0 rfl rfl rfl rfl rfl (fun _ _ _ h => h) fun ρ β W X cx => run_load1 rfl (by kernel_rfl) (cx.anc 1 rfl) ((cx.blk (cx.init 2 _ rfl) rfl).cell 1)
          · exact sv0 rfl rfl rfl rfl rfl (fun _ _ _ h => h) fun ρ β W X cx => run_len_l (e := 36) rfl (by kernel_rfl) (cx.anc 2 rfl)
          · exact sv0 rfl rfl rfl rfl rfl (fun _ _ _ h => h) fun ρ β W X cx => run_bin rfl (cx.anc 0 rfl) (cx.anc 3 rfl) rfl
          · exact sv0 rfl rfl rfl rfl rfl (fun _ _ _ h => h) fun ρ β W X cx => run_move' rfl (Eq.trans (cx.anc 4 rfl) (congrArg Value.bool hs18))
          · exact sv0_on rfl rfl rfl rfl rfl rfl (fun _ _ _ h => h) (fun _ _ _ _ cx => (cx.anc 5 rfl)) fun ρ β W X cx => run_move' rfl (cx.out 16 rfl)
          · exact sv0_on rfl rfl rfl rfl rfl rfl (fun _ _ _ h => h) (fun _ _ _ _ cx => (cx.anc 5 rfl)) fun ρ β W X cx => run_bin rfl (cx.anc 6 rfl) (cx.sees.const _) rfl
          · exact sv0 rfl rfl rfl rfl rfl (fun _ _ _ h => h) fun ρ β W X cx => run_pick_t rfl (cx.anc 5 rfl) (cx.anc 7 rfl)
        intro σ β X W19 hD hX hst19 fr hfr
        have dD69 : σ 69 = _ := hD 0 lq
        have dD70 : σ 70 = _ := hD 1 lq
        have dD71 : σ 71 = _ := hD 2 lq
        have dD72 : σ 72 = _ := hD 3 lq
        have dD73 : σ 73 = _ := hD 4 lq
        have dD74 : σ 74 = _ := hD 5 lq
        have dD75 : σ 75 = _ := hD 6 lq
        have dD76 : σ 76 = _ := hD 7 lq
        have dD77 : σ 77 = _ := hD 8 lq
        have xX0 : X 0 = _ := hX 0 _ rfl
        have xX1 : X 1 = _ := hX 1 _ rfl
        have xX2 : X 2 = _ := hX 2 _ rfl
        have xX3 : X 3 = _ := hX 3 _ rfl
        have xX4 : X 4 = _ := hX 4 _ rfl
        have xX5 : X 5 = _ := hX 5 _ rfl
        have xX6 : X 6 = _ := hX 6 _ rfl
        have xX7 : X 7 = _ := hX 7 _ rfl
        have xX8 : X 8 = _ := hX 8 _ rfl
        have xX9 : X 9 = _ := hX 9 _ rfl
        simp only [List.map_cons, List.map_nil, xX0, xX1, xX2, xX3, xX4, xX5, xX6, xX7, xX8, xX9] at hst19
        rw [show dstsU _ = [69, 70, 71, 72, 73, 74, 75, 76, 77] by kernel_rfl] at hfr
        simp only [List.map_cons, List.map_nil, putAll, List.setIfInBounds_toArray, List.set_cons_succ, List.set_cons_zero, dD69, dD70, dD71, dD72, dD73, dD74, dD75, dD76, dD77] at hfr
        clear hX hD dD69 dD70 dD71 dD72 dD73 dD74 dD75 dD76 dD77 xX0 xX1 xX2 xX3 xX4 xX5 xX6 xX7 xX8 xX9
        subst hfr
        clear σ β X
        refine then_normal ?_
        rcases Bool.eq_false_or_eq_true (decide ((i : Int) < 4)) with hs20 | hs20
        · skip
          have hs20p : (i : Int) < 4 := by simpa using hs20
          refine wp_cond_true (show Act.eval _ _ = .bool true from (congrArg Value.bool hs20)) ?_
          refine wp_skip ?_
          refine then_normal ?_
          refine wp_seq ?_
          refine wp_block ?_
          refine wp_seq ?_
          obtain ⟨tm, htm⟩ : ∃ z : Int, (qs.getD i ((0 : Int), (0 : Int))).1.tmod 512 = z := ⟨_, rfl⟩
          have tm1 : -512 < tm ∧ tm < 512 := by have h1 := Int.tmod_lt_of_pos (qs.getD i ((0 : Int), (0 : Int))).1 (show (0 : Int) < 512 by decide); have h2 := Int.lt_tmod_of_pos (qs.getD i ((0 : Int), (0 : Int))).1 (show (0 : Int) < 512 by decide); omega
          obtain ⟨kk, hkk, hkk2⟩ : ∃ z : Nat, (tm + 512) % 512 = (z : Int) ∧ z < 512 := ⟨((tm + 512) % 512).toNat, by omega, by omega⟩
          refine wp_region_W (by kernel_rfl) [0, 1, 0, 7, 15, 31, 63, 127, 255, 511] [[], [2], [], [], [], [], [], [], [], []] [[], [], [], [], [], [], [], [], [], []] [[], [], [], [], [], [], [], [], [], []] (fun ix σ β X => match ix with | 0 => σ 80 = .pointer (some ⟨B5_1, 1, none⟩) | 1 => σ 81 = .slice QA qs.length qc | 2 => σ 82 = .int .i64 ((i : Int)) | 3 => σ 83 = .pointer (some ((ad QA).add (i * 2))) | 4 => σ 84 = .pointer (some ((ad QA).add (i * 2 + 0 * 1))) | 5 => σ 85 = .int .i64 ((qs.getD i ((0 : Int), (0 : Int))).1) | 6 => σ 86 = .int .i64 tm | 7 => σ 87 = .int .i64 (tm + 512) | 8 => σ 88 = .int .i64 ((kk : Int)) | 9 => σ 17 = .int .i64 ((kk : Int)) | _ => True) [0, 1, 2, 3, 4, 5, 6, 7, 8, 9] (by kernel_rfl) (by kernel_rfl) (by kernel_rfl) (by kernel_rfl) ?_ hst19 ?_ ?_
          · exact fun ix _ _ _ _ _ _ hs hb hx h => match ix, h with
              | 0, h => (hs 80 rfl).symm.trans h
              | 1, h => (hs 81 rfl).symm.trans h
              | 2, h => (hs 82 rfl).symm.trans h
              | 3, h => (hs 83 rfl).symm.trans h
              | 4, h => (hs 84 rfl).symm.trans h
              | 5, h => (hs 85 rfl).symm.trans h
              | 6, h => (hs 86 rfl).symm.trans h
              | 7, h => (hs 87 rfl).symm.trans h
              | 8, h => (hs 88 rfl).symm.trans h
              | 9, h => (hs 17 rfl).symm.trans h
              | _ + 10, _ => trivial
          · refine ⟨⟨⟨⟨⟨⟨⟨⟨⟨⟨trivial, ?_⟩, ?_⟩, ?_⟩, ?_⟩, ?_⟩, ?_⟩, ?_⟩, ?_⟩, ?_⟩, ?_⟩
            · exact sv0 rfl rfl rfl rfl rfl (fun _ _ _ h => h) fun ρ β W X cx => run_fieldAddr' (k := 1) (n := 1) rfl (by kernel_rfl) (cx.out 5 rfl) rfl
            · exact sv0 rfl rfl rfl rfl rfl (fun _ _ _ h => h) fun ρ β W X cx => run_load1 rfl (by kernel_rfl) (cx.anc 0 rfl) ((cx.blk (cx.init 2 _ rfl) rfl).cell 1)
            · exact sv0 rfl rfl rfl rfl rfl (fun _ _ _ h => h) fun ρ β W X cx => run_move' rfl (cx.out 16 rfl)
            · exact sv0 rfl rfl rfl rfl rfl (fun _ _ _ h => h) fun ρ β W X cx => run_indexSlM (e := 36) (m := i) (sz := 2) rfl (by kernel_rfl) (by kernel_rfl) (cx.anc 1 rfl) (cx.anc 2 rfl) (by omega) (by omega) (HQ.out.ext cx.upd.to_ext) (by have h_ := flatLen (f := prI) (sz := 2) prI_len qs; show 0 < (List.flatMap prI qs).length; omega)
            · exact sv0 rfl rfl rfl rfl rfl (fun _ _ _ h => h) fun ρ β W X cx => run_indexArrA (n := 2) (sz := 1) (m := 0) rfl (by kernel_rfl) (cx.anc 3 rfl) (cx.sees.const _) (by omega) (by omega)
            · exact sv0 rfl rfl rfl rfl rfl (fun _ _ _ h => h) fun ρ β W X cx => run_load1 rfl (by kernel_rfl) (cx.anc 4 rfl) (At.eltc (f := prI) (k := 0) prI_len (HQ.out.ext cx.upd.to_ext) (getD_some (ts := qs) (m := i) ((0 : Int), (0 : Int)) (by omega)) rfl)
            · exact sv0 rfl rfl rfl rfl rfl (fun _ _ _ h => h) fun ρ β W X cx => (run_rem rfl (cx.anc 5 rfl) (cx.sees.const _) (by decide) htm)
            · exact sv0 rfl rfl rfl rfl rfl (fun _ _ _ h => h) fun ρ β W X cx => run_bin rfl (cx.anc 6 rfl) (cx.sees.const _) (congrArg (fun z => some (Value.int .i64 z)) ((IntWalk.i64_in _ (by omega)).trans (by omega)))
            · exact sv0 rfl rfl rfl rfl rfl (fun _ _ _ h => h) fun ρ β W X cx => (run_rem rfl (cx.anc 7 rfl) (cx.sees.const _) (by decide) ((Int.tmod_eq_emod_of_nonneg (by omega)).trans hkk))
            · exact sv0 rfl rfl rfl rfl rfl (fun _ _ _ h => h) fun ρ β W X cx => run_assign' rfl (cx.anc 8 rfl)
          intro σ β X W21 hD hX hst21 fr hfr
          have dD80 : σ 80 = _ := hD 0 lq
          have dD81 : σ 81 = _ := hD 1 lq
          have dD82 : σ 82 = _ := hD 2 lq
          have dD83 : σ 83 = _ := hD 3 lq
          have dD84 : σ 84 = _ := hD 4 lq
          have dD85 : σ 85 = _ := hD 5 lq
          have dD86 : σ 86 = _ := hD 6 lq
          have dD87 : σ 87 = _ := hD 7 lq
          have dD88 : σ 88 = _ := hD 8 lq
          have dD17 : σ 17 = _ := hD 9 lq
          have xX0 : X 0 = _ := hX 0 _ rfl
          have xX1 : X 1 = _ := hX 1 _ rfl
          have xX2 : X 2 = _ := hX 2 _ rfl
          have xX3 : X 3 = _ := hX 3 _ rfl
          have xX4 : X 4 = _ := hX 4 _ rfl
          have xX5 : X 5 = _ := hX 5 _ rfl
          have xX6 : X 6 = _ := hX 6 _ rfl
          have xX7 : X 7 = _ := hX 7 _ rfl
          have xX8 : X 8 = _ := hX 8 _ rfl
          have xX9 : X 9 = _ := hX 9 _ rfl
          simp only [List.map_cons, List.map_nil, xX0, xX1, xX2, xX3, xX4, xX5, xX6, xX7, xX8, xX9] at hst21
          rw [show dstsU _ = [80, 81, 82, 83, 84, 85, 86, 87, 88, 17] by kernel_rfl] at hfr
          simp only [List.map_cons, List.map_nil, putAll, List.setIfInBounds_toArray, List.set_cons_succ, List.set_cons_zero, dD80, dD81, dD82, dD83, dD84, dD85, dD86, dD87, dD88, dD17] at hfr
          clear hX hD dD80 dD81 dD82 dD83 dD84 dD85 dD86 dD87 dD88 dD17 xX0 xX1 xX2 xX3 xX4 xX5 xX6 xX7 xX8 xX9
          subst hfr
          clear σ β X
          refine then_normal ?_
          refine wp_region_W (by kernel_rfl) [0, 0, 0, 0, 12, 28, 0, 64, 0, 448, 960, 1984, 4032, 8188, 16383, 32767] [[], [], [], [], [], [9], [], [2], [], [], [], [], [], [], [], [9]] [[], [], [], [], [], [], [], [], [], [], [], [], [], [], [], [10]] [[], [], [], [], [], [], [], [], [], [], [], [], [], [], [], [9]] (fun ix σ β X => match ix with | 0 => σ 89 = .slice ((some ⟨B68_12, 0, none⟩)) S1.size (S1.size + c68_12) | 1 => σ 90 = .int .i64 ((kk : Int)) | 2 => σ 91 = .slice ((some ⟨B68_12, 0, none⟩)) S1.size (S1.size + c68_12) | 3 => σ 92 = .int .i64 ((kk : Int)) | 4 => σ 93 = .pointer (some ⟨B68_12, kk, none⟩) | 5 => σ 94 = .int .u8 (L.getD kk 0) | 6 => σ 95 = .pointer (some ⟨B5_1, 1, none⟩) | 7 => σ 96 = .slice QA qs.length qc | 8 => σ 97 = .int .i64 ((i : Int)) | 9 => σ 98 = .pointer (some ((ad QA).add (i * 2))) | 10 => σ 99 = .pointer (some ((ad QA).add (i * 2 + 1 * 1))) | 11 => σ 100 = .int .i64 ((qs.getD i ((0 : Int), (0 : Int))).2) | 12 => σ 101 = .int .u8 (IntKind.u8.wrap ((qs.getD i ((0 : Int), (0 : Int))).2)) | 13 => σ 102 = .int .u8 (xorI .u8 (L.getD kk 0) (IntKind.u8.wrap ((qs.getD i ((0 : Int), (0 : Int))).2))) | 14 => σ 103 = .pointer (some ⟨B68_12, kk, none⟩) | 15 => X 10 = eW B68_12 5 (L.set kk (xorI .u8 (L.getD kk 0) (IntKind.u8.wrap ((qs.getD i ((0 : Int), (0 : Int))).2)))) | _ => True) [0, 1, 2, 3, 4, 5, 6, 7, 8, 10] (by kernel_rfl) (by kernel_rfl) (by kernel_rfl) (by kernel_rfl) ?_ hst21 ?_ ?_
          · exact fun ix _ _ _ _ _ _ hs hb hx h => match ix, h with
              | 0, h => (hs 89 rfl).symm.trans h
              | 1, h => (hs 90 rfl).symm.trans h
              | 2, h => (hs 91 rfl).symm.trans h
              | 3, h => (hs 92 rfl).symm.trans h
              | 4, h => (hs 93 rfl).symm.trans h
              | 5, h => (hs 94 rfl).symm.trans h
              | 6, h => (hs 95 rfl).symm.trans h
              | 7, h => (hs 96 rfl).symm.trans h
              | 8, h => (hs 97 rfl).symm.trans h
              | 9, h => (hs 98 rfl).symm.trans h
              | 10, h => (hs 99 rfl).symm.trans h
              | 11, h => (hs 100 rfl).symm.trans h
              | 12, h => (hs 101 rfl).symm.trans h
              | 13, h => (hs 102 rfl).symm.trans h
              | 14, h => (hs 103 rfl).symm.trans h
              | 15, h => by dsimp only at h ⊢; rw [← hx 10 rfl]; exact h
              | _ + 16, _ => trivial
          · refine ⟨⟨⟨⟨⟨⟨⟨⟨⟨⟨⟨⟨⟨⟨⟨⟨trivial, ?_⟩, ?_⟩, ?_⟩, ?_⟩, ?_⟩, ?_⟩, ?_⟩, ?_⟩, ?_⟩, ?_⟩, ?_⟩, ?_⟩, ?_⟩, ?_⟩, ?_⟩, ?_⟩
            · exact sv0 rfl rfl rfl rfl rfl (fun _ _ _ h => h) fun ρ β W X cx => run_move' rfl (cx.out 15 rfl)
            · exact sv0 rfl rfl rfl rfl rfl (fun _ _ _ h => h) fun ρ β W X cx => run_move' rfl (cx.out 17 rfl)
            · exact sv0 rfl rfl rfl rfl rfl (fun _ _ _ h => h) fun ρ β W X cx => run_move' rfl (cx.out 15 rfl)
            · exact sv0 rfl rfl rfl rfl rfl (fun _ _ _ h => h) fun ρ β W X cx => run_move' rfl (cx.out 17 rfl)
            · exact sv0 rfl rfl rfl rfl rfl (fun _ _ _ h => h) fun ρ β W X cx => run_indexW (e := 5) (m := kk) rfl (by kernel_rfl) (by kernel_rfl) (cx.anc 2 rfl) (cx.anc 3 rfl) (by omega) (by omega)
            · exact sv0 rfl rfl rfl rfl rfl (fun _ _ _ h => h) fun ρ β W X cx => run_load1 rfl (by kernel_rfl) (cx.anc 4 rfl) (BRow.cell (cx.brow (cx.init 9 _ rfl) rfl) (by omega))
            · exact sv0 rfl rfl rfl rfl rfl (fun _ _ _ h => h) fun ρ β W X cx => run_fieldAddr' (k := 1) (n := 1) rfl (by kernel_rfl) (cx.out 5 rfl) rfl
            · exact sv0 rfl rfl rfl rfl rfl (fun _ _ _ h => h) fun ρ β W X cx => run_load1 rfl (by kernel_rfl) (cx.anc 6 rfl) ((cx.blk (cx.init 2 _ rfl) rfl).cell 1)
            · exact sv0 rfl rfl rfl rfl rfl (fun _ _ _ h => h) fun ρ β W X cx => run_move' rfl (cx.out 16 rfl)
            · exact sv0 rfl rfl rfl rfl rfl (fun _ _ _ h => h) fun ρ β W X cx => run_indexSlM (e := 36) (m := i) (sz := 2) rfl (by kernel_rfl) (by kernel_rfl) (cx.anc 7 rfl) (cx.anc 8 rfl) (by omega) (by omega) (HQ.out.ext cx.upd.to_ext) (by have h_ := flatLen (f := prI) (sz := 2) prI_len qs; show 0 < (List.flatMap prI qs).length; omega)
            · exact sv0 rfl rfl rfl rfl rfl (fun _ _ _ h => h) fun ρ β W X cx => run_indexArrA (n := 2) (sz := 1) (m := 1) rfl (by kernel_rfl) (cx.anc 9 rfl) (cx.sees.const _) (by omega) (by omega)
            · exact sv0 rfl rfl rfl rfl rfl (fun _ _ _ h => h) fun ρ β W X cx => run_load1 rfl (by kernel_rfl) (cx.anc 10 rfl) (At.eltc (f := prI) (k := 1) prI_len (HQ.out.ext cx.upd.to_ext) (getD_some (ts := qs) (m := i) ((0 : Int), (0 : Int)) (by omega)) rfl)
            · exact sv0 rfl rfl rfl rfl rfl (fun _ _ _ h => h) fun ρ β W X cx => run_convI rfl (by kernel_rfl) (by kernel_rfl) (cx.anc 11 rfl) (rfl)
            · exact sv0 rfl rfl rfl rfl rfl (fun _ _ _ h => h) fun ρ β W X cx => run_xor rfl (cx.anc 5 rfl) (cx.anc 12 rfl)
            · exact sv0 rfl rfl rfl rfl rfl (fun _ _ _ h => h) fun ρ β W X cx => run_indexW (e := 5) (m := kk) rfl (by kernel_rfl) (by kernel_rfl) (cx.anc 0 rfl) (cx.anc 1 rfl) (by omega) (by omega)
            · refine sv_any rfl rfl fun ρ β W X cx => ?_
              exact dv_storeW (e := 5) rfl (cx.anc 14 rfl) (cx.anc 13 rfl) (by kernel_rfl) cx (cx.init 9 _ rfl) rfl (by omega) rfl rfl rfl rfl (fun σ β' X' hs hb hx => hx)
          intro σ β X W22 hD hX hst22 fr hfr
          have dD89 : σ 89 = _ := hD 0 lq
          have dD90 : σ 90 = _ := hD 1 lq
          have dD91 : σ 91 = _ := hD 2 lq
          have dD92 : σ 92 = _ := hD 3 lq
          have dD93 : σ 93 = _ := hD 4 lq
          have dD94 : σ 94 = _ := hD 5 lq
          have dD95 : σ 95 = _ := hD 6 lq
          have dD96 : σ 96 = _ := hD 7 lq
          have dD97 : σ 97 = _ := hD 8 lq
          have dD98 : σ 98 = _ := hD 9 lq
          have dD99 : σ 99 = _ := hD 10 lq
          have dD100 : σ 100 = _ := hD 11 lq
          have dD101 : σ 101 = _ := hD 12 lq
          have dD102 : σ 102 = _ := hD 13 lq
          have dD103 : σ 103 = _ := hD 14 lq
          have xX0 : X 0 = _ := hX 0 _ rfl
          have xX1 : X 1 = _ := hX 1 _ rfl
          have xX2 : X 2 = _ := hX 2 _ rfl
          have xX3 : X 3 = _ := hX 3 _ rfl
          have xX4 : X 4 = _ := hX 4 _ rfl
          have xX5 : X 5 = _ := hX 5 _ rfl
          have xX6 : X 6 = _ := hX 6 _ rfl
          have xX7 : X 7 = _ := hX 7 _ rfl
          have xX8 : X 8 = _ := hX 8 _ rfl
          have xX10 : X 10 = _ := (hD 15 lq)
          simp only [List.map_cons, List.map_nil, xX0, xX1, xX2, xX3, xX4, xX5, xX6, xX7, xX8, xX10] at hst22
          rw [show dstsU _ = [89, 90, 91, 92, 93, 94, 95, 96, 97, 98, 99, 100, 101, 102, 103] by kernel_rfl] at hfr
          simp only [List.map_cons, List.map_nil, putAll, List.setIfInBounds_toArray, List.set_cons_succ, List.set_cons_zero, dD89, dD90, dD91, dD92, dD93, dD94, dD95, dD96, dD97, dD98, dD99, dD100, dD101, dD102, dD103] at hfr
          clear hX hD dD89 dD90 dD91 dD92 dD93 dD94 dD95 dD96 dD97 dD98 dD99 dD100 dD101 dD102 dD103 xX0 xX1 xX2 xX3 xX4 xX5 xX6 xX7 xX8 xX10
          subst hfr
          clear σ β X
          refine blk_normal ?_
          refine then_normal ?_
          refine wp_region_W (by kernel_rfl) [0, 1, 3] [[], [], []] [[], [], []] [[], [], []] (fun ix σ β X => match ix with | 0 => σ 78 = .int .i64 ((i : Int)) | 1 => σ 79 = .int .i64 ((i : Int) + 1) | 2 => σ 16 = .int .i64 ((i : Int) + 1) | _ => True) [0, 1, 2, 3, 4, 5, 6, 7, 8, 9] (by kernel_rfl) (by kernel_rfl) (by kernel_rfl) (by kernel_rfl) ?_ hst22 ?_ ?_
          · exact fun ix _ _ _ _ _ _ hs hb hx h => match ix, h with
              | 0, h => (hs 78 rfl).symm.trans h
              | 1, h => (hs 79 rfl).symm.trans h
              | 2, h => (hs 16 rfl).symm.trans h
              | _ + 3, _ => trivial
          · refine ⟨⟨⟨trivial, ?_⟩, ?_⟩, ?_⟩
            · exact sv0 rfl rfl rfl rfl rfl (fun _ _ _ h => h) fun ρ β W X cx => run_move' rfl (cx.out 16 rfl)
            · exact sv0 rfl rfl rfl rfl rfl (fun _ _ _ h => h) fun ρ β W X cx => run_bin rfl (cx.anc 0 rfl) (cx.sees.const _) (congrArg (fun z => some (Value.int .i64 z)) ((IntWalk.i64_in _ (by omega)).trans (by omega)))
            · exact sv0 rfl rfl rfl rfl rfl (fun _ _ _ h => h) fun ρ β W X cx => run_assign' rfl (cx.anc 1 rfl)
          intro σ β X W23 hD hX hst23 fr hfr
          have dD78 : σ 78 = _ := hD 0 lq
          have dD79 : σ 79 = _ := hD 1 lq
          have dD16 : σ 16 = _ := hD 2 lq
          have xX0 : X 0 = _ := hX 0 _ rfl
          have xX1 : X 1 = _ := hX 1 _ rfl
          have xX2 : X 2 = _ := hX 2 _ rfl
          have xX3 : X 3 = _ := hX 3 _ rfl
          have xX4 : X 4 = _ := hX 4 _ rfl
          have xX5 : X 5 = _ := hX 5 _ rfl
          have xX6 : X 6 = _ := hX 6 _ rfl
          have xX7 : X 7 = _ := hX 7 _ rfl
          have xX8 : X 8 = _ := hX 8 _ rfl
          have xX9 : X 9 = _ := hX 9 _ rfl
          simp only [List.map_cons, List.map_nil, xX0, xX1, xX2, xX3, xX4, xX5, xX6, xX7, xX8, xX9] at hst23
          rw [show dstsU _ = [78, 79, 16] by kernel_rfl] at hfr
          simp only [List.map_cons, List.map_nil, putAll, List.setIfInBounds_toArray, List.set_cons_succ, List.set_cons_zero, dD78, dD79, dD16] at hfr
          clear hX hD dD78 dD79 dD16 xX0 xX1 xX2 xX3 xX4 xX5 xX6 xX7 xX8 xX9
          subst hfr
          clear σ β X
          refine then_normal ?_
          refine ⟨4 - ((i + 1)), by omega, ?_⟩
          have hp24 := hst23.pick [0, 1, 2, 3, 4, 5, 6, 7, 8, 9] (by decide) rfl
          exact ⟨(i + 1), L.set kk (xorI .u8 (L.getD kk 0) (IntKind.u8.wrap ((qs.getD i ((0 : Int), (0 : Int))).2))), [.int .i64 ((kk : Int)), .int .i64 ((i : Int)), .pointer (some ⟨B5_1, 1, none⟩), .slice QA qs.length qc, .int .i64 ((qs.length : Int)), .bool (decide ((i : Int) < (qs.length : Int))), .bool true, .int .i64 ((i : Int)), .bool (decide ((i : Int) < 4)), .bool (decide ((i : Int) < 4)), .int .i64 ((i : Int)), .int .i64 ((i : Int) + 1), .pointer (some ⟨B5_1, 1, none⟩), .slice QA qs.length qc, .int .i64 ((i : Int)), .pointer (some ((ad QA).add (i * 2))), .pointer (some ((ad QA).add (i * 2 + 0 * 1))), .int .i64 ((qs.getD i ((0 : Int), (0 : Int))).1), .int .i64 tm, .int .i64 (tm + 512), .int .i64 ((kk : Int)), .slice ((some ⟨B68_12, 0, none⟩)) S1.size (S1.size + c68_12), .int .i64 ((kk : Int)), .slice ((some ⟨B68_12, 0, none⟩)) S1.size (S1.size + c68_12), .int .i64 ((kk : Int)), .pointer (some ⟨B68_12, kk, none⟩), .int .u8 (L.getD kk 0), .pointer (some ⟨B5_1, 1, none⟩), .slice QA qs.length qc, .int .i64 ((i : Int)), .pointer (some ((ad QA).add (i * 2))), .pointer (some ((ad QA).add (i * 2 + 1 * 1))), .int .i64 ((qs.getD i ((0 : Int), (0 : Int))).2), .int .u8 (IntKind.u8.wrap ((qs.getD i ((0 : Int), (0 : Int))).2)), .int .u8 (xorI .u8 (L.getD kk 0) (IntKind.u8.wrap ((qs.getD i ((0 : Int), (0 : Int))).2))), .pointer (some ⟨B68_12, kk, none⟩)], by rw [List.length_set]; exact hL, by omega, by omega, rfl, rfl, hp24⟩
        · skip
          have hs20p : ¬ ((i : Int) < 4) := by simpa using hs20
          refine wp_cond_false (show Act.eval _ _ = .bool false from (congrArg Value.bool hs20)) ?_
          refine wp_exit ?_
          refine then_exit ?_
          refine then_exit ?_
          refine blk_eq ?_
          refine then_normal ?_
          have hp25 := hst19.pick [0, 1, 2, 3, 4, 5, 6, 7, 8, 9] (by decide) rfl
          exact ⟨L, [.int .i64 ((i : Int)), (u15_.getD 0 undef), .int .i64 ((i : Int)), .pointer (some ⟨B5_1, 1, none⟩), .slice QA qs.length qc, .int .i64 ((qs.length : Int)), .bool (decide ((i : Int) < (qs.length : Int))), .bool true, .int .i64 ((i : Int)), .bool (decide ((i : Int) < 4)), .bool (decide ((i : Int) < 4)), (u15_.getD 10 undef), (u15_.getD 11 undef), (u15_.getD 12 undef), (u15_.getD 13 undef), (u15_.getD 14 undef), (u15_.getD 15 undef), (u15_.getD 16 undef), (u15_.getD 17 undef), (u15_.getD 18 undef), (u15_.getD 19 undef), (u15_.getD 20 undef), (u15_.getD 21 undef), (u15_.getD 22 undef), (u15_.getD 23 undef), (u15_.getD 24 undef), (u15_.getD 25 undef), (u15_.getD 26 undef), (u15_.getD 27 undef), (u15_.getD 28 undef), (u15_.getD 29 undef), (u15_.getD 30 undef), (u15_.getD 31 undef), (u15_.getD 32 undef), (u15_.getD 33 undef), (u15_.getD 34 undef), (u15_.getD 35 undef)], hL, rfl, hp25⟩
      · skip
        have hs18p : ¬ ((i : Int) < (qs.length : Int)) := by simpa using hs18
        refine wp_region_W (by kernel_rfl) [0, 0, 2, 6, 15, 31, 63, 127, 255] [[], [], [2], [], [], [], [], [], []] [[], [], [], [], [], [], [], [], []] [[], [], [], [], [], [], [], [], []] (fun ix σ β X => match ix with | 0 => σ 69 = .int .i64 ((i : Int)) | 1 => σ 70 = .pointer (some ⟨B5_1, 1, none⟩) | 2 => σ 71 = .slice QA qs.length qc | 3 => σ 72 = .int .i64 ((qs.length : Int)) | 4 => σ 73 = .bool (decide ((i : Int) < (qs.length : Int))) | 5 => σ 74 = .bool false | 6 => σ 75 = undef | 7 => σ 76 = undef | 8 => σ 77 = .bool false | _ => True) [0, 1, 2, 3, 4, 5, 6, 7, 8, 9] (by kernel_rfl) (by kernel_rfl) (by kernel_rfl) (by kernel_rfl) ?_ hst15 ?_ ?_
        · exact fun ix _ _ _ _ _ _ hs hb hx h => match ix, h with
            | 0, h => (hs 69 rfl).symm.trans h
            | 1, h => (hs 70 rfl).symm.trans h
            | 2, h => (hs 71 rfl).symm.trans h
            | 3, h => (hs 72 rfl).symm.trans h
            | 4, h => (hs 73 rfl).symm.trans h
            | 5, h => (hs 74 rfl).symm.trans h
            | 6, h => (hs 75 rfl).symm.trans h
            | 7, h => (hs 76 rfl).symm.trans h
            | 8, h => (hs 77 rfl).symm.trans h
            | _ + 9, _ => trivial
        · refine ⟨⟨⟨⟨⟨⟨⟨⟨⟨trivial, ?_⟩, ?_⟩, ?_⟩, ?_⟩, ?_⟩, ?_⟩, ?_⟩, ?_⟩, ?_⟩
          · exact sv0 rfl rfl rfl rfl rfl (fun _ _ _ h => h) fun ρ β W X cx => run_move' rfl (cx.out 16 rfl)
          · exact sv0 rfl rfl rfl rfl rfl (fun _ _ _ h => h) fun ρ β W X cx => run_fieldAddr' (k := 1) (n := 1) rfl (by kernel_rfl) (cx.out 5 rfl) rfl
          · exact sv0 rfl rfl rfl rfl rfl (fun _ _ _ h => h) fun ρ β W X cx => run_load1 rfl (by kernel_rfl) (cx.anc 1 rfl) ((cx.blk (cx.init 2 _ rfl) rfl).cell 1)
          · exact sv0 rfl rfl rfl rfl rfl (fun _ _ _ h => h) fun ρ β W X cx => run_len_l (e := 36) rfl (by kernel_rfl) (cx.anc 2 rfl)
          · exact sv0 rfl rfl rfl rfl rfl (fun _ _ _ h => h) fun ρ β W X cx => run_bin rfl (cx.anc 0 rfl) (cx.anc 3 rfl) rfl
          · exact sv0 rfl rfl rfl rfl rfl (fun _ _ _ h => h) fun ρ β W X cx => run_move' rfl (Eq.trans (cx.anc 4 rfl) (congrArg Value.bool hs18))
          · exact sv_off rfl rfl rfl (by decide) rfl rfl (fun _ _ _ h => h _ rfl) (fun _ _ _ _ cx => (cx.anc 5 rfl))
          · exact sv_off rfl rfl rfl (by decide) rfl rfl (fun _ _ _ h => h _ rfl) (fun _ _ _ _ cx => (cx.anc 5 rfl))
          · exact sv0 rfl rfl rfl rfl rfl (fun _ _ _ h => h) fun ρ β W X cx => run_pick_f rfl (cx.anc 5 rfl) (cx.sees.const _)
        intro σ β X W26 hD hX hst26 fr hfr
        have dD69 : σ 69 = _ := hD 0 lq
        have dD70 : σ 70 = _ := hD 1 lq
        have dD71 : σ 71 = _ := hD 2 lq
        have dD72 : σ 72 = _ := hD 3 lq
        have dD73 : σ 73 = _ := hD 4 lq
        have dD74 : σ 74 = _ := hD 5 lq
        have dD75 : σ 75 = _ := hD 6 lq
        have dD76 : σ 76 = _ := hD 7 lq
        have dD77 : σ 77 = _ := hD 8 lq
        have xX0 : X 0 = _ := hX 0 _ rfl
        have xX1 : X 1 = _ := hX 1 _ rfl
        have xX2 : X 2 = _ := hX 2 _ rfl
        have xX3 : X 3 = _ := hX 3 _ rfl
        have xX4 : X 4 = _ := hX 4 _ rfl
        have xX5 : X 5 = _ := hX 5 _ rfl
        have xX6 : X 6 = _ := hX 6 _ rfl
        have xX7 : X 7 = _ := hX 7 _ rfl
        have xX8 : X 8 = _ := hX 8 _ rfl
        have xX9 : X 9 = _ := hX 9 _ rfl
        simp only [List.map_cons, List.map_nil, xX0, xX1, xX2, xX3, xX4, xX5, xX6, xX7, xX8, xX9] at hst26
        rw [show dstsU _ = [69, 70, 71, 72, 73, 74, 75, 76, 77] by kernel_rfl] at hfr
        simp only [List.map_cons, List.map_nil, putAll, List.setIfInBounds_toArray, List.set_cons_succ, List.set_cons_zero, dD69, dD70, dD71, dD72, dD73, dD74, dD75, dD76, dD77] at hfr
        clear hX hD dD69 dD70 dD71 dD72 dD73 dD74 dD75 dD76 dD77 xX0 xX1 xX2 xX3 xX4 xX5 xX6 xX7 xX8 xX9
        subst hfr
        clear σ β X
        refine then_normal ?_
        refine wp_cond_false (show Act.eval _ _ = .bool false from rfl) ?_
        refine wp_exit ?_
        refine then_exit ?_
        refine then_exit ?_
        refine blk_eq ?_
        refine then_normal ?_
        have hp27 := hst26.pick [0, 1, 2, 3, 4, 5, 6, 7, 8, 9] (by decide) rfl
        exact ⟨L, [.int .i64 ((i : Int)), (u15_.getD 0 undef), .int .i64 ((i : Int)), .pointer (some ⟨B5_1, 1, none⟩), .slice QA qs.length qc, .int .i64 ((qs.length : Int)), .bool (decide ((i : Int) < (qs.length : Int))), .bool false, undef, undef, .bool false, (u15_.getD 10 undef), (u15_.getD 11 undef), (u15_.getD 12 undef), (u15_.getD 13 undef), (u15_.getD 14 undef), (u15_.getD 15 undef), (u15_.getD 16 undef), (u15_.getD 17 undef), (u15_.getD 18 undef), (u15_.getD 19 undef), (u15_.getD 20 undef), (u15_.getD 21 undef), (u15_.getD 22 undef), (u15_.getD 23 undef), (u15_.getD 24 undef), (u15_.getD 25 undef), (u15_.getD 26 undef), (u15_.getD 27 undef), (u15_.getD 28 undef), (u15_.getD 29 undef), (u15_.getD 30 undef), (u15_.getD 31 undef), (u15_.getD 32 undef), (u15_.getD 33 undef), (u15_.getD 34 undef), (u15_.getD 35 undef)], hL, rfl, hp27⟩
  · skip
    rintro a13 W13 ⟨L, u13_, hL, rfl, hst13⟩
    refine wp_cut (fun az W => ∃ L2 : List Int, ∃ u28_ : List Value, L2.length = 512 ∧ az = ⟨#[.agg #[.int .i64 kp, .int .i64 lp, .slice Ap sp.length cp], .agg #[.int .i64 kA, .int .i64 lA, .slice A sa.length c], .agg #[.string S, .slice QA qs.length qc, .bool summed], .pointer (some ⟨B3_1, 0, none⟩), .pointer (some ⟨B4_1, 0, none⟩), .pointer (some ⟨B5_1, 0, none⟩), .bool false, .bool true, .pointer (some ⟨B8_3, 0, none⟩), .string S0, .int .i64 E0, .pointer (some ⟨B11_5, 0, none⟩), .pointer (some ⟨B12_6, 0, none⟩), .string S1, .int .i64 0, .slice ((some ⟨B68_12, 0, none⟩)) S1.size (S1.size + c68_12), (u13_.getD 0 undef), (u13_.getD 1 undef), undef, undef, undef, undef, .bool true, .agg #[.int .i64 kp, .int .i64 lp, .slice Ap sp.length cp], .agg #[.int .i64 kp, .int .i64 lp, .slice A24_3 RL.length c24_3], .tuple #[.string S0, .int .i64 E0], .agg #[.int .i64 kp, .int .i64 lp, .slice A24_3 RL.length c24_3], .tuple #[.string S0, .int .i64 E0], .string S0, .int .i64 E0, .agg #[.int .i64 kp, .int .i64 lp, .slice A24_3 RL.length c24_3], .agg #[.string S0, .int .i64 E0], .agg #[.int .i64 kA, .int .i64 lA, .slice A sa.length c], .agg #[.int .i64 k1, .int .i64 l1, .slice A33_6 I1.length c33_6], .agg #[.string S1, .int .i64 0], .tuple #[.string S1, .int .i64 0], .agg #[.int .i64 kA, .int .i64 lA, .slice A sa.length c], .agg #[.int .i64 k1, .int .i64 l1, .slice A37_7 I1.length c37_7], .tuple #[.string S1, .int .i64 0], .string S1, .int .i64 0, .string S0, .pointer (some ⟨B11_5, 0, none⟩), .string S0, .bool (!(S0.toList == S0.toList)), .bool false, .int .i64 E0, .pointer (some ⟨B11_5, 1, none⟩), .int .i64 E0, .bool (E0 != E0), .bool false, .bool false, .string S1, .pointer (some ⟨B12_6, 0, none⟩), .string S1, .bool (!(S1.toList == S1.toList)), .bool false, .bool false, .int .i64 0, .bool false, .bool false, .bool false, .pointer (some ⟨B12_6, 1, none⟩), .int .i64 0, .bool false, .bool false, .pointer (some ⟨B12_6, 0, none⟩), .string S1, .slice ((some ⟨B68_12, 0, none⟩)) S1.size (S1.size + c68_12), (u13_.getD 2 undef), (u13_.getD 3 undef), (u13_.getD 4 undef), (u13_.getD 5 undef), (u13_.getD 6 undef), (u13_.getD 7 undef), (u13_.getD 8 undef), (u13_.getD 9 undef), (u13_.getD 10 undef), (u13_.getD 11 undef), (u13_.getD 12 undef), (u13_.getD 13 undef), (u13_.getD 14 undef), (u13_.getD 15 undef), (u13_.getD 16 undef), (u13_.getD 17 undef), (u13_.getD 18 undef), (u13_.getD 19 undef), (u13_.getD 20 undef), (u13_.getD 21 undef), (u13_.getD 22 undef), (u13_.getD 23 undef), (u13_.getD 24 undef), (u13_.getD 25 undef), (u13_.getD 26 undef), (u13_.getD 27 undef), (u13_.getD 28 undef), (u13_.getD 29 undef), (u13_.getD 30 undef), (u13_.getD 31 undef), (u13_.getD 32 undef), (u13_.getD 33 undef), (u13_.getD 34 undef), (u13_.getD 35 undef), (u13_.getD 36 undef), (u28_.getD 0 undef), (u28_.getD 1 undef), (u28_.getD 2 undef), (u28_.getD 3 undef), (u28_.getD 4 undef), (u28_.getD 5 undef), (u28_.getD 6 undef), (u28_.getD 7 undef), (u28_.getD 8 undef), (u28_.getD 9 undef), undef, undef, undef, undef, undef, undef, undef, undef, undef, undef, undef, undef, undef, undef, undef, undef, undef, undef, undef, undef, undef, undef, undef, undef, undef, undef, undef, undef, undef, undef, undef, undef, undef, undef, undef, undef, undef, undef, undef, undef, undef, undef, undef, undef, undef, undef, undef, undef, undef], []⟩ ∧ St w [] [eB B3_1 26 #[.int .i64 kp, .int .i64 lp, .slice Ap sp.length cp], eB B4_1 24 #[.int .i64 kA, .int .i64 lA, .slice A sa.length c], eB B5_1 70 #[.string S, .slice QA qs.length qc, .bool summed], eO 9 1 (.slice A24_3 RL.length c24_3) RL.length (RL.map Value.string), eB B8_3 26 #[.int .i64 kp, .int .i64 lp, .slice A24_3 RL.length c24_3], eB B11_5 72 #[.string S0, .int .i64 E0], eO 9 1 (.slice A33_6 I1.length c33_6) I1.length (I1.map Value.string), eB B12_6 72 #[.string S1, .int .i64 0], eO 9 1 (.slice A37_7 I1.length c37_7) I1.length (I1.map Value.string), eW B68_12 5 L2] W) ?_ ?_
    · skip
      refine wp_seq ?_
      refine wp_region_W (by kernel_rfl) [0, 1] [[], [2]] [[], []] [[], []] (fun ix σ β X => match ix with | 0 => σ 104 = .pointer (some ⟨B5_1, 2, none⟩) | 1 => σ 105 = .bool summed | _ => True) [0, 1, 2, 3, 4, 5, 6, 7, 8, 9] (by kernel_rfl) (by kernel_rfl) (by kernel_rfl) (by kernel_rfl) ?_ hst13 ?_ ?_
      · exact fun ix _ _ _ _ _ _ hs hb hx h => match ix, h with
          | 0, h => (hs 104 rfl).symm.trans h
          | 1, h => (hs 105 rfl).symm.trans h
          | _ + 2, _ => trivial
      · refine ⟨⟨trivial, ?_⟩, ?_⟩
        · exact sv0 rfl rfl rfl rfl rfl (fun _ _ _ h => h) fun ρ β W X cx => run_fieldAddr' (k := 2) (n := 2) rfl (by kernel_rfl) (cx.out 5 rfl) rfl
        · exact sv0 rfl rfl rfl rfl rfl (fun _ _ _ h => h) fun ρ β W X cx => run_load1 rfl (by kernel_rfl) (cx.anc 0 rfl) ((cx.blk (cx.init 2 _ rfl) rfl).cell 2)
      intro σ β X W29 hD hX hst29 fr hfr
      have dD104 : σ 104 = _ := hD 0 lq
      have dD105 : σ 105 = _ := hD 1 lq
      have xX0 : X 0 = _ := hX 0 _ rfl
      have xX1 : X 1 = _ := hX 1 _ rfl
      have xX2 : X 2 = _ := hX 2 _ rfl
      have xX3 : X 3 = _ := hX 3 _ rfl
      have xX4 : X 4 = _ := hX 4 _ rfl
      have xX5 : X 5 = _ := hX 5 _ rfl
      have xX6 : X 6 = _ := hX 6 _ rfl
      have xX7 : X 7 = _ := hX 7 _ rfl
      have xX8 : X 8 = _ := hX 8 _ rfl
      have xX9 : X 9 = _ := hX 9 _ rfl
      simp only [List.map_cons, List.map_nil, xX0, xX1, xX2, xX3, xX4, xX5, xX6, xX7, xX8, xX9] at hst29
      rw [show dstsU _ = [104, 105] by kernel_rfl] at hfr
      simp only [List.map_cons, List.map_nil, putAll, List.setIfInBounds_toArray, List.set_cons_succ, List.set_cons_zero, dD104, dD105] at hfr
      clear hX hD dD104 dD105 xX0 xX1 xX2 xX3 xX4 xX5 xX6 xX7 xX8 xX9
      subst hfr
      clear σ β X
      refine then_normal ?_
      rcases Bool.eq_false_or_eq_true (summed) with hs30 | hs30
      · skip
        refine wp_cond_true (show Act.eval _ _ = .bool true from (congrArg Value.bool hs30)) ?_
        obtain ⟨U, hU⟩ : ∃ z, strOfNums (L.drop 4) = z := ⟨_, rfl⟩
        have hus : U.size ≤ 9223372036854775807 := by subst hU; rw [strOfNums_size, List.length_drop]; omega
        have hsum : sumF U < 4294967296 := sumF_lt _
        have HU := Lib.hid (fun (w : World) => osum_any U w hus)
        obtain ⟨q, hq⟩ : ∃ z, z = sumF U := ⟨_, rfl⟩
        rw [← hq] at hsum HU
        have HV := Lib.hid (fun (w : World) => oput4_any (q : Int) w)
        have hps : (putS (q : Int) 4).size = 4 := putS_size _ 4 (by omega)
        clear hq
        refine wp_region_W (by kernel_rfl) [0, 0, 2, 6, 14, 30, 62, 127] [[], [], [], [9], [], [], [], [9]] [[], [], [], [], [], [], [], [10]] [[], [], [], [], [], [], [], [9]] (fun ix σ β X => match ix with | 0 => σ 106 = .slice ((some ⟨B68_12, 0, none⟩)) S1.size (S1.size + c68_12) | 1 => σ 107 = .slice ((some ⟨B68_12, 0, none⟩)) S1.size (S1.size + c68_12) | 2 => σ 108 = .slice ((some ⟨B68_12, 4, none⟩)) ((S1.size - 4)) ((S1.size + c68_12 - 4)) | 3 => σ 109 = .string U | 4 => σ 110 = .int .u32 ((q : Int)) | 5 => σ 111 = .int .i64 ((q : Int)) | 6 => σ 112 = .string (putS (q : Int) 4) | 7 => σ 113 = .int .i64 (((putS (q : Int) 4).size : Int)) ∧ X 10 = eW B68_12 5 (copL L (bI (putS (q : Int) 4))) | _ => True) [0, 1, 2, 3, 4, 5, 6, 7, 8, 10] (by kernel_rfl) (by kernel_rfl) (by kernel_rfl) (by kernel_rfl) ?_ hst29 ?_ ?_
        · exact fun ix _ _ _ _ _ _ hs hb hx h => match ix, h with
            | 0, h => (hs 106 rfl).symm.trans h
            | 1, h => (hs 107 rfl).symm.trans h
            | 2, h => (hs 108 rfl).symm.trans h
            | 3, h => (hs 109 rfl).symm.trans h
            | 4, h => (hs 110 rfl).symm.trans h
            | 5, h => (hs 111 rfl).symm.trans h
            | 6, h => (hs 112 rfl).symm.trans h
            | 7, h => by dsimp only at h ⊢; rw [← hs 113 rfl, ← hx 10 rfl]; exact h
            | _ + 8, _ => trivial
        · refine ⟨⟨⟨⟨⟨⟨⟨⟨trivial, ?_⟩, ?_⟩, ?_⟩, ?_⟩, ?_⟩, ?_⟩, ?_⟩, ?_⟩
          · exact sv0 rfl rfl rfl rfl rfl (fun _ _ _ h => h) fun ρ β W X cx => run_move' rfl (cx.out 15 rfl)
          · exact sv0 rfl rfl rfl rfl rfl (fun _ _ _ h => h) fun ρ β W X cx => run_move' rfl (cx.out 15 rfl)
          · exact sv0 rfl rfl rfl rfl rfl (fun _ _ _ h => h) fun ρ β W X cx => run_sliceW_lo (e := 5) (l := 4) rfl (by kernel_rfl) (by kernel_rfl) (cx.anc 1 rfl) (cx.sees.const _) (by omega) (by omega) (by omega)
          · exact sv0 rfl rfl rfl rfl rfl (fun _ _ _ h => h) fun ρ β W X cx => (by rw [← hU]; exact run_convW (e := 5) (l := 4) rfl (by kernel_rfl) (by kernel_rfl) (by kernel_rfl) (cx.anc 2 rfl) (cx.brow (cx.init 9 _ rfl) rfl) (by omega))
          · exact sv_call rfl rfl rfl rfl rfl (fun _ _ _ h => h) fun ρ β W X cx => ⟨_, _, run_callF (args := #[.string U]) rfl cx.sees rfl (by kernel_rfl) (map1 (cx.anc 3 rfl)), HU.out _⟩
          · exact sv0 rfl rfl rfl rfl rfl (fun _ _ _ h => h) fun ρ β W X cx => run_convI rfl (by kernel_rfl) (by kernel_rfl) (cx.anc 4 rfl) (IntWalk.i64_in _ (by omega))
          · exact sv_call rfl rfl rfl rfl rfl (fun _ _ _ h => h) fun ρ β W X cx => ⟨_, _, run_callF (args := #[.int .i64 ((q : Int)), .int .i64 4]) rfl cx.sees rfl (by kernel_rfl) (map2 (cx.anc 5 rfl) (cx.sees.const _)), HV.out _⟩
          · refine sv_any rfl rfl fun ρ β W X cx => ?_
            exact dv_copyW (e := 5) rfl (by kernel_rfl) (by kernel_rfl) (cx.anc 0 rfl) (cx.anc 6 rfl) cx (cx.init 9 _ rfl) rfl (by omega) (by omega) rfl rfl rfl (fun σ β' X' hs hb hv hx => ⟨hv 113 rfl, hx⟩)
        intro σ β X W31 hD hX hst31 fr hfr
        have dD106 : σ 106 = _ := hD 0 lq
        have dD107 : σ 107 = _ := hD 1 lq
        have dD108 : σ 108 = _ := hD 2 lq
        have dD109 : σ 109 = _ := hD 3 lq
        have dD110 : σ 110 = _ := hD 4 lq
        have dD111 : σ 111 = _ := hD 5 lq
        have dD112 : σ 112 = _ := hD 6 lq
        have dD113 : σ 113 = _ := (hD 7 lq).1
        have xX0 : X 0 = _ := hX 0 _ rfl
        have xX1 : X 1 = _ := hX 1 _ rfl
        have xX2 : X 2 = _ := hX 2 _ rfl
        have xX3 : X 3 = _ := hX 3 _ rfl
        have xX4 : X 4 = _ := hX 4 _ rfl
        have xX5 : X 5 = _ := hX 5 _ rfl
        have xX6 : X 6 = _ := hX 6 _ rfl
        have xX7 : X 7 = _ := hX 7 _ rfl
        have xX8 : X 8 = _ := hX 8 _ rfl
        have xX10 : X 10 = _ := (hD 7 lq).2
        simp only [List.map_cons, List.map_nil, xX0, xX1, xX2, xX3, xX4, xX5, xX6, xX7, xX8, xX10] at hst31
        rw [show dstsU _ = [106, 107, 108, 109, 110, 111, 112, 113] by kernel_rfl] at hfr
        simp only [List.map_cons, List.map_nil, putAll, List.setIfInBounds_toArray, List.set_cons_succ, List.set_cons_zero, dD106, dD107, dD108, dD109, dD110, dD111, dD112, dD113] at hfr
        clear hX hD dD106 dD107 dD108 dD109 dD110 dD111 dD112 dD113 xX0 xX1 xX2 xX3 xX4 xX5 xX6 xX7 xX8 xX10
        subst hfr
        clear σ β X
        refine then_normal ?_
        have hp32 := hst31.pick [0, 1, 2, 3, 4, 5, 6, 7, 8, 9] (by decide) rfl
        exact ⟨copL L (bI (putS (q : Int) 4)), [.pointer (some ⟨B5_1, 2, none⟩), .bool summed, .slice ((some ⟨B68_12, 0, none⟩)) S1.size (S1.size + c68_12), .slice ((some ⟨B68_12, 0, none⟩)) S1.size (S1.size + c68_12), .slice ((some ⟨B68_12, 4, none⟩)) ((S1.size - 4)) ((S1.size + c68_12 - 4)), .string U, .int .u32 ((q : Int)), .int .i64 ((q : Int)), .string (putS (q : Int) 4), .int .i64 (((putS (q : Int) 4).size : Int))], (by rw [copL_len (by rw [bI_len, hps]; omega)]; exact hL), rfl, hp32⟩
      · skip
        refine wp_cond_false (show Act.eval _ _ = .bool false from (congrArg Value.bool hs30)) ?_
        refine wp_skip ?_
        refine then_normal ?_
        have hp33 := hst29.pick [0, 1, 2, 3, 4, 5, 6, 7, 8, 9] (by decide) rfl
        exact ⟨L, [.pointer (some ⟨B5_1, 2, none⟩), .bool summed, undef, undef, undef, undef, undef, undef, undef, undef], hL, rfl, hp33⟩
    · skip
      rintro a28 W28 ⟨L2, u28_, hL2l, rfl, hst28⟩
      refine wp_seq ?_
      obtain ⟨cutn, hcutn, hcut1⟩ : ∃ z : Nat, min (S.size : Int) 600 = (z : Int) ∧ z ≤ S.size := ⟨min S.size 600, by omega, by omega⟩
      obtain ⟨cq, hcq, hcq1⟩ : ∃ z : Nat, ((qs.length : Int) * 37).tmod 512 = (z : Int) ∧ z < 512 := ⟨(qs.length * 37) % 512, by rw [Int.tmod_eq_emod_of_nonneg (by omega)]; omega, by omega⟩
      refine wp_region_W (by kernel_rfl) [0, 1, 0, 4, 12, 28, 63, 0, 128, 0, 512, 0, 2048, 0, 8192, 24576, 57344, 122880, 260096, 524287, 0, 2097151] [[], [2], [], [2], [], [], [], [], [7], [], [9], [], [7], [], [2], [], [], [], [], [], [], [10]] [[], [], [], [], [], [], [], [], [], [], [], [], [], [], [], [], [], [], [], [], [10], [11]] [[], [], [], [], [], [], [], [], [], [], [], [], [], [], [], [], [], [], [], [], [], [10]] (fun ix σ β X => match ix with | 0 => σ 114 = .pointer (some ⟨B5_1, 0, none⟩) | 1 => σ 115 = .string S | 2 => σ 116 = .pointer (some ⟨B5_1, 0, none⟩) | 3 => σ 117 = .string S | 4 => σ 118 = .int .i64 ((S.size : Int)) | 5 => σ 119 = .int .i64 ((cutn : Int)) | 6 => σ 120 = .string (S.extract 0 cutn) | 7 => σ 121 = .pointer (some ⟨B12_6, 0, none⟩) | 8 => σ 122 = .string S1 | 9 => σ 123 = .slice ((some ⟨B68_12, 0, none⟩)) S1.size (S1.size + c68_12) | 10 => σ 124 = .string (strOfNums L2) | 11 => σ 125 = .pointer (some ⟨B12_6, 0, none⟩) | 12 => σ 126 = .string S1 | 13 => σ 127 = .pointer (some ⟨B5_1, 1, none⟩) | 14 => σ 128 = .slice QA qs.length qc | 15 => σ 129 = .int .i64 ((qs.length : Int)) | 16 => σ 130 = .int .i64 ((qs.length : Int) * 37) | 17 => σ 131 = .int .i64 ((cq : Int)) | 18 => σ 132 = .string (S1.extract 0 cq) | 19 => σ 133 = .agg #[.string (S.extract 0 cutn), .string S1, .string (strOfNums L2), .string (S1.extract 0 cq)] | 20 => σ 18 = .pointer (some ⟨(pb (β 18)), 0, none⟩) ∧ X 10 = eB (pb (β 18)) 75 #[.string ByteArray.empty, .string ByteArray.empty, .string ByteArray.empty, .string ByteArray.empty] | 21 => X 11 = eB (pb (β 18)) 75 #[.string (S.extract 0 cutn), .string S1, .string (strOfNums L2), .string (S1.extract 0 cq)] | _ => True) [0, 1, 2, 3, 4, 5, 6, 7, 8, 9, 11] (by kernel_rfl) (by kernel_rfl) (by kernel_rfl) (by kernel_rfl) ?_ hst28 ?_ ?_
      · exact fun ix _ _ _ _ _ _ hs hb hx h => match ix, h with
          | 0, h => (hs 114 rfl).symm.trans h
          | 1, h => (hs 115 rfl).symm.trans h
          | 2, h => (hs 116 rfl).symm.trans h
          | 3, h => (hs 117 rfl).symm.trans h
          | 4, h => (hs 118 rfl).symm.trans h
          | 5, h => (hs 119 rfl).symm.trans h
          | 6, h => (hs 120 rfl).symm.trans h
          | 7, h => (hs 121 rfl).symm.trans h
          | 8, h => (hs 122 rfl).symm.trans h
          | 9, h => (hs 123 rfl).symm.trans h
          | 10, h => (hs 124 rfl).symm.trans h
          | 11, h => (hs 125 rfl).symm.trans h
          | 12, h => (hs 126 rfl).symm.trans h
          | 13, h => (hs 127 rfl).symm.trans h
          | 14, h => (hs 128 rfl).symm.trans h
          | 15, h => (hs 129 rfl).symm.trans h
          | 16, h => (hs 130 rfl).symm.trans h
          | 17, h => (hs 131 rfl).symm.trans h
          | 18, h => (hs 132 rfl).symm.trans h
          | 19, h => (hs 133 rfl).symm.trans h
          | 20, h => by dsimp only at h ⊢; rw [← hs 18 rfl, ← hb 18 rfl, ← hx 10 rfl]; exact h
          | 21, h => by dsimp only at h ⊢; rw [← hb 18 rfl, ← hx 11 rfl]; exact h
          | _ + 22, _ => trivial
      · refine ⟨⟨⟨⟨⟨⟨⟨⟨⟨⟨⟨⟨⟨⟨⟨⟨⟨⟨⟨⟨⟨⟨trivial, ?_⟩, ?_⟩, ?_⟩, ?_⟩, ?_⟩, ?_⟩, ?_⟩, ?_⟩, ?_⟩, ?_⟩, ?_⟩, ?_⟩, ?_⟩, ?_⟩, ?_⟩, ?_⟩, ?_⟩, ?_⟩, ?_⟩, ?_⟩, ?_⟩, ?_⟩
        · exact sv0 rfl rfl rfl rfl rfl (fun _ _ _ h => h) fun ρ β W X cx => run_fieldAddr' (k := 0) (n := 0) rfl (by kernel_rfl) (cx.out 5 rfl) rfl
        · exact sv0 rfl rfl rfl rfl rfl (fun _ _ _ h => h) fun ρ β W X cx => run_load1 rfl (by kernel_rfl) (cx.anc 0 rfl) ((cx.blk (cx.init 2 _ rfl) rfl).cell 0)
        · exact sv0 rfl rfl rfl rfl rfl (fun _ _ _ h => h) fun ρ β W X cx => run_fieldAddr' (k := 0) (n := 0) rfl (by kernel_rfl) (cx.out 5 rfl) rfl
        · exact sv0 rfl rfl rfl rfl rfl (fun _ _ _ h => h) fun ρ β W X cx => run_load1 rfl (by kernel_rfl) (cx.anc 2 rfl) ((cx.blk (cx.init 2 _ rfl) rfl).cell 0)
        · exact sv0 rfl rfl rfl rfl rfl (fun _ _ _ h => h) fun ρ β W X cx => run_len_s rfl (by kernel_rfl) (cx.anc 3 rfl)
        · exact sv0 rfl rfl rfl rfl rfl (fun _ _ _ h => h) fun ρ β W X cx => run_min2 rfl (cx.anc 4 rfl) (cx.sees.const _) (hcutn)
        · exact sv0 rfl rfl rfl rfl rfl (fun _ _ _ h => h) fun ρ β W X cx => run_slice_hi (l := cutn) rfl (by kernel_rfl) (cx.anc 1 rfl) (cx.anc 5 rfl) (by omega) (by omega)
        · exact sv0 rfl rfl rfl rfl rfl (fun _ _ _ h => h) fun ρ β W X cx => run_fieldAddr' (k := 0) (n := 0) rfl (by kernel_rfl) (cx.out 12 rfl) rfl
        · exact sv0 rfl rfl rfl rfl rfl (fun _ _ _ h => h) fun ρ β W X cx => run_load1 rfl (by kernel_rfl) (cx.anc 7 rfl) ((cx.blk (cx.init 7 _ rfl) rfl).cell 0)
        · exact sv0 rfl rfl rfl rfl rfl (fun _ _ _ h => h) fun ρ β W X cx => run_move' rfl (cx.out 15 rfl)
        · exact sv0 rfl rfl rfl rfl rfl (fun _ _ _ h => h) fun ρ β W X cx => (run_convW (e := 5) (l := 0) rfl (by kernel_rfl) (by kernel_rfl) (by kernel_rfl) (cx.anc 9 rfl) (cx.brow (cx.init 9 _ rfl) rfl) (by omega))
        · exact sv0 rfl rfl rfl rfl rfl (fun _ _ _ h => h) fun ρ β W X cx => run_fieldAddr' (k := 0) (n := 0) rfl (by kernel_rfl) (cx.out 12 rfl) rfl
        · exact sv0 rfl rfl rfl rfl rfl (fun _ _ _ h => h) fun ρ β W X cx => run_load1 rfl (by kernel_rfl) (cx.anc 11 rfl) ((cx.blk (cx.init 7 _ rfl) rfl).cell 0)
        · exact sv0 rfl rfl rfl rfl rfl (fun _ _ _ h => h) fun ρ β W X cx => run_fieldAddr' (k := 1) (n := 1) rfl (by kernel_rfl) (cx.out 5 rfl) rfl
        · exact sv0 rfl rfl rfl rfl rfl (fun _ _ _ h => h) fun ρ β W X cx => run_load1 rfl (by kernel_rfl) (cx.anc 13 rfl) ((cx.blk (cx.init 2 _ rfl) rfl).cell 1)
        · exact sv0 rfl rfl rfl rfl rfl (fun _ _ _ h => h) fun ρ β W X cx => run_len_l (e := 36) rfl (by kernel_rfl) (cx.anc 14 rfl)
        · exact sv0 rfl rfl rfl rfl rfl (fun _ _ _ h => h) fun ρ β W X cx => run_bin rfl (cx.anc 15 rfl) (cx.sees.const _) (congrArg (fun z => some (Value.int .i64 z)) ((IntWalk.i64_in _ (by omega)).trans (by omega)))
        · exact sv0 rfl rfl rfl rfl rfl (fun _ _ _ h => h) fun ρ β W X cx => (run_rem rfl (cx.anc 16 rfl) (cx.sees.const _) (by decide) hcq)
        · exact sv0 rfl rfl rfl rfl rfl (fun _ _ _ h => h) fun ρ β W X cx => run_slice_hi (l := cq) rfl (by kernel_rfl) (cx.anc 12 rfl) (cx.anc 17 rfl) (by omega) (by omega)
        · exact sv0 rfl rfl rfl rfl rfl (fun _ _ _ h => h) fun ρ β W X cx => by
            have fF120 : ρ (.tmp 120) = .string (S.extract 0 cutn) := (cx.anc 6 rfl)
            have fF122 : ρ (.tmp 122) = .string S1 := (cx.anc 8 rfl)
            have fF124 : ρ (.tmp 124) = .string (strOfNums L2) := (cx.anc 10 rfl)
            have fF132 : ρ (.tmp 132) = .string (S1.extract 0 cq) := (cx.anc 18 rfl)
            simp [go_sem, cx.sees.const, fF120, fF122, fF124, fF132] <;> rfl
        · refine sv_any rfl rfl fun ρ β W X cx => ?_
          exact dv_alloc (cs := #[.string ByteArray.empty, .string ByteArray.empty, .string ByteArray.empty, .string ByteArray.empty]) rfl (by kernel_rfl) rfl rfl (fun σ β' X' hs hb hv hx => ⟨hv, hx⟩)
        · refine sv_any rfl rfl fun ρ β W X cx => ?_
          exact dv_store (n := 4) rfl (cx.anc 20 rfl).1 (cx.anc 19 rfl) (by kernel_rfl) rfl rfl cx (cx.anc 20 rfl).2 rfl (Nat.le_of_ble_eq_true rfl) rfl rfl rfl rfl (fun σ β' X' hs hb hx => by rw [hb 18]; exact hx)
      intro σ β X W34 hD hX hst34 fr hfr
      obtain ⟨B18_34, hu_B18_34⟩ : ∃ z, pb (β 18) = z := ⟨_, rfl⟩
      have dD114 : σ 114 = _ := hD 0 lq
      have dD115 : σ 115 = _ := hD 1 lq
      have dD116 : σ 116 = _ := hD 2 lq
      have dD117 : σ 117 = _ := hD 3 lq
      have dD118 : σ 118 = _ := hD 4 lq
      have dD119 : σ 119 = _ := hD 5 lq
      have dD120 : σ 120 = _ := hD 6 lq
      have dD121 : σ 121 = _ := hD 7 lq
      have dD122 : σ 122 = _ := hD 8 lq
      have dD123 : σ 123 = _ := hD 9 lq
      have dD124 : σ 124 = _ := hD 10 lq
      have dD125 : σ 125 = _ := hD 11 lq
      have dD126 : σ 126 = _ := hD 12 lq
      have dD127 : σ 127 = _ := hD 13 lq
      have dD128 : σ 128 = _ := hD 14 lq
      have dD129 : σ 129 = _ := hD 15 lq
      have dD130 : σ 130 = _ := hD 16 lq
      have dD131 : σ 131 = _ := hD 17 lq
      have dD132 : σ 132 = _ := hD 18 lq
      have dD133 : σ 133 = _ := hD 19 lq
      have dD18 : σ 18 = _ := (hD 20 lq).1
      have xX0 : X 0 = _ := hX 0 _ rfl
      have xX1 : X 1 = _ := hX 1 _ rfl
      have xX2 : X 2 = _ := hX 2 _ rfl
      have xX3 : X 3 = _ := hX 3 _ rfl
      have xX4 : X 4 = _ := hX 4 _ rfl
      have xX5 : X 5 = _ := hX 5 _ rfl
      have xX6 : X 6 = _ := hX 6 _ rfl
      have xX7 : X 7 = _ := hX 7 _ rfl
      have xX8 : X 8 = _ := hX 8 _ rfl
      have xX9 : X 9 = _ := hX 9 _ rfl
      have xX11 : X 11 = _ := (hD 21 lq)
      simp only [List.map_cons, List.map_nil, xX0, xX1, xX2, xX3, xX4, xX5, xX6, xX7, xX8, xX9, xX11, hu_B18_34] at hst34
      rw [show dstsU _ = [114, 115, 116, 117, 118, 119, 120, 121, 122, 123, 124, 125, 126, 127, 128, 129, 130, 131, 132, 133, 18] by kernel_rfl] at hfr
      simp only [List.map_cons, List.map_nil, putAll, List.setIfInBounds_toArray, List.set_cons_succ, List.set_cons_zero, dD114, dD115, dD116, dD117, dD118, dD119, dD120, dD121, dD122, dD123, dD124, dD125, dD126, dD127, dD128, dD129, dD130, dD131, dD132, dD133, dD18, hu_B18_34] at hfr
      clear hX hD dD114 dD115 dD116 dD117 dD118 dD119 dD120 dD121 dD122 dD123 dD124 dD125 dD126 dD127 dD128 dD129 dD130 dD131 dD132 dD133 dD18 xX0 xX1 xX2 xX3 xX4 xX5 xX6 xX7 xX8 xX9 xX11 hu_B18_34
      subst hfr
      clear σ β X
      refine then_normal ?_
      refine wp_seq ?_
      refine wp_seq ?_
      refine wp_region_W (by kernel_rfl) [0] [[]] [[]] [[]] (fun ix σ β X => match ix with | 0 => σ 19 = .int .i64 0 | _ => True) [0, 1, 2, 3, 4, 5, 6, 7, 8, 9, 10] (by kernel_rfl) (by kernel_rfl) (by kernel_rfl) (by kernel_rfl) ?_ hst34 ?_ ?_
      · exact fun ix _ _ _ _ _ _ hs hb hx h => match ix, h with
          | 0, h => (hs 19 rfl).symm.trans h
          | _ + 1, _ => trivial
      · refine ⟨trivial, ?_⟩
        · exact sv0 rfl rfl rfl rfl rfl (fun _ _ _ h => h) fun ρ β W X cx => run_assign' rfl (cx.sees.const _)
      intro σ β X W35 hD hX hst35 fr hfr
      have dD19 : σ 19 = _ := hD 0 lq
      have xX0 : X 0 = _ := hX 0 _ rfl
      have xX1 : X 1 = _ := hX 1 _ rfl
      have xX2 : X 2 = _ := hX 2 _ rfl
      have xX3 : X 3 = _ := hX 3 _ rfl
      have xX4 : X 4 = _ := hX 4 _ rfl
      have xX5 : X 5 = _ := hX 5 _ rfl
      have xX6 : X 6 = _ := hX 6 _ rfl
      have xX7 : X 7 = _ := hX 7 _ rfl
      have xX8 : X 8 = _ := hX 8 _ rfl
      have xX9 : X 9 = _ := hX 9 _ rfl
      have xX10 : X 10 = _ := hX 10 _ rfl
      simp only [List.map_cons, List.map_nil, xX0, xX1, xX2, xX3, xX4, xX5, xX6, xX7, xX8, xX9, xX10] at hst35
      rw [show dstsU _ = [19] by kernel_rfl] at hfr
      simp only [List.map_cons, List.map_nil, putAll, List.setIfInBounds_toArray, List.set_cons_succ, List.set_cons_zero, dD19] at hfr
      clear hX hD dD19 xX0 xX1 xX2 xX3 xX4 xX5 xX6 xX7 xX8 xX9 xX10
      subst hfr
      clear σ β X
      refine then_normal ?_
      refine wp_block ?_
      refine wp_loopN (fun mz az W => ∃ m : Nat, ∃ u36_ : List Value, m ≤ 4 ∧ mz = 4 - m ∧ az = ⟨#[.agg #[.int .i64 kp, .int .i64 lp, .slice Ap sp.length cp], .agg #[.int .i64 kA, .int .i64 lA, .slice A sa.length c], .agg #[.string S, .slice QA qs.length qc, .bool summed], .pointer (some ⟨B3_1, 0, none⟩), .pointer (some ⟨B4_1, 0, none⟩), .pointer (some ⟨B5_1, 0, none⟩), (u36_.getD 0 undef), .bool true, .pointer (some ⟨B8_3, 0, none⟩), .string S0, .int .i64 E0, .pointer (some ⟨B11_5, 0, none⟩), .pointer (some ⟨B12_6, 0, none⟩), .string S1, .int .i64 0, .slice ((some ⟨B68_12, 0, none⟩)) S1.size (S1.size + c68_12), (u13_.getD 0 undef), (u13_.getD 1 undef), .pointer (some ⟨B18_34, 0, none⟩), .int .i64 ((m : Int)), (u36_.getD 1 undef), (u36_.getD 2 undef), .bool true, .agg #[.int .i64 kp, .int .i64 lp, .slice Ap sp.length cp], .agg #[.int .i64 kp, .int .i64 lp, .slice A24_3 RL.length c24_3], .tuple #[.string S0, .int .i64 E0], .agg #[.int .i64 kp, .int .i64 lp, .slice A24_3 RL.length c24_3], .tuple #[.string S0, .int .i64 E0], .string S0, .int .i64 E0, .agg #[.int .i64 kp, .int .i64 lp, .slice A24_3 RL.length c24_3], .agg #[.string S0, .int .i64 E0], .agg #[.int .i64 kA, .int .i64 lA, .slice A sa.length c], .agg #[.int .i64 k1, .int .i64 l1, .slice A33_6 I1.length c33_6], .agg #[.string S1, .int .i64 0], .tuple #[.string S1, .int .i64 0], .agg #[.int .i64 kA, .int .i64 lA, .slice A sa.length c], .agg #[.int .i64 k1, .int .i64 l1, .slice A37_7 I1.length c37_7], .tuple #[.string S1, .int .i64 0], .string S1, .int .i64 0, .string S0, .pointer (some ⟨B11_5, 0, none⟩), .string S0, .bool (!(S0.toList == S0.toList)), .bool false, .int .i64 E0, .pointer (some ⟨B11_5, 1, none⟩), .int .i64 E0, .bool (E0 != E0), .bool false, .bool false, .string S1, .pointer (some ⟨B12_6, 0, none⟩), .string S1, .bool (!(S1.toList == S1.toList)), .bool false, .bool false, .int .i64 0, .bool false, .bool false, .bool false, .pointer (some ⟨B12_6, 1, none⟩), .int .i64 0, .bool false, .bool false, .pointer (some ⟨B12_6, 0, none⟩), .string S1, .slice ((some ⟨B68_12, 0, none⟩)) S1.size (S1.size + c68_12), (u13_.getD 2 undef), (u13_.getD 3 undef), (u13_.getD 4 undef), (u13_.getD 5 undef), (u13_.getD 6 undef), (u13_.getD 7 undef), (u13_.getD 8 undef), (u13_.getD 9 undef), (u13_.getD 10 undef), (u13_.getD 11 undef), (u13_.getD 12 undef), (u13_.getD 13 undef), (u13_.getD 14 undef), (u13_.getD 15 undef), (u13_.getD 16 undef), (u13_.getD 17 undef), (u13_.getD 18 undef), (u13_.getD 19 undef), (u13_.getD 20 undef), (u13_.getD 21 undef), (u13_.getD 22 undef), (u13_.getD 23 undef), (u13_.getD 24 undef), (u13_.getD 25 undef), (u13_.getD 26 undef), (u13_.getD 27 undef), (u13_.getD 28 undef), (u13_.getD 29 undef), (u13_.getD 30 undef), (u13_.getD 31 undef), (u13_.getD 32 undef), (u13_.getD 33 undef), (u13_.getD 34 undef), (u13_.getD 35 undef), (u13_.getD 36 undef), (u28_.getD 0 undef), (u28_.getD 1 undef), (u28_.getD 2 undef), (u28_.getD 3 undef), (u28_.getD 4 undef), (u28_.getD 5 undef), (u28_.getD 6 undef), (u28_.getD 7 undef), (u28_.getD 8 undef), (u28_.getD 9 undef), .pointer (some ⟨B5_1, 0, none⟩), .string S, .pointer (some ⟨B5_1, 0, none⟩), .string S, .int .i64 ((S.size : Int)), .int .i64 ((cutn : Int)), .string (S.extract 0 cutn), .pointer (some ⟨B12_6, 0, none⟩), .string S1, .slice ((some ⟨B68_12, 0, none⟩)) S1.size (S1.size + c68_12), .string (strOfNums L2), .pointer (some ⟨B12_6, 0, none⟩), .string S1, .pointer (some ⟨B5_1, 1, none⟩), .slice QA qs.length qc, .int .i64 ((qs.length : Int)), .int .i64 ((qs.length : Int) * 37), .int .i64 ((cq : Int)), .string (S1.extract 0 cq), .agg #[.string (S.extract 0 cutn), .string S1, .string (strOfNums L2), .string (S1.extract 0 cq)], (u36_.getD 3 undef), (u36_.getD 4 undef), (u36_.getD 5 undef), (u36_.getD 6 undef), (u36_.getD 7 undef), (u36_.getD 8 undef), (u36_.getD 9 undef), (u36_.getD 10 undef), (u36_.getD 11 undef), (u36_.getD 12 undef), (u36_.getD 13 undef), (u36_.getD 14 undef), (u36_.getD 15 undef), (u36_.getD 16 undef), (u36_.getD 17 undef), (u36_.getD 18 undef), (u36_.getD 19 undef), (u36_.getD 20 undef), (u36_.getD 21 undef), undef, undef, undef, undef, undef, undef, undef, undef, undef, undef], []⟩ ∧ St w [] [eB B3_1 26 #[.int .i64 kp, .int .i64 lp, .slice Ap sp.length cp], eB B4_1 24 #[.int .i64 kA, .int .i64 lA, .slice A sa.length c], eB B5_1 70 #[.string S, .slice QA qs.length qc, .bool summed], eO 9 1 (.slice A24_3 RL.length c24_3) RL.length (RL.map Value.string), eB B8_3 26 #[.int .i64 kp, .int .i64 lp, .slice A24_3 RL.length c24_3], eB B11_5 72 #[.string S0, .int .i64 E0], eO 9 1 (.slice A33_6 I1.length c33_6) I1.length (I1.map Value.string), eB B12_6 72 #[.string S1, .int .i64 0], eO 9 1 (.slice A37_7 I1.length c37_7) I1.length (I1.map Value.string), eW B68_12 5 L2, eB B18_34 75 #[.string (S.extract 0 cutn), .string S1, .string (strOfNums L2), .string (S1.extract 0 cq)]] W) (4 - 0) ?_ ?_
      · -- the loop begins
        have hp37 := hst35.pick [0, 1, 2, 3, 4, 5, 6, 7, 8, 9, 10] (by decide) rfl
        exact ⟨0, [.bool false, undef, undef, undef, undef, undef, undef, undef, undef, undef, undef, undef, undef, undef, undef, undef, undef, undef, undef, undef, undef, undef], by omega, rfl, rfl, hp37⟩
      · -- a round
        rintro n36 a36 W36 ⟨m, u36_, hm4, rfl, rfl, hst36⟩
        refine wp_seq ?_
        refine wp_seq ?_
        refine wp_region_W (by kernel_rfl) [0, 1] [[], []] [[], []] [[], []] (fun ix σ β X => match ix with | 0 => σ 134 = .int .i64 ((m : Int)) | 1 => σ 135 = .bool (decide ((m : Int) < 4)) | _ => True) [0, 1, 2, 3, 4, 5, 6, 7, 8, 9, 10] (by kernel_rfl) (by kernel_rfl) (by kernel_rfl) (by kernel_rfl) ?_ hst36 ?_ ?_
        · exact fun ix _ _ _ _ _ _ hs hb hx h => match ix, h with
            | 0, h => (hs 134 rfl).symm.trans h
            | 1, h => (hs 135 rfl).symm.trans h
            | _ + 2, _ => trivial
        · refine ⟨⟨trivial, ?_⟩, ?_⟩
          · exact sv0 rfl rfl rfl rfl rfl (fun _ _ _ h => h) fun ρ β W X cx => run_move' rfl (cx.out 19 rfl)
          · exact sv0 rfl rfl rfl rfl rfl (fun _ _ _ h => h) fun ρ β W X cx => run_bin rfl (cx.anc 0 rfl) (cx.sees.const _) rfl
        intro σ β X W38 hD hX hst38 fr hfr
        have dD134 : σ 134 = _ := hD 0 lq
        have dD135 : σ 135 = _ := hD 1 lq
        have xX0 : X 0 = _ := hX 0 _ rfl
        have xX1 : X 1 = _ := hX 1 _ rfl
        have xX2 : X 2 = _ := hX 2 _ rfl
        have xX3 : X 3 = _ := hX 3 _ rfl
        have xX4 : X 4 = _ := hX 4 _ rfl
        have xX5 : X 5 = _ := hX 5 _ rfl
        have xX6 : X 6 = _ := hX 6 _ rfl
        have xX7 : X 7 = _ := hX 7 _ rfl
        have xX8 : X 8 = _ := hX 8 _ rfl
        have xX9 : X 9 = _ := hX 9 _ rfl
        have xX10 : X 10 = _ := hX 10 _ rfl
        simp only [List.map_cons, List.map_nil, xX0, xX1, xX2, xX3, xX4, xX5, xX6, xX7, xX8, xX9, xX10] at hst38
        rw [show dstsU _ = [134, 135] by kernel_rfl] at hfr
        simp only [List.map_cons, List.map_nil, putAll, List.setIfInBounds_toArray, List.set_cons_succ, List.set_cons_zero, dD134, dD135] at hfr
        clear hX hD dD134 dD135 xX0 xX1 xX2 xX3 xX4 xX5 xX6 xX7 xX8 xX9 xX10
        subst hfr
        clear σ β X
        refine then_normal ?_
        rcases Bool.eq_false_or_eq_true (decide ((m : Int) < 4)) with hs39 | hs39
        · skip
          have hs39p : (m : Int) < 4 := by simpa using hs39
          refine wp_cond_true (show Act.eval _ _ = .bool true from (congrArg Value.bool hs39)) ?_
          refine wp_skip ?_
          refine then_normal ?_
          refine wp_seq ?_
          refine wp_block ?_
          refine wp_seq ?_
          obtain ⟨T, hT⟩ : ∃ z, ([S.extract 0 cutn, S1, strOfNums L2, S1.extract 0 cq] : List ByteArray).getD m ByteArray.empty = z := ⟨_, rfl⟩
          have hTs : T.size ≤ 9223372036854775807 := by
            subst hT
            have h1 : (S.extract 0 cutn).size ≤ S.size := by rw [ByteArray.size_extract]; omega
            have h2 : (S1.extract 0 cq).size ≤ S1.size := by rw [ByteArray.size_extract]; omega
            have h3 : (strOfNums L2).size = 512 := by rw [strOfNums_size]; exact hL2l
            match m, hm4 with
            | 0, _ => exact Nat.le_trans h1 hS
            | 1, _ => show S1.size ≤ _; omega
            | 2, _ => show (strOfNums L2).size ≤ _; omega
            | 3, _ => show (S1.extract 0 cq).size ≤ _; omega
            | m + 4, _ => show (ByteArray.empty).size ≤ _; decide
          obtain ⟨kT, lT, IT, eT, hIT, hx1, hx2⟩ := read_both T hTs
          have HX := Lib.hid hx1
          have HY := Lib.hid hx2
          clear hx1 hx2
          refine wp_region_W (by kernel_rfl) [0, 1, 3, 7, 15, 31, 31, 0, 191, 511] [[], [], [10], [], [], [], [], [], [12], []] [[], [], [], [11], [], [], [], [12], [13], []] [[], [], [], [], [], [], [], [], [12], []] (fun ix σ β X => match ix with | 0 => σ 139 = .int .i64 ((m : Int)) | 1 => σ 140 = .pointer (some ⟨B18_34, m, none⟩) | 2 => σ 141 = .string T | 3 => σ 142 = .tuple #[.agg #[.int .i64 kT, .int .i64 lT, .slice (sA (tg (tg (β 142) 0) 2)) IT.length (sC (tg (tg (β 142) 0) 2))], .int .i64 eT] ∧ X 11 = eO 9 1 (.slice (sA (tg (tg (β 142) 0) 2)) IT.length (sC (tg (tg (β 142) 0) 2))) IT.length (IT.map Value.string) | 4 => σ 138 = .tuple #[.agg #[.int .i64 kT, .int .i64 lT, .slice (sA (tg (tg (β 142) 0) 2)) IT.length (sC (tg (tg (β 142) 0) 2))], .int .i64 eT] | 5 => σ 143 = .agg #[.int .i64 kT, .int .i64 lT, .slice (sA (tg (tg (β 142) 0) 2)) IT.length (sC (tg (tg (β 142) 0) 2))] | 6 => σ 144 = .int .i64 eT | 7 => σ 20 = .pointer (some ⟨(pb (β 20)), 0, none⟩) ∧ X 12 = eB (pb (β 20)) 26 #[.int .i64 0, .int .i64 0, .slice none 0 0] | 8 => X 13 = eB (pb (β 20)) 26 #[.int .i64 kT, .int .i64 lT, .slice (sA (tg (tg (β 142) 0) 2)) IT.length (sC (tg (tg (β 142) 0) 2))] | 9 => σ 21 = .int .i64 eT | _ => True) [0, 1, 2, 3, 4, 5, 6, 7, 8, 9, 10, 11, 13] (by kernel_rfl) (by kernel_rfl) (by kernel_rfl) (by kernel_rfl) ?_ hst38 ?_ ?_
          · exact fun ix _ _ _ _ _ _ hs hb hx h => match ix, h with
              | 0, h => (hs 139 rfl).symm.trans h
              | 1, h => (hs 140 rfl).symm.trans h
              | 2, h => (hs 141 rfl).symm.trans h
              | 3, h => by dsimp only at h ⊢; rw [← hs 142 rfl, ← hb 142 rfl, ← hx 11 rfl]; exact h
              | 4, h => by dsimp only at h ⊢; rw [← hs 138 rfl, ← hb 142 rfl]; exact h
              | 5, h => by dsimp only at h ⊢; rw [← hs 143 rfl, ← hb 142 rfl]; exact h
              | 6, h => (hs 144 rfl).symm.trans h
              | 7, h => by dsimp only at h ⊢; rw [← hs 20 rfl, ← hb 20 rfl, ← hx 12 rfl]; exact h
              | 8, h => by dsimp only at h ⊢; rw [← hb 20 rfl, ← hb 142 rfl, ← hx 13 rfl]; exact h
              | 9, h => (hs 21 rfl).symm.trans h
              | _ + 10, _ => trivial
          · refine ⟨⟨⟨⟨⟨⟨⟨⟨⟨⟨trivial, ?_⟩, ?_⟩, ?_⟩, ?_⟩, ?_⟩, ?_⟩, ?_⟩, ?_⟩, ?_⟩, ?_⟩
            · exact sv0 rfl rfl rfl rfl rfl (fun _ _ _ h => h) fun ρ β W X cx => run_move' rfl (cx.out 19 rfl)
            · exact sv0 rfl rfl rfl rfl rfl (fun _ _ _ h => h) fun ρ β W X cx => run_indexArrB (n := 4) (sz := 1) (m := m) (q := m) rfl (by kernel_rfl) (cx.out 18 rfl) (cx.anc 0 rfl) (by omega) (by omega) (by omega)
            · exact sv0 rfl rfl rfl rfl rfl (fun _ _ _ h => h) fun ρ β W X cx => (by rw [← hT]; exact run_load1 rfl (by kernel_rfl) (cx.anc 1 rfl) (((cx.blk (cx.init 10 _ rfl) rfl).cell m).trans (arr_str (l := [S.extract 0 cutn, S1, strOfNums L2, S1.extract 0 cq]) (by simp only [List.length_cons, List.length_nil]; omega))))
            · refine sv_any rfl rfl fun ρ β W X cx => ?_
              refine DoesU.call (run_callF (args := #[.string T]) rfl cx.sees rfl (by kernel_rfl) (map1 (cx.anc 2 rfl))) ?_
              refine (HX.out _).mono ?_
              rintro e W1 ⟨A4, c4, rfl, ho, hx⟩
              refine ⟨_, rfl, post_call [eO 9 1 (.slice A4 IT.length c4) IT.length (IT.map Value.string)] rfl rfl hx (one_new (eO_new ho)) (List.pairwise_singleton _ _) (fun σ β' X' hs hb hv hN => ?_)⟩
              have hv1 := (hv 142 rfl).1; have hv2 := (hv 142 rfl).2
              exact ⟨hv1.trans (by rw [hv2]; rfl), (by rw [hv2]; exact (List.cons.inj hN).1)⟩
            · exact sv rfl rfl rfl rfl rfl _ (fun _ _ _ h => h) (fun β β' h => by rw [h 142 (by decide)]) fun ρ β W X cx => run_move' rfl (cx.anc 3 rfl).1
            · exact sv rfl rfl rfl rfl rfl _ (fun _ _ _ h => h) (fun β β' h => by rw [h 142 (by decide)]) fun ρ β W X cx => run_extract' rfl (cx.anc 4 rfl) rfl
            · exact sv0 rfl rfl rfl rfl rfl (fun _ _ _ h => h) fun ρ β W X cx => run_extract' rfl (cx.anc 4 rfl) rfl
            · refine sv_any rfl rfl fun ρ β W X cx => ?_
              exact dv_alloc (cs := #[.int .i64 0, .int .i64 0, .slice none 0 0]) rfl (by kernel_rfl) rfl rfl (fun σ β' X' hs hb hv hx => ⟨hv, hx⟩)
            · refine sv_any rfl rfl fun ρ β W X cx => ?_
              exact dv_store (n := 3) rfl (cx.anc 7 rfl).1 (cx.anc 5 rfl) (by kernel_rfl) rfl rfl cx (cx.anc 7 rfl).2 rfl (Nat.le_of_ble_eq_true rfl) rfl rfl rfl rfl (fun σ β' X' hs hb hx => by rw [hb 20, hb 142]; exact hx)
            · exact sv0 rfl rfl rfl rfl rfl (fun _ _ _ h => h) fun ρ β W X cx => run_assign' rfl (cx.anc 6 rfl)
          intro σ β X W40 hD hX hst40 fr hfr
          obtain ⟨A142_40, hu_A142_40⟩ : ∃ z, sA (tg (tg (β 142) 0) 2) = z := ⟨_, rfl⟩
          obtain ⟨c142_40, hu_c142_40⟩ : ∃ z, sC (tg (tg (β 142) 0) 2) = z := ⟨_, rfl⟩
          obtain ⟨B20_40, hu_B20_40⟩ : ∃ z, pb (β 20) = z := ⟨_, rfl⟩
          have dD139 : σ 139 = _ := hD 0 lq
          have dD140 : σ 140 = _ := hD 1 lq
          have dD141 : σ 141 = _ := hD 2 lq
          have dD142 : σ 142 = _ := (hD 3 lq).1
          have dD138 : σ 138 = _ := hD 4 lq
          have dD143 : σ 143 = _ := hD 5 lq
          have dD144 : σ 144 = _ := hD 6 lq
          have dD20 : σ 20 = _ := (hD 7 lq).1
          have dD21 : σ 21 = _ := hD 9 lq
          have xX0 : X 0 = _ := hX 0 _ rfl
          have xX1 : X 1 = _ := hX 1 _ rfl
          have xX2 : X 2 = _ := hX 2 _ rfl
          have xX3 : X 3 = _ := hX 3 _ rfl
          have xX4 : X 4 = _ := hX 4 _ rfl
          have xX5 : X 5 = _ := hX 5 _ rfl
          have xX6 : X 6 = _ := hX 6 _ rfl
          have xX7 : X 7 = _ := hX 7 _ rfl
          have xX8 : X 8 = _ := hX 8 _ rfl
          have xX9 : X 9 = _ := hX 9 _ rfl
          have xX10 : X 10 = _ := hX 10 _ rfl
          have xX11 : X 11 = _ := (hD 3 lq).2
          have xX13 : X 13 = _ := (hD 8 lq)
          simp only [List.map_cons, List.map_nil, xX0, xX1, xX2, xX3, xX4, xX5, xX6, xX7, xX8, xX9, xX10, xX11, xX13, hu_A142_40, hu_c142_40, hu_B20_40] at hst40
          rw [show dstsU _ = [139, 140, 141, 142, 138, 143, 144, 20, 21] by kernel_rfl] at hfr
          simp only [List.map_cons, List.map_nil, putAll, List.setIfInBounds_toArray, List.set_cons_succ, List.set_cons_zero, dD139, dD140, dD141, dD142, dD138, dD143, dD144, dD20, dD21, hu_A142_40, hu_c142_40, hu_B20_40] at hfr
          clear hX hD dD139 dD140 dD141 dD142 dD138 dD143 dD144 dD20 dD21 xX0 xX1 xX2 xX3 xX4 xX5 xX6 xX7 xX8 xX9 xX10 xX11 xX13 hu_A142_40 hu_c142_40 hu_B20_40
          subst hfr
          clear σ β X
          refine then_normal ?_
          refine wp_seq ?_
          refine wp_region_W (by kernel_rfl) [0, 0, 0, 4, 12, 28, 63, 127] [[12], [], [], [], [10], [], [11, 13], []] [[], [], [], [], [], [13], [], []] [[], [], [], [], [], [], [], []] (fun ix σ β X => match ix with | 0 => σ 145 = .agg #[.int .i64 kT, .int .i64 lT, .slice A142_40 IT.length c142_40] | 1 => σ 146 = .int .i64 eT | 2 => σ 147 = .int .i64 ((m : Int)) | 3 => σ 148 = .pointer (some ⟨B18_34, m, none⟩) | 4 => σ 149 = .string T | 5 => σ 150 = .agg #[.int .i64 kT, .int .i64 lT, .slice (sA (tg (β 150) 2)) IT.length (sC (tg (β 150) 2)), .int .i64 eT] ∧ X 13 = eO 9 1 (.slice (sA (tg (β 150) 2)) IT.length (sC (tg (β 150) 2))) IT.length (IT.map Value.string) | 6 => σ 151 = .bool true | 7 => σ 152 = .bool false | _ => True) [0, 1, 2, 3, 4, 5, 6, 7, 8, 9, 10, 11, 12, 13] (by kernel_rfl) (by kernel_rfl) (by kernel_rfl) (by kernel_rfl) ?_ hst40 ?_ ?_
          · exact fun ix _ _ _ _ _ _ hs hb hx h => match ix, h with
              | 0, h => (hs 145 rfl).symm.trans h
              | 1, h => (hs 146 rfl).symm.trans h
              | 2, h => (hs 147 rfl).symm.trans h
              | 3, h => (hs 148 rfl).symm.trans h
              | 4, h => (hs 149 rfl).symm.trans h
              | 5, h => by dsimp only at h ⊢; rw [← hs 150 rfl, ← hb 150 rfl, ← hx 13 rfl]; exact h
              | 6, h => (hs 151 rfl).symm.trans h
              | 7, h => (hs 152 rfl).symm.trans h
              | _ + 8, _ => trivial
          · refine ⟨⟨⟨⟨⟨⟨⟨⟨trivial, ?_⟩, ?_⟩, ?_⟩, ?_⟩, ?_⟩, ?_⟩, ?_⟩, ?_⟩
            · exact sv0 rfl rfl rfl rfl rfl (fun _ _ _ h => h) fun ρ β W X cx => run_loadB (n := 3) rfl (by kernel_rfl) (by kernel_rfl) (cx.out 20 rfl) (cx.blk (cx.init 12 _ rfl) rfl) (Nat.le_of_ble_eq_true rfl) rfl
            · exact sv0 rfl rfl rfl rfl rfl (fun _ _ _ h => h) fun ρ β W X cx => run_move' rfl (cx.out 21 rfl)
            · exact sv0 rfl rfl rfl rfl rfl (fun _ _ _ h => h) fun ρ β W X cx => run_move' rfl (cx.out 19 rfl)
            · exact sv0 rfl rfl rfl rfl rfl (fun _ _ _ h => h) fun ρ β W X cx => run_indexArrB (n := 4) (sz := 1) (m := m) (q := m) rfl (by kernel_rfl) (cx.out 18 rfl) (cx.anc 2 rfl) (by omega) (by omega) (by omega)
            · exact sv0 rfl rfl rfl rfl rfl (fun _ _ _ h => h) fun ρ β W X cx => (by rw [← hT]; exact run_load1 rfl (by kernel_rfl) (cx.anc 3 rfl) (((cx.blk (cx.init 10 _ rfl) rfl).cell m).trans (arr_str (l := [S.extract 0 cutn, S1, strOfNums L2, S1.extract 0 cq]) (by simp only [List.length_cons, List.length_nil]; omega))))
            · refine sv_any rfl rfl fun ρ β W X cx => ?_
              refine DoesU.call (run_callF (args := #[.string T]) rfl cx.sees rfl (by kernel_rfl) (map1 (cx.anc 4 rfl))) ?_
              refine (HY.out _).mono ?_
              rintro e W1 ⟨A4, c4, rfl, ho, hx⟩
              refine ⟨_, rfl, post_call [eO 9 1 (.slice A4 IT.length c4) IT.length (IT.map Value.string)] rfl rfl hx (one_new (eO_new ho)) (List.pairwise_singleton _ _) (fun σ β' X' hs hb hv hN => ?_)⟩
              have hv1 := (hv 150 rfl).1; have hv2 := (hv 150 rfl).2
              exact ⟨hv1.trans (by rw [hv2]; rfl), (by rw [hv2]; exact (List.cons.inj hN).1)⟩
            · exact sv_call rfl rfl rfl rfl rfl (fun _ _ _ h => h) fun ρ β W X cx => ⟨_, _, run_callF (args := #[.agg #[.int .i64 kT, .int .i64 lT, .slice A142_40 IT.length c142_40], .int .i64 eT, .agg #[.int .i64 kT, .int .i64 lT, .slice (sA (tg (β 150) 2)) IT.length (sC (tg (β 150) 2)), .int .i64 eT]]) rfl cx.sees rfl (by kernel_rfl) (map3 (cx.anc 0 rfl) (cx.anc 1 rfl) (cx.anc 5 rfl).1), lsame_any kT lT _ _ _ IT eT _ _ _ _ rfl rfl (At.of_own (cx.row (cx.init 11 _ rfl) rfl)) (At.of_own (cx.row (cx.anc 5 rfl).2 rfl)) (by omega)⟩
            · exact sv0 rfl rfl rfl rfl rfl (fun _ _ _ h => h) fun ρ β W X cx => run_not rfl (cx.anc 6 rfl) rfl
          intro σ β X W41 hD hX hst41 fr hfr
          obtain ⟨A150_41, hu_A150_41⟩ : ∃ z, sA (tg (β 150) 2) = z := ⟨_, rfl⟩
          obtain ⟨c150_41, hu_c150_41⟩ : ∃ z, sC (tg (β 150) 2) = z := ⟨_, rfl⟩
          have dD145 : σ 145 = _ := hD 0 lq
          have dD146 : σ 146 = _ := hD 1 lq
          have dD147 : σ 147 = _ := hD 2 lq
          have dD148 : σ 148 = _ := hD 3 lq
          have dD149 : σ 149 = _ := hD 4 lq
          have dD150 : σ 150 = _ := (hD 5 lq).1
          have dD151 : σ 151 = _ := hD 6 lq
          have dD152 : σ 152 = _ := hD 7 lq
          have xX0 : X 0 = _ := hX 0 _ rfl
          have xX1 : X 1 = _ := hX 1 _ rfl
          have xX2 : X 2 = _ := hX 2 _ rfl
          have xX3 : X 3 = _ := hX 3 _ rfl
          have xX4 : X 4 = _ := hX 4 _ rfl
          have xX5 : X 5 = _ := hX 5 _ rfl
          have xX6 : X 6 = _ := hX 6 _ rfl
          have xX7 : X 7 = _ := hX 7 _ rfl
          have xX8 : X 8 = _ := hX 8 _ rfl
          have xX9 : X 9 = _ := hX 9 _ rfl
          have xX10 : X 10 = _ := hX 10 _ rfl
          have xX11 : X 11 = _ := hX 11 _ rfl
          have xX12 : X 12 = _ := hX 12 _ rfl
          have xX13 : X 13 = _ := (hD 5 lq).2
          simp only [List.map_cons, List.map_nil, xX0, xX1, xX2, xX3, xX4, xX5, xX6, xX7, xX8, xX9, xX10, xX11, xX12, xX13, hu_A150_41, hu_c150_41] at hst41
          rw [show dstsU _ = [145, 146, 147, 148, 149, 150, 151, 152] by kernel_rfl] at hfr
          simp only [List.map_cons, List.map_nil, putAll, List.setIfInBounds_toArray, List.set_cons_succ, List.set_cons_zero, dD145, dD146, dD147, dD148, dD149, dD150, dD151, dD152, hu_A150_41, hu_c150_41] at hfr
          clear hX hD dD145 dD146 dD147 dD148 dD149 dD150 dD151 dD152 xX0 xX1 xX2 xX3 xX4 xX5 xX6 xX7 xX8 xX9 xX10 xX11 xX12 xX13 hu_A150_41 hu_c150_41
          subst hfr
          clear σ β X
          refine then_normal ?_
          refine wp_cond_false (show Act.eval _ _ = .bool false from rfl) ?_
          refine wp_skip ?_
          refine blk_normal ?_
          refine then_normal ?_
          refine wp_region_W (by kernel_rfl) [0, 1, 3] [[], [], []] [[], [], []] [[], [], []] (fun ix σ β X => match ix with | 0 => σ 136 = .int .i64 ((m : Int)) | 1 => σ 137 = .int .i64 ((m : Int) + 1) | 2 => σ 19 = .int .i64 ((m : Int) + 1) | _ => True) [0, 1, 2, 3, 4, 5, 6, 7, 8, 9, 10, 11, 12, 13] (by kernel_rfl) (by kernel_rfl) (by kernel_rfl) (by kernel_rfl) ?_ hst41 ?_ ?_
          · exact fun ix _ _ _ _ _ _ hs hb hx h => match ix, h with
              | 0, h => (hs 136 rfl).symm.trans h
              | 1, h => (hs 137 rfl).symm.trans h
              | 2, h => (hs 19 rfl).symm.trans h
              | _ + 3, _ => trivial
          · refine ⟨⟨⟨trivial, ?_⟩, ?_⟩, ?_⟩
            · exact sv0 rfl rfl rfl rfl rfl (fun _ _ _ h => h) fun ρ β W X cx => run_move' rfl (cx.out 19 rfl)
            · exact sv0 rfl rfl rfl rfl rfl (fun _ _ _ h => h) fun ρ β W X cx => run_bin rfl (cx.anc 0 rfl) (cx.sees.const _) (congrArg (fun z => some (Value.int .i64 z)) ((IntWalk.i64_in _ (by omega)).trans (by omega)))
            · exact sv0 rfl rfl rfl rfl rfl (fun _ _ _ h => h) fun ρ β W X cx => run_assign' rfl (cx.anc 1 rfl)
          intro σ β X W42 hD hX hst42 fr hfr
          have dD136 : σ 136 = _ := hD 0 lq
          have dD137 : σ 137 = _ := hD 1 lq
          have dD19 : σ 19 = _ := hD 2 lq
          have xX0 : X 0 = _ := hX 0 _ rfl
          have xX1 : X 1 = _ := hX 1 _ rfl
          have xX2 : X 2 = _ := hX 2 _ rfl
          have xX3 : X 3 = _ := hX 3 _ rfl
          have xX4 : X 4 = _ := hX 4 _ rfl
          have xX5 : X 5 = _ := hX 5 _ rfl
          have xX6 : X 6 = _ := hX 6 _ rfl
          have xX7 : X 7 = _ := hX 7 _ rfl
          have xX8 : X 8 = _ := hX 8 _ rfl
          have xX9 : X 9 = _ := hX 9 _ rfl
          have xX10 : X 10 = _ := hX 10 _ rfl
          have xX11 : X 11 = _ := hX 11 _ rfl
          have xX12 : X 12 = _ := hX 12 _ rfl
          have xX13 : X 13 = _ := hX 13 _ rfl
          simp only [List.map_cons, List.map_nil, xX0, xX1, xX2, xX3, xX4, xX5, xX6, xX7, xX8, xX9, xX10, xX11, xX12, xX13] at hst42
          rw [show dstsU _ = [136, 137, 19] by kernel_rfl] at hfr
          simp only [List.map_cons, List.map_nil, putAll, List.setIfInBounds_toArray, List.set_cons_succ, List.set_cons_zero, dD136, dD137, dD19] at hfr
          clear hX hD dD136 dD137 dD19 xX0 xX1 xX2 xX3 xX4 xX5 xX6 xX7 xX8 xX9 xX10 xX11 xX12 xX13
          subst hfr
          clear σ β X
          refine then_normal ?_
          refine ⟨4 - ((m + 1)), by omega, ?_⟩
          have hp43 := hst42.pick [0, 1, 2, 3, 4, 5, 6, 7, 8, 9, 10] (by decide) rfl
          exact ⟨(m + 1), [(u36_.getD 0 undef), .pointer (some ⟨B20_40, 0, none⟩), .int .i64 eT, .int .i64 ((m : Int)), .bool (decide ((m : Int) < 4)), .int .i64 ((m : Int)), .int .i64 ((m : Int) + 1), .tuple #[.agg #[.int .i64 kT, .int .i64 lT, .slice A142_40 IT.length c142_40], .int .i64 eT], .int .i64 ((m : Int)), .pointer (some ⟨B18_34, m, none⟩), .string T, .tuple #[.agg #[.int .i64 kT, .int .i64 lT, .slice A142_40 IT.length c142_40], .int .i64 eT], .agg #[.int .i64 kT, .int .i64 lT, .slice A142_40 IT.length c142_40], .int .i64 eT, .agg #[.int .i64 kT, .int .i64 lT, .slice A142_40 IT.length c142_40], .int .i64 eT, .int .i64 ((m : Int)), .pointer (some ⟨B18_34, m, none⟩), .string T, .agg #[.int .i64 kT, .int .i64 lT, .slice A150_41 IT.length c150_41, .int .i64 eT], .bool true, .bool false], by omega, rfl, rfl, hp43⟩
        · skip
          have hs39p : ¬ ((m : Int) < 4) := by simpa using hs39
          refine wp_cond_false (show Act.eval _ _ = .bool false from (congrArg Value.bool hs39)) ?_
          refine wp_exit ?_
          refine then_exit ?_
          refine then_exit ?_
          refine blk_eq ?_
          refine then_normal ?_
          refine wp_seq ?_
          refine wp_region_W (by kernel_rfl) [0, 1, 3, 7, 15, 3, 35, 99, 255, 511, 1023] [[], [], [], [0], [], [], [0], [], [], [], []] [[], [], [], [], [], [], [], [], [], [], []] [[], [], [], [], [], [], [], [], [], [], []] (fun ix σ β X => match ix with | 0 => σ 153 = .bool true | 1 => σ 154 = .bool true | 2 => σ 155 = .pointer (some ⟨B3_1, 0, none⟩) | 3 => σ 156 = .int .i64 kp | 4 => σ 157 = .agg #[.int .i64 kp, .int .i64 0, .slice none 0 0] | 5 => σ 158 = .pointer (some ⟨B3_1, 0, none⟩) | 6 => σ 159 = .int .i64 kp | 7 => σ 160 = .agg #[.int .i64 kp, .int .i64 0, .slice none 0 0] | 8 => σ 161 = .bool true | 9 => σ 162 = .bool true | 10 => σ 6 = .bool true | _ => True) [0, 1, 2, 3, 4, 5, 6, 7, 8, 9, 10] (by kernel_rfl) (by kernel_rfl) (by kernel_rfl) (by kernel_rfl) ?_ hst38 ?_ ?_
          · exact fun ix _ _ _ _ _ _ hs hb hx h => match ix, h with
              | 0, h => (hs 153 rfl).symm.trans h
              | 1, h => (hs 154 rfl).symm.trans h
              | 2, h => (hs 155 rfl).symm.trans h
              | 3, h => (hs 156 rfl).symm.trans h
              | 4, h => (hs 157 rfl).symm.trans h
              | 5, h => (hs 158 rfl).symm.trans h
              | 6, h => (hs 159 rfl).symm.trans h
              | 7, h => (hs 160 rfl).symm.trans h
              | 8, h => (hs 161 rfl).symm.trans h
              | 9, h => (hs 162 rfl).symm.trans h
              | 10, h => (hs 6 rfl).symm.trans h
              | _ + 11, _ => trivial
          · refine ⟨⟨⟨⟨⟨⟨⟨⟨⟨⟨⟨trivial, ?_⟩, ?_⟩, ?_⟩, ?_⟩, ?_⟩, ?_⟩, ?_⟩, ?_⟩, ?_⟩, ?_⟩, ?_⟩
            · exact sv0 rfl rfl rfl rfl rfl (fun _ _ _ h => h) fun ρ β W X cx => run_move' rfl (cx.out 7 rfl)
            · exact sv0 rfl rfl rfl rfl rfl (fun _ _ _ h => h) fun ρ β W X cx => run_move' rfl (cx.anc 0 rfl)
            · exact sv0_on rfl rfl rfl rfl rfl rfl (fun _ _ _ h => h) (fun _ _ _ _ cx => (cx.anc 1 rfl)) fun ρ β W X cx => run_fieldAddr' (k := 0) (n := 0) rfl (by kernel_rfl) (cx.out 3 rfl) rfl
            · exact sv0_on rfl rfl rfl rfl rfl rfl (fun _ _ _ h => h) (fun _ _ _ _ cx => (cx.anc 1 rfl)) fun ρ β W X cx => run_load1 rfl (by kernel_rfl) (cx.anc 2 rfl) ((cx.blk (cx.init 0 _ rfl) rfl).cell 0)
            · exact sv_call_on rfl rfl rfl rfl rfl rfl (fun _ _ _ h => h) (fun _ _ _ _ cx => (cx.anc 1 rfl)) fun ρ β W X cx => ⟨_, _, run_callF (args := #[.int .i64 kp]) rfl cx.sees rfl (by kernel_rfl) (map1 (cx.anc 3 rfl)), new_any kp _⟩
            · exact sv0_on rfl rfl rfl rfl rfl rfl (fun _ _ _ h => h) (fun _ _ _ _ cx => (cx.anc 1 rfl)) fun ρ β W X cx => run_fieldAddr' (k := 0) (n := 0) rfl (by kernel_rfl) (cx.out 3 rfl) rfl
            · exact sv0_on rfl rfl rfl rfl rfl rfl (fun _ _ _ h => h) (fun _ _ _ _ cx => (cx.anc 1 rfl)) fun ρ β W X cx => run_load1 rfl (by kernel_rfl) (cx.anc 5 rfl) ((cx.blk (cx.init 0 _ rfl) rfl).cell 0)
            · exact sv0_on rfl rfl rfl rfl rfl rfl (fun _ _ _ h => h) (fun _ _ _ _ cx => (cx.anc 1 rfl)) fun ρ β W X cx => by
                have fF159 : ρ (.tmp 159) = .int .i64 kp := (cx.anc 6 rfl)
                simp [go_sem, cx.sees.const, fF159] <;> rfl
            · exact sv_call_on rfl rfl rfl rfl rfl rfl (fun _ _ _ h => h) (fun _ _ _ _ cx => (cx.anc 1 rfl)) fun ρ β W X cx => ⟨_, _, run_callF (args := #[.agg #[.int .i64 kp, .int .i64 0, .slice none 0 0], .agg #[.int .i64 kp, .int .i64 0, .slice none 0 0]]) rfl cx.sees rfl (by kernel_rfl) (map2 (cx.anc 4 rfl) (cx.anc 7 rfl)), same0 kp _⟩
            · exact sv0 rfl rfl rfl rfl rfl (fun _ _ _ h => h) fun ρ β W X cx => run_pick_t rfl (cx.anc 1 rfl) (cx.anc 8 rfl)
            · exact sv0 rfl rfl rfl rfl rfl (fun _ _ _ h => h) fun ρ β W X cx => run_assign' rfl (cx.anc 9 rfl)
          intro σ β X W44 hD hX hst44 fr hfr
          have dD153 : σ 153 = _ := hD 0 lq
          have dD154 : σ 154 = _ := hD 1 lq
          have dD155 : σ 155 = _ := hD 2 lq
          have dD156 : σ 156 = _ := hD 3 lq
          have dD157 : σ 157 = _ := hD 4 lq
          have dD158 : σ 158 = _ := hD 5 lq
          have dD159 : σ 159 = _ := hD 6 lq
          have dD160 : σ 160 = _ := hD 7 lq
          have dD161 : σ 161 = _ := hD 8 lq
          have dD162 : σ 162 = _ := hD 9 lq
          have dD6 : σ 6 = _ := hD 10 lq
          have xX0 : X 0 = _ := hX 0 _ rfl
          have xX1 : X 1 = _ := hX 1 _ rfl
          have xX2 : X 2 = _ := hX 2 _ rfl
          have xX3 : X 3 = _ := hX 3 _ rfl
          have xX4 : X 4 = _ := hX 4 _ rfl
          have xX5 : X 5 = _ := hX 5 _ rfl
          have xX6 : X 6 = _ := hX 6 _ rfl
          have xX7 : X 7 = _ := hX 7 _ rfl
          have xX8 : X 8 = _ := hX 8 _ rfl
          have xX9 : X 9 = _ := hX 9 _ rfl
          have xX10 : X 10 = _ := hX 10 _ rfl
          simp only [List.map_cons, List.map_nil, xX0, xX1, xX2, xX3, xX4, xX5, xX6, xX7, xX8, xX9, xX10] at hst44
          rw [show dstsU _ = [153, 154, 155, 156, 157, 158, 159, 160, 161, 162, 6] by kernel_rfl] at hfr
          simp only [List.map_cons, List.map_nil, putAll, List.setIfInBounds_toArray, List.set_cons_succ, List.set_cons_zero, dD153, dD154, dD155, dD156, dD157, dD158, dD159, dD160, dD161, dD162, dD6] at hfr
          clear hX hD dD153 dD154 dD155 dD156 dD157 dD158 dD159 dD160 dD161 dD162 dD6 xX0 xX1 xX2 xX3 xX4 xX5 xX6 xX7 xX8 xX9 xX10
          subst hfr
          clear σ β X
          refine then_normal ?_
          refine wp_ret ?_
          refine bodyPost_ret (v := .bool true) (by simp [results, Try.results10, go_sem]) rfl ?_
          exact ⟨rfl, hst44.ext⟩
end Go.Proofs.Ytkkldciofndedaa

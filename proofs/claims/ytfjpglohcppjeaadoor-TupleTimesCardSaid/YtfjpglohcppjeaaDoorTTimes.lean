/- TupleTimes: the law's walk. -/
import Derived.Test.YtfjpglohcppjeaaDoorClE
import Derived.Test.YtfjpglohcppjeaaDoorTTimesP
import Derived.Test.YtfjpglohcppjeaaDoorT13
import Derived.Test.YtfjpglohcppjeaaDoorT2b
namespace Go.Proofs.YtfjpglohcppjeaaDoor
open Go.RowKit
set_option linter.unusedVariables false
set_option linter.unusedSimpArgs false

def cellsC (c : Int × Int × Int) : List Value := [.int .i64 c.1, .int .i64 c.2.1, .int .i64 c.2.2]
def c0 : Int × Int × Int := (0, 0, 0)
theorem cellsC_len (c : Int × Int × Int) : (cellsC c).length = 3 := rfl
theorem clock_ok (cb : Nat) (lo nx : Int) (K : List Int) (W : World) (hb : Blk W cb 133 (clockL lo nx K).toArray) (hlo : onF lo = true) (hnx : onF nx = true) (hK : K.length = 128) : StOk W 81 (.pointer (some ⟨cb, 0, none⟩)) (stateF lo nx K) :=
  ⟨42, _, fun W => by kernel_rfl, by kernel_rfl, fun W x hx => cstate_any cb lo nx K x W (hb.ext hx) hlo hnx hK⟩
theorem far_r {lo : Int} {m : Nat} (hlo : onF lo = true) (hm : m < 60) : stepsF lo (rAt lo m) < 60 := by
  have := onF_iff.1 hlo
  unfold stepsF rAt; omega
theorem tmod_nat {a : Int} {m : Nat} (ha : 0 ≤ a) (hm : 0 < m) : ∃ k : Nat, Int.tmod a (m : Int) = (k : Int) ∧ k < m := by
  refine ⟨(a % (m : Int)).toNat, ?_, ?_⟩
  · rw [Int.tmod_eq_emod_of_nonneg ha]
    have := Int.emod_nonneg a (b := (m : Int)) (by omega)
    omega
  · have := Int.emod_nonneg a (b := (m : Int)) (by omega)
    have := Int.emod_lt_of_pos a (b := (m : Int)) (by omega)
    omega
theorem infoBoolT : (Tryd.prog.info? 4).map (fun i => (i.zero, i.size, i.bytes)) = some (some (.bool false), 1, 1) := by kernel_rfl
set_option maxRecDepth 100000 in
set_option maxHeartbeats 16000000 in
theorem tupletimes_any (CA : Option Addr) (cc : Nat) (cs : List (Int × Int × Int)) (nxt whn : Int) (w : World) (hC : At w CA (cs.flatMap cellsC)) (hcl : cs.length ≤ 100000000000000) (hN : NoneAt w) :
    Calls Tryd.prog 10 #[.slice CA cs.length cc, .int .i64 nxt, .int .i64 whn] w (Ret (.bool true) w) := by
  go_enter Tryd.func10, Tryd.ntmps10
  have hst0 := St.start w
  refine wp_seq ?_
  refine wp_region_P [0] [.k 6 (.bool false)] [(6, 0, 1, 7)] hst0 fun W1 hst1 => ?_
  refine then_normal ?_
  refine wp_seq ?_
  refine wp_region_T [0, 1] [] [] [] [.c 22 (.bool true), .k 7 (.bool true)] (fun _ _ _ _ => True) [] [0] [(7, 1, 1, 8), (14, 0, 1, 15)] hst1 ?_ ?_ ?_
  · exact fun _ _ _ _ _ _ _ _ _ _ h => h
  · refine ⟨?_, trivial⟩
    · exact sv_call rfl rfl rfl rfl rfl (fun _ _ _ h => h) fun ρ β W X cx => ⟨_, _, run_callF (args := #[]) rfl cx.sees rfl (by kernel_rfl) map0, sanity_any _ (hN.ext cx.upd.to_ext)⟩
  intro σ β X W2 hD hX hst2 fr hfr
  simp only [zM] at hst2
  dsimp only [mgT, vals, List.take, List.drop, List.cons_append, List.nil_append] at hfr
  clear hX hD; subst hfr; clear σ β X
  refine then_normal ?_
  refine wp_seq ?_
  obtain ⟨lo, hloE⟩ : ∃ z : Int, 3 + nxt % 65536 % 125 = z := ⟨_, rfl⟩
  have hlo : onF lo = true := onF_iff.2 (by omega)
  refine wp_region_T [0, 1, 3, 7, 15, 31] [] [[], [], [], [], [0]] [] [.k 23 (.int .i64 nxt), tAn 24 .i64 nxt 65535 (nxt % 65536) (bits_mask nxt 16 (by decide)), tRe 25 .i64 (nxt % 65536) 125 ((nxt % 65536) % 125) (Int.tmod_eq_emod_of_nonneg (by omega)), tW 26 .i64 (3 + ((nxt % 65536) % 125)) lo ((IntWalk.i64_in _ (by omega)).trans hloE), .a 27, .a 8] (fun ix σ β X => match ix with | 0 => True | 1 => True | 2 => True | 3 => True | 4 => σ 27 = .pointer (some ⟨(pb (β 27)), 0, none⟩) ∧ X 0 = eB (pb (β 27)) 133 (clockL lo lo (List.replicate 128 0)).toArray | 5 => σ 8 = .pointer (some ⟨(pb (β 27)), 0, none⟩) | _ => True) [0] [4, 5] [(8, 5, 1, 9), (14, 0, 5, 19)] hst2 ?_ ?_ ?_
  · exact fun ix _ _ _ _ _ _ hs hb hx h => match ix, h with
    | 4, h => by dsimp only at h ⊢; rw [← hs 27 rfl, ← hb 27 rfl, ← hx 0 rfl]; exact h
    | 5, h => by dsimp only at h ⊢; rw [← hs 8 rfl, ← hb 27 rfl]; exact h
    | 0, _ | 1, _ | 2, _ | 3, _ | _ + 6, _ => trivial
  · refine ⟨?_, ?_, trivial⟩
    · refine sv_any rfl rfl fun ρ β W X cx => ?_
      refine DoesU.call (run_callF (args := #[.int .i64 lo]) rfl cx.sees rfl (by kernel_rfl) (map1 (cx.anc 3 rfl))) ?_
      refine (cnew_any lo _ hlo).mono ?_
      rintro e W1 ⟨B4, rfl, hb4, hw4, hx⟩
      refine ⟨_, rfl, post_call [eB B4 133 (clockL lo lo (List.replicate 128 0)).toArray] rfl rfl hx (one_new ⟨hb4, eB_loc _ _ _, fun k hk => by simp [eB] at hk; subst hk; exact ⟨hw4, hb4.lt⟩⟩) (List.pairwise_singleton _ _) (fun σ β' X' hs hb hv hN => ?_)⟩
      have hv1 := (hv 27 rfl).1; have hv2 := (hv 27 rfl).2
      exact ⟨hv1.trans (by rw [hv2]; rfl), (by rw [hv2]; exact (List.cons.inj hN).1)⟩
    · exact sv rfl rfl rfl rfl rfl _ (fun _ _ _ h => h) (fun β β' h => by rw [h 27 (by decide)]) fun ρ β W X cx => run_assign' rfl (dTn (cx.anc 4 rfl)).1
  intro σ β X W3 hD hX hst3 fr hfr
  obtain ⟨B27_3, hu_B27_3⟩ : ∃ z, pb (β 27) = z := ⟨_, rfl⟩
  simp only [zM, exq 0 ((dTn (hD 4 lq)).2), hu_B27_3] at hst3
  dsimp only [mgT, vals, List.take, List.drop, List.cons_append, List.nil_append] at hfr
  simp only [ed 27 ((dTn (hD 4 lq)).1), ed 8 ((dTn (hD 5 lq))), hu_B27_3] at hfr
  clear hX hD hu_B27_3; subst hfr; clear σ β X
  refine then_normal ?_
  refine wp_seq ?_
  refine wp_seq ?_
  refine wp_region_T [0, 1] [] [] [] [.k 28 (.pointer (some ⟨B27_3, 0, none⟩)), .c 29 (.bool false)] (fun _ _ _ _ => True) [0] [1] [(28, 0, 2, 30)] hst3 ?_ ?_ ?_
  · exact fun _ _ _ _ _ _ _ _ _ _ h => h
  · refine ⟨?_, trivial⟩
    · exact sv0 rfl rfl rfl rfl rfl (fun _ _ _ h => h) fun ρ β W X cx => by
        have fF28 : ρ (.tmp 28) = .pointer (some ⟨B27_3, 0, none⟩) := (cx.anc 0 rfl)
        simp [go_sem, cx.sees.const, fF28]
  intro σ β X W4 hD hX hst4 fr hfr
  simp only [zM, exq 0 (hX 0 _ rfl)] at hst4
  dsimp only [mgT, vals, List.take, List.drop, List.cons_append, List.nil_append] at hfr
  clear hX hD; subst hfr; clear σ β X
  refine then_normal ?_
  refine wp_cond_false (show Act.eval _ _ = .bool false from rfl) ?_
  refine wp_skip ?_
  refine then_normal ?_
  refine wp_seq ?_
  obtain ⟨A0, hAE, hA60⟩ : ∃ z : Nat, whn % 65536 % 60 = (z : Int) ∧ z < 60 := ⟨(whn % 65536 % 60).toNat, by omega, by omega⟩
  refine wp_region_P [0, 1, 3, 7] [.k 30 (.int .i64 whn), tAn 31 .i64 whn 65535 (whn % 65536) (bits_mask whn 16 (by decide)), tRe 32 .i64 (whn % 65536) 60 (A0 : Int) ((Int.tmod_eq_emod_of_nonneg (by omega)).trans hAE), .k 9 (.int .i64 ((A0 : Int)))] [(9, 3, 1, 10), (20, 0, 3, 23)] hst4 fun W5 hst5 => ?_
  refine then_normal ?_
  refine wp_seq ?_
  refine wp_region_T [0, 1] [] [[1]] [] [.a 33, .a 10] (fun ix σ β X => match ix with | 0 => σ 33 = .slice (sA (β 33)) 0 0 ∧ X 1 = eO 3 1 (.slice (sA (β 33)) 0 0) 0 ([]) | 1 => σ 10 = .slice (sA (β 33)) 0 0 | _ => True) [0, 1] [0, 1] [(10, 1, 1, 11), (22, 0, 1, 23)] hst5 ?_ ?_ ?_
  · exact fun ix _ _ _ _ _ _ hs hb hx h => match ix, h with
    | 0, h => by dsimp only at h ⊢; rw [← hs 33 rfl, ← hb 33 rfl, ← hx 1 rfl]; exact h
    | 1, h => by dsimp only at h ⊢; rw [← hs 10 rfl, ← hb 33 rfl]; exact h
    | _ + 2, _ => trivial
  · refine ⟨?_, ?_, trivial⟩
    · refine sv_any rfl rfl fun ρ β W X cx => ?_
      exact dv_lit (e := 3) (xs := []) rfl (by simp [go_sem]) rfl (by decide) rfl rfl (fun σ β' X' hs hb hv hx => ⟨hv, hx⟩)
    · exact sv rfl rfl rfl rfl rfl _ (fun _ _ _ h => h) (fun β β' h => by rw [h 33 (by decide)]) fun ρ β W X cx => run_assign' rfl (dTn (cx.anc 0 rfl)).1
  intro σ β X W6 hD hX hst6 fr hfr
  obtain ⟨A33_6, hu_A33_6⟩ : ∃ z, sA (β 33) = z := ⟨_, rfl⟩
  simp only [zM, exq 0 (hX 0 _ rfl), exq 1 ((dTn (hD 0 lq)).2), hu_A33_6] at hst6
  dsimp only [mgT, vals, List.take, List.drop, List.cons_append, List.nil_append] at hfr
  simp only [ed 33 ((dTn (hD 0 lq)).1), ed 10 ((dTn (hD 1 lq))), hu_A33_6] at hfr
  clear hX hD hu_A33_6; subst hfr; clear σ β X
  refine then_normal ?_
  refine wp_seq ?_
  refine wp_region_T [0] [] [[2]] [] [.a 11] (fun ix σ β X => match ix with | 0 => σ 11 = .pointer (some ⟨(pb (β 11)), 0, none⟩) ∧ X 2 = eB (pb (β 11)) 41 #[.int .i64 0, .slice none 0 0] | _ => True) [0, 1, 2] [0] [(11, 0, 1, 12)] hst6 ?_ ?_ ?_
  · exact fun ix _ _ _ _ _ _ hs hb hx h => match ix, h with
    | 0, h => by dsimp only at h ⊢; rw [← hs 11 rfl, ← hb 11 rfl, ← hx 2 rfl]; exact h
    | _ + 1, _ => trivial
  · refine ⟨?_, trivial⟩
    · refine sv_any rfl rfl fun ρ β W X cx => ?_
      exact dv_alloc (cs := #[.int .i64 0, .slice none 0 0]) rfl (by kernel_rfl) rfl rfl (fun σ β' X' hs hb hv hx => ⟨hv, hx⟩)
  intro σ β X W7 hD hX hst7 fr hfr
  obtain ⟨B11_7, hu_B11_7⟩ : ∃ z, pb (β 11) = z := ⟨_, rfl⟩
  simp only [zM, exq 0 (hX 0 _ rfl), exq 1 (hX 1 _ rfl), exq 2 ((dTn (hD 0 lq)).2), hu_B11_7] at hst7
  dsimp only [mgT, vals, List.take, List.drop, List.cons_append, List.nil_append] at hfr
  simp only [ed 11 ((dTn (hD 0 lq)).1), hu_B11_7] at hfr
  clear hX hD hu_B11_7; subst hfr; clear σ β X
  refine then_normal ?_
  refine wp_seq ?_
  refine wp_region_P [0] [.k 12 (.bool false)] [(12, 0, 1, 13)] hst7 fun W8 hst8 => ?_
  refine then_normal ?_
  refine wp_seq ?_
  refine wp_region_T [0, 1] [] [[3]] [] [.a 34, .a 13] (fun ix σ β X => match ix with | 0 => σ 34 = .slice (sA (β 34)) 0 0 ∧ X 3 = eO 4 1 (.slice (sA (β 34)) 0 0) 0 ([]) | 1 => σ 13 = .slice (sA (β 34)) 0 0 | _ => True) [0, 1, 2, 3] [0, 1] [(13, 1, 1, 14), (20, 0, 1, 21)] hst8 ?_ ?_ ?_
  · exact fun ix _ _ _ _ _ _ hs hb hx h => match ix, h with
    | 0, h => by dsimp only at h ⊢; rw [← hs 34 rfl, ← hb 34 rfl, ← hx 3 rfl]; exact h
    | 1, h => by dsimp only at h ⊢; rw [← hs 13 rfl, ← hb 34 rfl]; exact h
    | _ + 2, _ => trivial
  · refine ⟨?_, ?_, trivial⟩
    · refine sv_any rfl rfl fun ρ β W X cx => ?_
      exact dv_lit (e := 4) (xs := []) rfl (by simp [go_sem]) rfl (by decide) rfl rfl (fun σ β' X' hs hb hv hx => ⟨hv, hx⟩)
    · exact sv rfl rfl rfl rfl rfl _ (fun _ _ _ h => h) (fun β β' h => by rw [h 34 (by decide)]) fun ρ β W X cx => run_assign' rfl (dTn (cx.anc 0 rfl)).1
  intro σ β X W9 hD hX hst9 fr hfr
  obtain ⟨A34_9, hu_A34_9⟩ : ∃ z, sA (β 34) = z := ⟨_, rfl⟩
  simp only [zM, exq 0 (hX 0 _ rfl), exq 1 (hX 1 _ rfl), exq 2 (hX 2 _ rfl), exq 3 ((dTn (hD 0 lq)).2), hu_A34_9] at hst9
  dsimp only [mgT, vals, List.take, List.drop, List.cons_append, List.nil_append] at hfr
  simp only [ed 34 ((dTn (hD 0 lq)).1), ed 13 ((dTn (hD 1 lq))), hu_A34_9] at hfr
  clear hX hD hu_A34_9; subst hfr; clear σ β X
  refine then_normal ?_
  refine wp_seq ?_
  refine wp_seq ?_
  refine wp_region_P [0] [.k 14 (.int .i64 0)] [(14, 0, 1, 15)] hst9 fun W10 hst10 => ?_
  refine then_normal ?_
  refine wp_block ?_
  have hn11 := St.nilrow hst10 3
  have hc0 : clockL lo lo (List.replicate 128 0) = clockL lo (rAt lo 0) (List.replicate 128 0) := by rw [rAt_zero hlo]
  rw [hc0] at hn11
  refine wp_loopN (fun mz az W => ∃ j : Nat, ∃ m : Nat, ∃ K : List Int, ∃ tk : Bool, ∃ hi : Int, ∃ LA : Option Addr, ∃ LC : Nat, ∃ lv : List Int, ∃ GA : Option Addr, ∃ GC : Nat, ∃ HA : Option Addr, ∃ HC : Nat, ∃ hn : Nat, ∃ hd : List Bool, ∃ u12_ : List Value, j ≤ 60 ∧ m ≤ j ∧ TInv lo m K tk hi lv hd ∧ hn = hd.length ∧ lv.length ≤ 1000 ∧ j ≤ cs.length ∧ (tk = true → A0 < j) ∧ (tk = false → hd = []) ∧ mz = 60 - j ∧ az = ⟨#[.slice CA cs.length cc, .int .i64 nxt, .int .i64 whn, undef, undef, undef, .bool false, .bool true, .pointer (some ⟨B27_3, 0, none⟩), .int .i64 ((A0 : Int)), .slice GA m GC, .pointer (some ⟨B11_7, 0, none⟩), .bool tk, .slice HA hn HC, .int .i64 ((j : Int)), (u12_.getD 0 undef), (u12_.getD 1 undef), (u12_.getD 2 undef), undef, undef, undef, undef, .bool true, .int .i64 nxt, .int .i64 (nxt % 65536), .int .i64 ((nxt % 65536) % 125), .int .i64 lo, .pointer (some ⟨B27_3, 0, none⟩), .pointer (some ⟨B27_3, 0, none⟩), .bool false, .int .i64 whn, .int .i64 (whn % 65536), .int .i64 ((A0 : Int)), .slice A33_6 0 0, .slice A34_9 0 0, (u12_.getD 3 undef), (u12_.getD 4 undef), (u12_.getD 5 undef), (u12_.getD 6 undef), (u12_.getD 7 undef), (u12_.getD 8 undef), (u12_.getD 9 undef), (u12_.getD 10 undef), (u12_.getD 11 undef), (u12_.getD 12 undef), (u12_.getD 13 undef), (u12_.getD 14 undef), (u12_.getD 15 undef), (u12_.getD 16 undef), (u12_.getD 17 undef), (u12_.getD 18 undef), (u12_.getD 19 undef), (u12_.getD 20 undef), (u12_.getD 21 undef), (u12_.getD 22 undef), (u12_.getD 23 undef), (u12_.getD 24 undef), (u12_.getD 25 undef), (u12_.getD 26 undef), (u12_.getD 27 undef), (u12_.getD 28 undef), (u12_.getD 29 undef), (u12_.getD 30 undef), (u12_.getD 31 undef), (u12_.getD 32 undef), (u12_.getD 33 undef), (u12_.getD 34 undef), (u12_.getD 35 undef), (u12_.getD 36 undef), (u12_.getD 37 undef), (u12_.getD 38 undef), (u12_.getD 39 undef), (u12_.getD 40 undef), (u12_.getD 41 undef), (u12_.getD 42 undef), (u12_.getD 43 undef), (u12_.getD 44 undef), (u12_.getD 45 undef), (u12_.getD 46 undef), (u12_.getD 47 undef), (u12_.getD 48 undef), (u12_.getD 49 undef), (u12_.getD 50 undef), (u12_.getD 51 undef), (u12_.getD 52 undef), (u12_.getD 53 undef), (u12_.getD 54 undef), (u12_.getD 55 undef), (u12_.getD 56 undef), (u12_.getD 57 undef), (u12_.getD 58 undef), (u12_.getD 59 undef), (u12_.getD 60 undef), (u12_.getD 61 undef), (u12_.getD 62 undef), (u12_.getD 63 undef), (u12_.getD 64 undef), (u12_.getD 65 undef), (u12_.getD 66 undef), (u12_.getD 67 undef), (u12_.getD 68 undef), (u12_.getD 69 undef), (u12_.getD 70 undef), (u12_.getD 71 undef), (u12_.getD 72 undef), (u12_.getD 73 undef), (u12_.getD 74 undef), (u12_.getD 75 undef), (u12_.getD 76 undef), (u12_.getD 77 undef), undef, undef, undef, undef, undef, undef, undef, undef, undef, undef, undef, undef, undef, undef, undef, undef, undef, undef, undef, undef, undef, undef, undef, undef, undef, undef, undef, undef, undef, undef, undef, undef, undef, undef, undef, undef, undef, undef, undef, undef, undef, undef, undef, undef, undef, undef, undef, undef], []⟩ ∧ St w [] [eB B27_3 133 (clockL lo (rAt lo m) K).toArray, eO 3 1 (.slice GA m GC) m ((givenL lo m).map (Value.int .i64)), eB B11_7 41 #[.int .i64 hi, .slice LA lv.length LC], eO 3 1 (.slice LA lv.length LC) lv.length (lv.map (Value.int .i64)), eO 4 1 (.slice HA hn HC) hn (hd.map Value.bool)] W) (60 - 0) ?_ ?_
  · -- the loop begins
    have hp13 := hn11.pick [0, 1, 2, 4, 3] (by decide) rfl
    exact ⟨0, 0, (List.replicate 128 0), false, 0, none, 0, [], A33_6, 0, A34_9, 0, 0, [], [undef, undef, undef, undef, undef, undef, undef, undef, undef, undef, undef, undef, undef, undef, undef, undef, undef, undef, undef, undef, undef, undef, undef, undef, undef, undef, undef, undef, undef, undef, undef, undef, undef, undef, undef, undef, undef, undef, undef, undef, undef, undef, undef, undef, undef, undef, undef, undef, undef, undef, undef, undef, undef, undef, undef, undef, undef, undef, undef, undef, undef, undef, undef, undef, undef, undef, undef, undef, undef, undef, undef, undef, undef, undef, undef, undef, undef, undef], by omega, by omega, tinv_0 lo, rfl, by simp, by omega, fun h => (by cases h), fun _ => rfl, rfl, rfl, hp13⟩
  rintro n12 a12 W12 ⟨j, m, K, tk, hi, LA, LC, lv, GA, GC, HA, HC, hn, hd, u12_, hj60, hmj, hT, hhn, hl9, hjl, htk, hd0, rfl, rfl, hst12⟩
  have hnx := rAt_on lo m
  refine wp_seq ?_
  refine wp_seq ?_
  refine wp_region_P [0, 0, 2, 7, 15, 31, 63, 127] [.k 35 (.int .i64 ((j : Int))), .k 36 (.slice CA cs.length cc), .k 37 (.int .i64 ((cs.length : Int))), .k 38 (.bool (decide ((j : Int) < (cs.length : Int)))), .k 39 (.bool (decide ((j : Int) < (cs.length : Int)))), .z 40 (decide ((j : Int) < (cs.length : Int))) (.int .i64 ((j : Int))), .z 41 (decide ((j : Int) < (cs.length : Int))) (.bool (decide ((j : Int) < 60))), tA 42 (decide ((j : Int) < (cs.length : Int))) (decide ((j : Int) < 60))] [(35, 0, 8, 43)] hst12 fun W14 hst14 => ?_
  refine then_normal ?_
  rcases Bool.eq_false_or_eq_true ((decide ((j : Int) < (cs.length : Int))) && (decide ((j : Int) < 60))) with hs15 | hs15
  · skip
    have hs15p := hs15
    simp only [zB] at hs15p
    obtain ⟨hs15p1, hs15p2⟩ := hs15p
    refine wp_cond_true (show Act.eval _ _ = .bool true from (congrArg Value.bool hs15)) ?_
    refine wp_skip ?_
    refine then_normal ?_
    refine wp_seq ?_
    refine wp_block ?_
    refine wp_cut (fun az W => ∃ m : Nat, ∃ K : List Int, ∃ tk : Bool, ∃ hi : Int, ∃ LA : Option Addr, ∃ LC : Nat, ∃ lv : List Int, ∃ GA : Option Addr, ∃ GC : Nat, ∃ HA : Option Addr, ∃ HC : Nat, ∃ hn : Nat, ∃ hd : List Bool, ∃ u16_ : List Value, m ≤ j ∧ TInv lo m K tk hi lv hd ∧ hn = hd.length ∧ lv.length ≤ 1000 ∧ (tk = true → A0 ≤ j) ∧ (tk = false → hd = []) ∧ az = ⟨#[.slice CA cs.length cc, .int .i64 nxt, .int .i64 whn, undef, undef, undef, .bool false, .bool true, .pointer (some ⟨B27_3, 0, none⟩), .int .i64 ((A0 : Int)), .slice GA m GC, .pointer (some ⟨B11_7, 0, none⟩), .bool tk, .slice HA hn HC, .int .i64 ((j : Int)), (u16_.getD 0 undef), (u12_.getD 1 undef), (u12_.getD 2 undef), undef, undef, undef, undef, .bool true, .int .i64 nxt, .int .i64 (nxt % 65536), .int .i64 ((nxt % 65536) % 125), .int .i64 lo, .pointer (some ⟨B27_3, 0, none⟩), .pointer (some ⟨B27_3, 0, none⟩), .bool false, .int .i64 whn, .int .i64 (whn % 65536), .int .i64 ((A0 : Int)), .slice A33_6 0 0, .slice A34_9 0 0, .int .i64 ((j : Int)), .slice CA cs.length cc, .int .i64 ((cs.length : Int)), .bool (decide ((j : Int) < (cs.length : Int))), .bool (decide ((j : Int) < (cs.length : Int))), mb (decide ((j : Int) < (cs.length : Int))) (.int .i64 ((j : Int))), mb (decide ((j : Int) < (cs.length : Int))) (.bool (decide ((j : Int) < 60))), .bool ((decide ((j : Int) < (cs.length : Int))) && (decide ((j : Int) < 60))), (u12_.getD 11 undef), (u12_.getD 12 undef), (u16_.getD 1 undef), (u16_.getD 2 undef), (u16_.getD 3 undef), (u16_.getD 4 undef), (u16_.getD 5 undef), (u16_.getD 6 undef), (u16_.getD 7 undef), (u16_.getD 8 undef), (u16_.getD 9 undef), (u16_.getD 10 undef), (u16_.getD 11 undef), (u16_.getD 12 undef), (u16_.getD 13 undef), (u16_.getD 14 undef), (u16_.getD 15 undef), (u16_.getD 16 undef), (u16_.getD 17 undef), (u16_.getD 18 undef), (u16_.getD 19 undef), (u16_.getD 20 undef), (u16_.getD 21 undef), (u12_.getD 34 undef), (u12_.getD 35 undef), (u12_.getD 36 undef), (u12_.getD 37 undef), (u12_.getD 38 undef), (u12_.getD 39 undef), (u12_.getD 40 undef), (u12_.getD 41 undef), (u12_.getD 42 undef), (u12_.getD 43 undef), (u12_.getD 44 undef), (u12_.getD 45 undef), (u12_.getD 46 undef), (u12_.getD 47 undef), (u12_.getD 48 undef), (u12_.getD 49 undef), (u12_.getD 50 undef), (u12_.getD 51 undef), (u12_.getD 52 undef), (u12_.getD 53 undef), (u12_.getD 54 undef), (u12_.getD 55 undef), (u12_.getD 56 undef), (u12_.getD 57 undef), (u12_.getD 58 undef), (u12_.getD 59 undef), (u12_.getD 60 undef), (u12_.getD 61 undef), (u12_.getD 62 undef), (u12_.getD 63 undef), (u12_.getD 64 undef), (u12_.getD 65 undef), (u12_.getD 66 undef), (u12_.getD 67 undef), (u12_.getD 68 undef), (u12_.getD 69 undef), (u12_.getD 70 undef), (u12_.getD 71 undef), (u12_.getD 72 undef), (u12_.getD 73 undef), (u12_.getD 74 undef), (u12_.getD 75 undef), (u12_.getD 76 undef), (u12_.getD 77 undef), undef, undef, undef, undef, undef, undef, undef, undef, undef, undef, undef, undef, undef, undef, undef, undef, undef, undef, undef, undef, undef, undef, undef, undef, undef, undef, undef, undef, undef, undef, undef, undef, undef, undef, undef, undef, undef, undef, undef, undef, undef, undef, undef, undef, undef, undef, undef, undef], []⟩ ∧ St w [] [eB B27_3 133 (clockL lo (rAt lo m) K).toArray, eO 3 1 (.slice GA m GC) m ((givenL lo m).map (Value.int .i64)), eB B11_7 41 #[.int .i64 hi, .slice LA lv.length LC], eO 3 1 (.slice LA lv.length LC) lv.length (lv.map (Value.int .i64)), eO 4 1 (.slice HA hn HC) hn (hd.map Value.bool)] W) ?_ ?_
    · skip
      refine wp_seq ?_
      rcases Bool.eq_false_or_eq_true ((j : Int) == (A0 : Int)) with hja | hja
      · skip
        have hd18 : ((j : Int) == (A0 : Int)) = true := hja
        refine wp_region_P [0, 0, 3] [.k 45 (.int .i64 ((j : Int))), .k 46 (.int .i64 ((A0 : Int))), .e 47 (.bool ((j : Int) == (A0 : Int))) (.bool true) (congrArg Value.bool hd18)] [(45, 0, 3, 48)] hst14 fun W17 hst17 => ?_
        refine then_normal ?_
        refine wp_cond_true (show Act.eval _ _ = .bool true from rfl) ?_
        refine wp_seq ?_
        have hjA : j = A0 := by have h_ : (j : Int) = (A0 : Int) := (by simpa using hja); omega
        have htf : tk = false := by
          cases h_ : tk with
          | false => rfl
          | true => exact absurd (htk h_) (by omega)
        have hdn := hd0 htf
        have hn0 : hn = 0 := by rw [hhn, hdn]; rfl
        rw [hdn, hn0] at hst17
        rw [hn0]
        refine wp_region_T [0, 1, 3] [[], [0], [2]] [[], [5], [6]] [[], [], [2]] [.k 48 (.pointer (some ⟨B27_3, 0, none⟩)), .a 49, .n] (fun ix σ β X => match ix with | 0 => True | 1 => σ 49 = .agg #[.int .i64 ((rAt lo m)), .slice (sA (tg (β 49) 1)) ((liveL K (ringL lo (rAt lo m))).length) (sC (tg (β 49) 1))] ∧ X 5 = eO 3 1 (.slice (sA (tg (β 49) 1)) ((liveL K (ringL lo (rAt lo m))).length) (sC (tg (β 49) 1))) ((liveL K (ringL lo (rAt lo m))).length) ((liveL K (ringL lo (rAt lo m))).map (Value.int .i64)) | 2 => X 6 = eB B11_7 41 #[.int .i64 ((rAt lo m)), .slice (sA (tg (β 49) 1)) ((liveL K (ringL lo (rAt lo m))).length) (sC (tg (β 49) 1))] | _ => True) [0, 1, 3, 4, 5, 6] [1, 2] [(48, 0, 2, 50)] hst17 ?_ ?_ ?_
        · exact fun ix _ _ _ _ _ _ hs hb hx h => match ix, h with
          | 1, h => by dsimp only at h ⊢; rw [← hs 49 rfl, ← hb 49 rfl, ← hx 5 rfl]; exact h
          | 2, h => by dsimp only at h ⊢; rw [← hb 49 rfl, ← hx 6 rfl]; exact h
          | 0, _ | _ + 3, _ => trivial
        · refine ⟨?_, ?_, trivial⟩
          · refine sv_any rfl rfl fun ρ β W X cx => ?_
            refine DoesU.call (run_callF (args := #[.pointer (some ⟨B27_3, 0, none⟩)]) rfl cx.sees rfl (by kernel_rfl) (map1 (cx.anc 0 rfl))) ?_
            refine (csnap_any _ lo (rAt lo m) K _ (cx.blk (cx.init 0 _ rfl) rfl) hlo hnx hT.len).mono ?_
            rintro e W1 ⟨A4, c4, rfl, ho, hx⟩
            refine ⟨_, rfl, post_call [eO 3 1 (.slice A4 ((liveL K (ringL lo (rAt lo m))).length) c4) ((liveL K (ringL lo (rAt lo m))).length) ((liveL K (ringL lo (rAt lo m))).map (Value.int .i64))] rfl rfl hx (one_new (eO_new ho)) (List.pairwise_singleton _ _) (fun σ β' X' hs hb hv hN => ?_)⟩
            have hv1 := (hv 49 rfl).1; have hv2 := (hv 49 rfl).2
            exact ⟨hv1.trans (by rw [hv2]; rfl), (by rw [hv2]; exact (List.cons.inj hN).1)⟩
          · refine sv_any rfl rfl fun ρ β W X cx => ?_
            exact dv_store (n := 2) rfl (cx.out 11 rfl) (dTn (cx.anc 1 rfl)).1 (by kernel_rfl) (by kernel_rfl) (by kernel_rfl) cx (cx.init 2 _ rfl) rfl (Nat.le_of_ble_eq_true rfl) (by kernel_rfl) rfl rfl rfl (fun σ β' X' hs hb hx => by rw [hb 49]; exact hx)
        intro σ β X W19 hD hX hst19 fr hfr
        obtain ⟨A49_19, hu_A49_19⟩ : ∃ z, sA (tg (β 49) 1) = z := ⟨_, rfl⟩
        obtain ⟨c49_19, hu_c49_19⟩ : ∃ z, sC (tg (β 49) 1) = z := ⟨_, rfl⟩
        simp only [zM, exq 0 (hX 0 _ rfl), exq 1 (hX 1 _ rfl), exq 3 (hX 3 _ rfl), exq 4 (hX 4 _ rfl), exq 5 ((dTn (hD 1 lq)).2), exq 6 ((dTn (hD 2 lq))), hu_A49_19, hu_c49_19] at hst19
        dsimp only [mgT, vals, List.take, List.drop, List.cons_append, List.nil_append] at hfr
        simp only [ed 49 ((dTn (hD 1 lq)).1), hu_A49_19, hu_c49_19] at hfr
        clear hX hD hu_A49_19 hu_c49_19; subst hfr; clear σ β X
        refine then_normal ?_
        refine wp_seq ?_
        refine wp_region_P [0] [.k 12 (.bool true)] [(12, 0, 1, 13)] hst19 fun W20 hst20 => ?_
        refine then_normal ?_
        refine wp_seq ?_
        refine wp_region_P [0] [.k 15 (.int .i64 0)] [(15, 0, 1, 16)] hst20 fun W21 hst21 => ?_
        refine then_normal ?_
        refine wp_block ?_
        refine wp_loopN (fun mz az W => ∃ q : Nat, ∃ HA2 : Option Addr, ∃ HC2 : Nat, ∃ u22_ : List Value, q ≤ m ∧ mz = m - q ∧ az = ⟨#[.slice CA cs.length cc, .int .i64 nxt, .int .i64 whn, undef, undef, undef, .bool false, .bool true, .pointer (some ⟨B27_3, 0, none⟩), .int .i64 ((A0 : Int)), .slice GA m GC, .pointer (some ⟨B11_7, 0, none⟩), .bool true, .slice HA2 q HC2, .int .i64 ((j : Int)), .int .i64 ((q : Int)), (u12_.getD 1 undef), (u12_.getD 2 undef), undef, undef, undef, undef, .bool true, .int .i64 nxt, .int .i64 (nxt % 65536), .int .i64 ((nxt % 65536) % 125), .int .i64 lo, .pointer (some ⟨B27_3, 0, none⟩), .pointer (some ⟨B27_3, 0, none⟩), .bool false, .int .i64 whn, .int .i64 (whn % 65536), .int .i64 ((A0 : Int)), .slice A33_6 0 0, .slice A34_9 0 0, .int .i64 ((j : Int)), .slice CA cs.length cc, .int .i64 ((cs.length : Int)), .bool (decide ((j : Int) < (cs.length : Int))), .bool (decide ((j : Int) < (cs.length : Int))), mb (decide ((j : Int) < (cs.length : Int))) (.int .i64 ((j : Int))), mb (decide ((j : Int) < (cs.length : Int))) (.bool (decide ((j : Int) < 60))), .bool ((decide ((j : Int) < (cs.length : Int))) && (decide ((j : Int) < 60))), (u12_.getD 11 undef), (u12_.getD 12 undef), .int .i64 ((j : Int)), .int .i64 ((A0 : Int)), .bool true, .pointer (some ⟨B27_3, 0, none⟩), .agg #[.int .i64 ((rAt lo m)), .slice A49_19 ((liveL K (ringL lo (rAt lo m))).length) c49_19], (u22_.getD 0 undef), (u22_.getD 1 undef), (u22_.getD 2 undef), (u22_.getD 3 undef), (u22_.getD 4 undef), (u22_.getD 5 undef), (u22_.getD 6 undef), (u22_.getD 7 undef), (u22_.getD 8 undef), (u22_.getD 9 undef), (u22_.getD 10 undef), (u22_.getD 11 undef), (u22_.getD 12 undef), (u22_.getD 13 undef), (u22_.getD 14 undef), (u22_.getD 15 undef), (u12_.getD 34 undef), (u12_.getD 35 undef), (u12_.getD 36 undef), (u12_.getD 37 undef), (u12_.getD 38 undef), (u12_.getD 39 undef), (u12_.getD 40 undef), (u12_.getD 41 undef), (u12_.getD 42 undef), (u12_.getD 43 undef), (u12_.getD 44 undef), (u12_.getD 45 undef), (u12_.getD 46 undef), (u12_.getD 47 undef), (u12_.getD 48 undef), (u12_.getD 49 undef), (u12_.getD 50 undef), (u12_.getD 51 undef), (u12_.getD 52 undef), (u12_.getD 53 undef), (u12_.getD 54 undef), (u12_.getD 55 undef), (u12_.getD 56 undef), (u12_.getD 57 undef), (u12_.getD 58 undef), (u12_.getD 59 undef), (u12_.getD 60 undef), (u12_.getD 61 undef), (u12_.getD 62 undef), (u12_.getD 63 undef), (u12_.getD 64 undef), (u12_.getD 65 undef), (u12_.getD 66 undef), (u12_.getD 67 undef), (u12_.getD 68 undef), (u12_.getD 69 undef), (u12_.getD 70 undef), (u12_.getD 71 undef), (u12_.getD 72 undef), (u12_.getD 73 undef), (u12_.getD 74 undef), (u12_.getD 75 undef), (u12_.getD 76 undef), (u12_.getD 77 undef), undef, undef, undef, undef, undef, undef, undef, undef, undef, undef, undef, undef, undef, undef, undef, undef, undef, undef, undef, undef, undef, undef, undef, undef, undef, undef, undef, undef, undef, undef, undef, undef, undef, undef, undef, undef, undef, undef, undef, undef, undef, undef, undef, undef, undef, undef, undef, undef], []⟩ ∧ St w [] [eB B27_3 133 (clockL lo (rAt lo m) K).toArray, eO 3 1 (.slice GA m GC) m ((givenL lo m).map (Value.int .i64)), eO 3 1 (.slice LA lv.length LC) lv.length (lv.map (Value.int .i64)), eO 3 1 (.slice A49_19 ((liveL K (ringL lo (rAt lo m))).length) c49_19) ((liveL K (ringL lo (rAt lo m))).length) ((liveL K (ringL lo (rAt lo m))).map (Value.int .i64)), eB B11_7 41 #[.int .i64 ((rAt lo m)), .slice A49_19 ((liveL K (ringL lo (rAt lo m))).length) c49_19], eO 4 1 (.slice HA2 q HC2) q ((hadL lo m K q).map Value.bool)] W) (m - 0) ?_ ?_
        · -- the loop begins
          have hp23 := hst21.pick [0, 1, 2, 4, 5, 3] (by decide) rfl
          exact ⟨0, HA, HC, [(u12_.getD 18 undef), (u12_.getD 19 undef), (u12_.getD 20 undef), (u12_.getD 21 undef), (u12_.getD 22 undef), (u12_.getD 23 undef), (u12_.getD 24 undef), (u12_.getD 25 undef), (u12_.getD 26 undef), (u12_.getD 27 undef), (u12_.getD 28 undef), (u12_.getD 29 undef), (u12_.getD 30 undef), (u12_.getD 31 undef), (u12_.getD 32 undef), (u12_.getD 33 undef)], Nat.zero_le _, rfl, rfl, hp23⟩
        rintro n22 a22 W22 ⟨q, HA2, HC2, u22_, hq, rfl, rfl, hst22⟩
        refine wp_seq ?_
        refine wp_seq ?_
        refine wp_region_P [0, 0, 2, 7] [.k 50 (.int .i64 ((q : Int))), .k 51 (.slice GA m GC), .k 52 (.int .i64 ((m : Int))), .k 53 (.bool (decide ((q : Int) < (m : Int))))] [(50, 0, 4, 54)] hst22 fun W24 hst24 => ?_
        refine then_normal ?_
        rcases Bool.eq_false_or_eq_true (decide ((q : Int) < (m : Int))) with hs25 | hs25
        · skip
          have hs25p : (q : Int) < (m : Int) := by simpa using hs25
          refine wp_cond_true (show Act.eval _ _ = .bool true from (congrArg Value.bool hs25)) ?_
          refine wp_skip ?_
          refine then_normal ?_
          refine wp_seq ?_
          refine wp_block ?_
          refine wp_region_T [0, 0, 0, 0, 12, 28, 62, 126, 254, 511, 1023] [[], [], [], [], [1], [1], [0], [], [], [6, 5]] [[], [], [], [], [], [], [], [], [6], [7]] [[], [], [], [], [], [], [], [], [], [5]] [.k 56 (.slice HA2 q HC2), .k 57 (.pointer (some ⟨B27_3, 0, none⟩)), .k 58 (.slice GA m GC), .k 59 (.int .i64 ((q : Int))), .c 60 (.pointer (some ((ad GA).add q))), .c 61 (.int .i64 (rAt lo q)), .c 62 (.int .i64 (stateF lo (rAt lo m) K (rAt lo q))), .k 63 (.bool ((stateF lo (rAt lo m) K (rAt lo q)) == 2)), .a 64, .a 65, .a 13] (fun ix σ β X => match ix with | 0 => True | 1 => True | 2 => True | 3 => True | 4 => True | 5 => True | 6 => True | 7 => True | 8 => σ 64 = .slice (sA (β 64)) 1 1 ∧ X 6 = eO 4 1 (.slice (sA (β 64)) 1 1) 1 ([.bool ((stateF lo (rAt lo m) K (rAt lo q)) == 2)]) | 9 => σ 65 = .slice (sA (β 65)) (q + 1) (sC (β 65)) ∧ X 7 = eO 4 1 (.slice (sA (β 65)) (q + 1) (sC (β 65))) (q + 1) ((hadL lo m K (q + 1)).map Value.bool) | 10 => σ 13 = .slice (sA (β 65)) (q + 1) (sC (β 65)) | _ => True) [0, 1, 2, 3, 4, 6, 7] [4, 5, 6, 8, 9, 10] [(13, 10, 1, 14), (42, 0, 10, 52)] hst24 ?_ ?_ ?_
          · exact fun ix _ _ _ _ _ _ hs hb hx h => match ix, h with
            | 8, h => by dsimp only at h ⊢; rw [← hs 64 rfl, ← hb 64 rfl, ← hx 6 rfl]; exact h
            | 9, h => by dsimp only at h ⊢; rw [← hs 65 rfl, ← hb 65 rfl, ← hx 7 rfl]; exact h
            | 10, h => by dsimp only at h ⊢; rw [← hs 13 rfl, ← hb 65 rfl]; exact h
            | 0, _ | 1, _ | 2, _ | 3, _ | 4, _ | 5, _ | 6, _ | 7, _ | _ + 11, _ => trivial
          · refine ⟨?_, ?_, ?_, ?_, ?_, ?_, trivial⟩
            · exact s4 rfl (fun _ _ _ h => h) fun cx => run_indexSl (e := 3) (m := q) rfl (by kernel_rfl) (by kernel_rfl) (cx.anc 2 rfl) (cx.anc 3 rfl) (by omega) (by omega) (At.of_own (cx.row (cx.init 1 _ rfl) rfl)) (by first | (simp [given_len, had_len]; done) | (simp [given_len, had_len]; omega))
            · exact s4 rfl (fun _ _ _ h => h) fun cx => run_load1 rfl (by kernel_rfl) (cx.anc 4 rfl) (At.cellAd (At.of_own (cx.row (cx.init 1 _ rfl) rfl)) (given_at (by omega)))
            · exact sv_call rfl rfl rfl rfl rfl (fun _ _ _ h => h) fun ρ β W X cx => ⟨_, _, run_callF (args := #[.pointer (some ⟨B27_3, 0, none⟩), .int .i64 (rAt lo q)]) rfl cx.sees rfl (by kernel_rfl) (map2 (cx.anc 1 rfl) (cx.anc 5 rfl)), cstate_any _ lo (rAt lo m) K (rAt lo q) _ (cx.blk (cx.init 0 _ rfl) rfl) hlo hnx hT.len⟩
            · refine sv_any rfl rfl fun ρ β W X cx => ?_
              have fF63 : ρ (.tmp 63) = .bool ((stateF lo (rAt lo m) K (rAt lo q)) == 2) := (cx.anc 7 rfl)
              exact dv_lit (e := 4) (xs := [.bool ((stateF lo (rAt lo m) K (rAt lo q)) == 2)]) rfl (by simp [go_sem, fF63]) rfl (by decide) rfl rfl (fun σ β' X' hs hb hv hx => ⟨hv, hx⟩)
            · refine sv_any rfl rfl fun ρ β W X cx => ?_
              obtain ⟨i0, hi0, hz0, hz1, hz2⟩ := info_parts infoBoolT
              refine dv_append (n := q) (m := 1) (nm := q + 1) (xs := (hadL lo m K q).map Value.bool) (news := [.bool ((stateF lo (rAt lo m) K (rAt lo q)) == 2)]) (xs' := (hadL lo m K (q + 1)).map Value.bool) rfl (ty := 83) rfl (by kernel_rfl) hi0 hz0 hz1 hz2 rfl (cx.anc 0 rfl) cx (cx.init 5 _ rfl) rfl (dTn (cx.anc 8 rfl)).1 (by first | (simp; done) | (simp; omega)) (At.of_own (cx.row (dTn (cx.anc 8 rfl)).2 rfl)) (by simp [Value.oneCell']) (by simp only [maxLen]; omega) (by omega) rfl rfl rfl (by omega) (had_map _ _ _ _) (fun σ β' X' hs hb hv hx => ?_)
              exact ⟨hv, hx⟩
            · exact sv rfl rfl rfl rfl rfl _ (fun _ _ _ h => h) (fun β β' h => by rw [h 65 (by decide)]) fun ρ β W X cx => run_assign' rfl (dTn (cx.anc 9 rfl)).1
          intro σ β X W26 hD hX hst26 fr hfr
          obtain ⟨A64_26, hu_A64_26⟩ : ∃ z, sA (β 64) = z := ⟨_, rfl⟩
          obtain ⟨A65_26, hu_A65_26⟩ : ∃ z, sA (β 65) = z := ⟨_, rfl⟩
          obtain ⟨c65_26, hu_c65_26⟩ : ∃ z, sC (β 65) = z := ⟨_, rfl⟩
          simp only [zM, exq 0 (hX 0 _ rfl), exq 1 (hX 1 _ rfl), exq 2 (hX 2 _ rfl), exq 3 (hX 3 _ rfl), exq 4 (hX 4 _ rfl), exq 6 ((dTn (hD 8 lq)).2), exq 7 ((dTn (hD 9 lq)).2), hu_A64_26, hu_A65_26, hu_c65_26] at hst26
          dsimp only [mgT, vals, List.take, List.drop, List.cons_append, List.nil_append] at hfr
          simp only [ed 64 ((dTn (hD 8 lq)).1), ed 65 ((dTn (hD 9 lq)).1), ed 13 ((dTn (hD 10 lq))), hu_A64_26, hu_A65_26, hu_c65_26] at hfr
          clear hX hD hu_A64_26 hu_A65_26 hu_c65_26; subst hfr; clear σ β X
          refine blk_normal ?_
          refine then_normal ?_
          refine wp_region_P [0, 1, 3] [.k 54 (.int .i64 ((q : Int))), tI 55 ((q : Int) + 1) (by omega), .k 15 (.int .i64 ((q : Int) + 1))] [(15, 2, 1, 16), (38, 0, 2, 40)] hst26 fun W27 hst27 => ?_
          refine then_normal ?_
          refine ⟨m - ((q + 1)), by omega, ?_⟩
          have hp28 := hst27.pick [0, 1, 2, 3, 4, 6] (by decide) rfl
          exact ⟨(q + 1), A65_26, c65_26, [.int .i64 ((q : Int)), .slice GA m GC, .int .i64 ((m : Int)), .bool (decide ((q : Int) < (m : Int))), .int .i64 ((q : Int)), .int .i64 ((q : Int) + 1), .slice HA2 q HC2, .pointer (some ⟨B27_3, 0, none⟩), .slice GA m GC, .int .i64 ((q : Int)), .pointer (some ((ad GA).add q)), .int .i64 (rAt lo q), .int .i64 (stateF lo (rAt lo m) K (rAt lo q)), .bool ((stateF lo (rAt lo m) K (rAt lo q)) == 2), .slice A64_26 1 1, .slice A65_26 (q + 1) c65_26], by omega, rfl, rfl, hp28⟩
        have hs25p : ¬ ((q : Int) < (m : Int)) := by simpa using hs25
        have hqm : q = m := by omega
        rw [hqm] at hs25 hst24
        rw [hqm]
        refine wp_cond_false (show Act.eval _ _ = .bool false from (congrArg Value.bool hs25)) ?_
        refine wp_exit ?_
        refine then_exit ?_
        refine then_exit ?_
        refine blk_eq ?_
        refine then_normal ?_
        have hp29 := hst24.pick [0, 1, 4, 3, 5] (by decide) rfl
        exact ⟨m, K, true, (rAt lo m), A49_19, c49_19, (liveL K (ringL lo (rAt lo m))), GA, GC, HA2, HC2, m, (hadL lo m K m), [.int .i64 ((m : Int)), .int .i64 ((j : Int)), .int .i64 ((A0 : Int)), .bool true, .pointer (some ⟨B27_3, 0, none⟩), .agg #[.int .i64 ((rAt lo m)), .slice A49_19 ((liveL K (ringL lo (rAt lo m))).length) c49_19], .int .i64 ((m : Int)), .slice GA m GC, .int .i64 ((m : Int)), .bool (decide ((m : Int) < (m : Int))), (u22_.getD 4 undef), (u22_.getD 5 undef), (u22_.getD 6 undef), (u22_.getD 7 undef), (u22_.getD 8 undef), (u22_.getD 9 undef), (u22_.getD 10 undef), (u22_.getD 11 undef), (u22_.getD 12 undef), (u22_.getD 13 undef), (u22_.getD 14 undef), (u22_.getD 15 undef)], hmj, tinv_snap hT hlo (by omega), (had_len lo m K m).symm, by have h_ := snap_len lo (rAt lo m) K; omega, fun _ => by omega, fun h => (by cases h), rfl, hp29⟩
      · skip
        have hd31 : ((j : Int) == (A0 : Int)) = false := hja
        refine wp_region_P [0, 0, 3] [.k 45 (.int .i64 ((j : Int))), .k 46 (.int .i64 ((A0 : Int))), .e 47 (.bool ((j : Int) == (A0 : Int))) (.bool false) (congrArg Value.bool hd31)] [(45, 0, 3, 48)] hst14 fun W30 hst30 => ?_
        refine then_normal ?_
        refine wp_cond_false (show Act.eval _ _ = .bool false from rfl) ?_
        refine wp_skip ?_
        refine then_normal ?_
        have hp32 := hst30.pick [0, 1, 2, 3, 4] (by decide) rfl
        exact ⟨m, K, tk, hi, LA, LC, lv, GA, GC, HA, HC, hn, hd, [(u12_.getD 0 undef), .int .i64 ((j : Int)), .int .i64 ((A0 : Int)), .bool false, (u12_.getD 16 undef), (u12_.getD 17 undef), (u12_.getD 18 undef), (u12_.getD 19 undef), (u12_.getD 20 undef), (u12_.getD 21 undef), (u12_.getD 22 undef), (u12_.getD 23 undef), (u12_.getD 24 undef), (u12_.getD 25 undef), (u12_.getD 26 undef), (u12_.getD 27 undef), (u12_.getD 28 undef), (u12_.getD 29 undef), (u12_.getD 30 undef), (u12_.getD 31 undef), (u12_.getD 32 undef), (u12_.getD 33 undef)], hmj, hT, hhn, hl9, fun h => Nat.le_of_lt (htk h), hd0, rfl, hp32⟩
    rintro a16 W16 ⟨m, K, tk, hi, LA, LC, lv, GA, GC, HA, HC, hn, hd, u16_, hmj, hT, hhn, hl9, htk, hd0, rfl, hst16⟩
    have hnx := rAt_on lo m
    refine wp_seq ?_
    refine wp_seq ?_
    refine wp_region_T [0, 0, 3, 7, 15, 31, 63, 127, 255, 511, 1023, 2047] [] [] [] [.k 66 (.slice CA cs.length cc), .k 67 (.int .i64 ((j : Int))), .c 68 (.pointer (some ((ad CA).add (j * 3)))), .c 69 (.pointer (some ((ad CA).add (j * 3 + 0)))), .c 70 (.int .i64 ((cs.getD j c0).1)), tAn 71 .i64 ((cs.getD j c0).1) 1 (((cs.getD j c0).1) % 2) (bits_mask ((cs.getD j c0).1) 1 (by decide)), .k 72 (.bool ((((cs.getD j c0).1) % 2) == 0)), .k 73 (.bool ((((cs.getD j c0).1) % 2) == 0)), .z 74 (!((((cs.getD j c0).1) % 2) == 0)) (.slice GA m GC), .z 75 (!((((cs.getD j c0).1) % 2) == 0)) (.int .i64 ((m : Int))), .z 76 (!((((cs.getD j c0).1) % 2) == 0)) (.bool ((m : Int) == 0)), tO 77 ((((cs.getD j c0).1) % 2) == 0) ((m : Int) == 0)] (fun _ _ _ _ => True) [0, 1, 2, 3, 4] [2, 3, 4] [(66, 0, 12, 78)] hst16 ?_ ?_ ?_
    · exact fun _ _ _ _ _ _ _ _ _ _ h => h
    · refine ⟨?_, ?_, ?_, trivial⟩
      · exact s4 rfl (fun _ _ _ h => h) fun cx => run_indexSlM (e := 86) (m := j) (sz := 3) rfl (by kernel_rfl) (by kernel_rfl) (cx.anc 0 rfl) (cx.anc 1 rfl) (by omega) (by omega) (hC.ext cx.upd.to_ext) (by have h_ := flatLen (f := cellsC) (sz := 3) cellsC_len cs; show 0 < (List.flatMap cellsC cs).length; omega)
      · exact s4 rfl (fun _ _ _ h => h) fun cx => run_fieldAd rfl (by kernel_rfl) (cx.anc 2 rfl)
      · exact s4 rfl (fun _ _ _ h => h) fun cx => run_load1 rfl (by kernel_rfl) (cx.anc 3 rfl) (At.eltc (f := cellsC) (k := 0) cellsC_len (hC.ext cx.upd.to_ext) (getD_some (ts := cs) (m := j) c0 (by omega)) rfl)
    intro σ β X W33 hD hX hst33 fr hfr
    simp only [zM, exq 0 (hX 0 _ rfl), exq 1 (hX 1 _ rfl), exq 2 (hX 2 _ rfl), exq 3 (hX 3 _ rfl), exq 4 (hX 4 _ rfl)] at hst33
    dsimp only [mgT, vals, List.take, List.drop, List.cons_append, List.nil_append] at hfr
    clear hX hD; subst hfr; clear σ β X
    refine then_normal ?_
    rcases Bool.eq_false_or_eq_true (((((cs.getD j c0).1) % 2) == 0) || ((m : Int) == 0)) with hs34 | hs34
    · skip
      have hs34p := hs34
      simp only [zB] at hs34p
      refine wp_cond_true (show Act.eval _ _ = .bool true from (congrArg Value.bool hs34)) ?_
      refine wp_seq ?_
      have hm60 : m < 60 := by omega
      have hfar := far_r hlo hm60
      refine wp_region_T [0, 1, 3, 7, 7, 15, 63] [[], [0]] [[], [5]] [[], [0]] [.k 79 (.pointer (some ⟨B27_3, 0, none⟩)), .a 80, .c 78 (.tuple #[.int .i64 ((rAt lo m)), .int .i64 0]), .k 81 (.int .i64 ((rAt lo m))), .k 82 (.int .i64 0), .k 16 (.int .i64 ((rAt lo m))), .k 17 (.int .i64 0)] (fun ix σ β X => match ix with | 0 => True | 1 => σ 80 = .tuple #[.int .i64 ((rAt lo m)), .int .i64 0] ∧ X 5 = eB B27_3 133 (clockL lo (nxF (rAt lo m)) (K.set (rAt lo m).toNat 1)).toArray | _ => True) [1, 2, 3, 4, 5] [1, 2] [(16, 5, 2, 18), (60, 2, 1, 61), (0, 0, 2, 2), (0, 3, 2, 2)] hst33 ?_ ?_ ?_
      · exact fun ix _ _ _ _ _ _ hs hb hx h => match ix, h with
        | 1, h => by dsimp only at h ⊢; rw [← hs 80 rfl, ← hx 5 rfl]; exact h
        | 0, _ | _ + 2, _ => trivial
      · refine ⟨?_, ?_, trivial⟩
        · refine sv_any rfl rfl fun ρ β W X cx => ?_
          refine DoesU.call (run_callF (args := #[.pointer (some ⟨B27_3, 0, none⟩), .int .i64 0]) rfl cx.sees rfl (by kernel_rfl) (map2 (cx.anc 0 rfl) (cx.sees.const _))) ?_
          refine (cbegin_any _ lo (rAt lo m) K _ (cx.blk (cx.init 0 _ rfl) rfl) hlo hnx hT.len hfar).mono ?_
          rintro e W1 ⟨rfl, hb1, hu⟩
          refine ⟨_, rfl, post_mut (cx.init 0 _ rfl) rfl rfl hu hb1 (fun σ β' X' hs hb hv hx => ?_)⟩
          exact ⟨(hv 80 rfl).1.trans rfl, hx⟩
        · exact s4 rfl (fun _ _ _ h => h) fun cx => run_move' rfl (dTn (cx.anc 1 rfl)).1
      intro σ β X W35 hD hX hst35 fr hfr
      simp only [zM, exq 1 (hX 1 _ rfl), exq 2 (hX 2 _ rfl), exq 3 (hX 3 _ rfl), exq 4 (hX 4 _ rfl), exq 5 ((dTn (hD 1 lq)).2)] at hst35
      dsimp only [mgT, vals, List.take, List.drop, List.cons_append, List.nil_append] at hfr
      simp only [ed 80 ((dTn (hD 1 lq)).1)] at hfr
      clear hX hD; subst hfr; clear σ β X
      refine then_normal ?_
      refine wp_seq ?_
      refine wp_seq ?_
      refine wp_region_P [0, 1] [.k 83 (.int .i64 0), .k 84 (.bool true)] [(83, 0, 2, 85)] hst35 fun W36 hst36 => ?_
      refine then_normal ?_
      refine wp_cond_true (show Act.eval _ _ = .bool true from rfl) ?_
      refine wp_region_T [0, 0, 2, 7, 15] [[], [], [], [5, 0]] [[], [], [5], [6]] [[], [], [], [0]] [.k 85 (.slice GA m GC), .k 86 (.int .i64 ((rAt lo m))), .a 87, .a 88, .a 10] (fun ix σ β X => match ix with | 0 => True | 1 => True | 2 => σ 87 = .slice (sA (β 87)) 1 1 ∧ X 5 = eO 3 1 (.slice (sA (β 87)) 1 1) 1 ([.int .i64 ((rAt lo m))]) | 3 => σ 88 = .slice (sA (β 88)) (m + 1) (sC (β 88)) ∧ X 6 = eO 3 1 (.slice (sA (β 88)) (m + 1) (sC (β 88))) (m + 1) ((givenL lo (m + 1)).map (Value.int .i64)) | 4 => σ 10 = .slice (sA (β 88)) (m + 1) (sC (β 88)) | _ => True) [1, 2, 3, 4, 5, 6] [2, 3, 4] [(10, 4, 1, 11), (74, 0, 4, 78)] hst36 ?_ ?_ ?_
      · exact fun ix _ _ _ _ _ _ hs hb hx h => match ix, h with
        | 2, h => by dsimp only at h ⊢; rw [← hs 87 rfl, ← hb 87 rfl, ← hx 5 rfl]; exact h
        | 3, h => by dsimp only at h ⊢; rw [← hs 88 rfl, ← hb 88 rfl, ← hx 6 rfl]; exact h
        | 4, h => by dsimp only at h ⊢; rw [← hs 10 rfl, ← hb 88 rfl]; exact h
        | 0, _ | 1, _ | _ + 5, _ => trivial
      · refine ⟨?_, ?_, ?_, trivial⟩
        · refine sv_any rfl rfl fun ρ β W X cx => ?_
          have fF86 : ρ (.tmp 86) = .int .i64 ((rAt lo m)) := (cx.anc 1 rfl)
          exact dv_lit (e := 3) (xs := [.int .i64 ((rAt lo m))]) rfl (by simp [go_sem, fF86]) rfl (by decide) rfl rfl (fun σ β' X' hs hb hv hx => ⟨hv, hx⟩)
        · refine sv_any rfl rfl fun ρ β W X cx => ?_
          obtain ⟨i0, hi0, hz0, hz1, hz2⟩ := info_parts Tryd.infoInt
          refine dv_append (n := m) (m := 1) (nm := m + 1) (xs := (givenL lo m).map (Value.int .i64)) (news := [.int .i64 ((rAt lo m))]) (xs' := (givenL lo (m + 1)).map (Value.int .i64)) rfl (ty := 28) rfl (by kernel_rfl) hi0 hz0 hz1 hz2 rfl (cx.anc 0 rfl) cx (cx.init 0 _ rfl) rfl (dTn (cx.anc 2 rfl)).1 (by first | (simp; done) | (simp; omega)) (At.of_own (cx.row (dTn (cx.anc 2 rfl)).2 rfl)) (by simp [Value.oneCell']) (by simp only [maxLen]; omega) (by omega) rfl rfl rfl (by omega) (given_map _ _) (fun σ β' X' hs hb hv hx => ?_)
          exact ⟨hv, hx⟩
        · exact sv rfl rfl rfl rfl rfl _ (fun _ _ _ h => h) (fun β β' h => by rw [h 88 (by decide)]) fun ρ β W X cx => run_assign' rfl (dTn (cx.anc 3 rfl)).1
      intro σ β X W37 hD hX hst37 fr hfr
      obtain ⟨A87_37, hu_A87_37⟩ : ∃ z, sA (β 87) = z := ⟨_, rfl⟩
      obtain ⟨A88_37, hu_A88_37⟩ : ∃ z, sA (β 88) = z := ⟨_, rfl⟩
      obtain ⟨c88_37, hu_c88_37⟩ : ∃ z, sC (β 88) = z := ⟨_, rfl⟩
      simp only [zM, exq 1 (hX 1 _ rfl), exq 2 (hX 2 _ rfl), exq 3 (hX 3 _ rfl), exq 4 (hX 4 _ rfl), exq 5 ((dTn (hD 2 lq)).2), exq 6 ((dTn (hD 3 lq)).2), hu_A87_37, hu_A88_37, hu_c88_37] at hst37
      dsimp only [mgT, vals, List.take, List.drop, List.cons_append, List.nil_append] at hfr
      simp only [ed 87 ((dTn (hD 2 lq)).1), ed 88 ((dTn (hD 3 lq)).1), ed 10 ((dTn (hD 4 lq))), hu_A87_37, hu_A88_37, hu_c88_37] at hfr
      clear hX hD hu_A87_37 hu_A88_37 hu_c88_37; subst hfr; clear σ β X
      refine then_normal ?_
      refine wp_exit ?_
      refine then_exit ?_
      refine blk_eq ?_
      refine then_normal ?_
      refine wp_region_P [0, 1, 3] [.k 43 (.int .i64 ((j : Int))), tI 44 ((j : Int) + 1) (by omega), .k 14 (.int .i64 ((j : Int) + 1))] [(14, 2, 1, 15), (28, 0, 2, 30)] hst37 fun W38 hst38 => ?_
      refine then_normal ?_
      rw [rAt_next] at hst38
      refine ⟨60 - ((j + 1)), by omega, ?_⟩
      have hp39 := hst38.pick [3, 5, 0, 1, 2] (by decide) rfl
      exact ⟨(j + 1), (m + 1), (K.set (rAt lo m).toNat 1), tk, hi, LA, LC, lv, A88_37, c88_37, HA, HC, hn, hd, [(u16_.getD 0 undef), .int .i64 ((rAt lo m)), .int .i64 0, .int .i64 ((j : Int)), .slice CA cs.length cc, .int .i64 ((cs.length : Int)), .bool (decide ((j : Int) < (cs.length : Int))), .bool (decide ((j : Int) < (cs.length : Int))), mb (decide ((j : Int) < (cs.length : Int))) (.int .i64 ((j : Int))), mb (decide ((j : Int) < (cs.length : Int))) (.bool (decide ((j : Int) < 60))), .bool ((decide ((j : Int) < (cs.length : Int))) && (decide ((j : Int) < 60))), .int .i64 ((j : Int)), .int .i64 ((j : Int) + 1), (u16_.getD 1 undef), (u16_.getD 2 undef), (u16_.getD 3 undef), (u16_.getD 4 undef), (u16_.getD 5 undef), (u16_.getD 6 undef), (u16_.getD 7 undef), (u16_.getD 8 undef), (u16_.getD 9 undef), (u16_.getD 10 undef), (u16_.getD 11 undef), (u16_.getD 12 undef), (u16_.getD 13 undef), (u16_.getD 14 undef), (u16_.getD 15 undef), (u16_.getD 16 undef), (u16_.getD 17 undef), (u16_.getD 18 undef), (u16_.getD 19 undef), (u16_.getD 20 undef), (u16_.getD 21 undef), .slice CA cs.length cc, .int .i64 ((j : Int)), .pointer (some ((ad CA).add (j * 3))), .pointer (some ((ad CA).add (j * 3 + 0))), .int .i64 ((cs.getD j c0).1), .int .i64 (((cs.getD j c0).1) % 2), .bool ((((cs.getD j c0).1) % 2) == 0), .bool ((((cs.getD j c0).1) % 2) == 0), mb (!((((cs.getD j c0).1) % 2) == 0)) (.slice GA m GC), mb (!((((cs.getD j c0).1) % 2) == 0)) (.int .i64 ((m : Int))), mb (!((((cs.getD j c0).1) % 2) == 0)) (.bool ((m : Int) == 0)), .bool (((((cs.getD j c0).1) % 2) == 0) || ((m : Int) == 0)), .tuple #[.int .i64 ((rAt lo m)), .int .i64 0], .pointer (some ⟨B27_3, 0, none⟩), .tuple #[.int .i64 ((rAt lo m)), .int .i64 0], .int .i64 ((rAt lo m)), .int .i64 0, .int .i64 0, .bool true, .slice GA m GC, .int .i64 ((rAt lo m)), .slice A87_37 1 1, .slice A88_37 (m + 1) c88_37, (u12_.getD 57 undef), (u12_.getD 58 undef), (u12_.getD 59 undef), (u12_.getD 60 undef), (u12_.getD 61 undef), (u12_.getD 62 undef), (u12_.getD 63 undef), (u12_.getD 64 undef), (u12_.getD 65 undef), (u12_.getD 66 undef), (u12_.getD 67 undef), (u12_.getD 68 undef), (u12_.getD 69 undef), (u12_.getD 70 undef), (u12_.getD 71 undef), (u12_.getD 72 undef), (u12_.getD 73 undef), (u12_.getD 74 undef), (u12_.getD 75 undef), (u12_.getD 76 undef), (u12_.getD 77 undef)], by omega, by omega, tinv_begin hT (by omega), hhn, hl9, by omega, fun h => Nat.lt_succ_of_le (htk h), hd0, rfl, rfl, hp39⟩
    have hs34p := hs34
    simp only [zB] at hs34p
    obtain ⟨hs34p1, hs34p2⟩ := hs34p
    refine wp_cond_false (show Act.eval _ _ = .bool false from (congrArg Value.bool hs34)) ?_
    refine wp_skip ?_
    refine then_normal ?_
    have hmp : 0 < m := by omega
    obtain ⟨kk, hke, hkm⟩ := tmod_nat (a := (cs.getD j c0).2.1 % 65536) (m := m) (by omega) hmp
    have hkn := knows_r hlo (by omega : m ≤ 60) hkm
    rcases Bool.eq_false_or_eq_true (liveF K (rAt lo kk)) with hlk | hlk
    · skip
      refine wp_region_T [0, 0, 0, 0, 12, 28, 60, 124, 0, 256, 1020, 2046, 4094, 0, 0, 24576, 57344, 122880, 253952, 516096, 1048575] [[], [], [], [], [], [], [], [], [], [], [], [1], [1], [], [], [], [], [], [], [], [0]] [[], [], [], [], [], [], [], [], [], [], [], [], [], [], [], [], [], [], [], [], [5]] [[], [], [], [], [], [], [], [], [], [], [], [], [], [], [], [], [], [], [], [], [0]] [.k 89 (.pointer (some ⟨B27_3, 0, none⟩)), .k 90 (.slice GA m GC), .k 91 (.slice CA cs.length cc), .k 92 (.int .i64 ((j : Int))), .c 93 (.pointer (some ((ad CA).add (j * 3)))), .c 94 (.pointer (some ((ad CA).add (j * 3 + 1)))), .c 95 (.int .i64 ((cs.getD j c0).2.1)), tAn 96 .i64 ((cs.getD j c0).2.1) 65535 (((cs.getD j c0).2.1) % 65536) (bits_mask ((cs.getD j c0).2.1) 16 (by decide)), .k 97 (.slice GA m GC), .k 98 (.int .i64 ((m : Int))), .c 99 (.int .i64 ((kk : Int))), .c 100 (.pointer (some ((ad GA).add kk))), .c 101 (.int .i64 (rAt lo kk)), .k 102 (.slice CA cs.length cc), .k 103 (.int .i64 ((j : Int))), .c 104 (.pointer (some ((ad CA).add (j * 3)))), .c 105 (.pointer (some ((ad CA).add (j * 3 + 2)))), .c 106 (.int .i64 ((cs.getD j c0).2.2)), tAn 107 .i64 ((cs.getD j c0).2.2) 1 (((cs.getD j c0).2.2) % 2) (bits_mask ((cs.getD j c0).2.2) 1 (by decide)), tI 108 (2 + (((cs.getD j c0).2.2) % 2)) (by omega), .a 109] (fun ix σ β X => match ix with | 0 => True | 1 => True | 2 => True | 3 => True | 4 => True | 5 => True | 6 => True | 7 => True | 8 => True | 9 => True | 10 => True | 11 => True | 12 => True | 13 => True | 14 => True | 15 => True | 16 => True | 17 => True | 18 => True | 19 => True | 20 => σ 109 = .int .i64 0 ∧ X 5 = eB B27_3 133 (clockL lo (rAt lo m) (K.set (rAt lo kk).toNat (2 + (((cs.getD j c0).2.2) % 2)))).toArray | _ => True) [1, 2, 3, 4, 5] [4, 5, 6, 10, 11, 12, 15, 16, 17, 20] [(89, 0, 21, 110)] hst33 ?_ ?_ ?_
      · exact fun ix _ _ _ _ _ _ hs hb hx h => match ix, h with
        | 20, h => by dsimp only at h ⊢; rw [← hs 109 rfl, ← hx 5 rfl]; exact h
        | 0, _ | 1, _ | 2, _ | 3, _ | 4, _ | 5, _ | 6, _ | 7, _ | 8, _ | 9, _ | 10, _ | 11, _ | 12, _ | 13, _ | 14, _ | 15, _ | 16, _ | 17, _ | 18, _ | 19, _ | _ + 21, _ => trivial
      · refine ⟨?_, ?_, ?_, ?_, ?_, ?_, ?_, ?_, ?_, ?_, trivial⟩
        · exact s4 rfl (fun _ _ _ h => h) fun cx => run_indexSlM (e := 86) (m := j) (sz := 3) rfl (by kernel_rfl) (by kernel_rfl) (cx.anc 2 rfl) (cx.anc 3 rfl) (by omega) (by omega) (hC.ext cx.upd.to_ext) (by have h_ := flatLen (f := cellsC) (sz := 3) cellsC_len cs; show 0 < (List.flatMap cellsC cs).length; omega)
        · exact s4 rfl (fun _ _ _ h => h) fun cx => run_fieldAd rfl (by kernel_rfl) (cx.anc 4 rfl)
        · exact s4 rfl (fun _ _ _ h => h) fun cx => run_load1 rfl (by kernel_rfl) (cx.anc 5 rfl) (At.eltc (f := cellsC) (k := 1) cellsC_len (hC.ext cx.upd.to_ext) (getD_some (ts := cs) (m := j) c0 (by omega)) rfl)
        · exact s4 rfl (fun _ _ _ h => h) fun cx => run_rem rfl (cx.anc 7 rfl) (cx.anc 9 rfl) (by omega) hke
        · exact s4 rfl (fun _ _ _ h => h) fun cx => run_indexSl (e := 3) (m := kk) rfl (by kernel_rfl) (by kernel_rfl) (cx.anc 1 rfl) (cx.anc 10 rfl) (by omega) (by omega) (At.of_own (cx.row (cx.init 1 _ rfl) rfl)) (by first | (simp [given_len, had_len]; done) | (simp [given_len, had_len]; omega))
        · exact s4 rfl (fun _ _ _ h => h) fun cx => run_load1 rfl (by kernel_rfl) (cx.anc 11 rfl) (At.cellAd (At.of_own (cx.row (cx.init 1 _ rfl) rfl)) (given_at (by omega)))
        · exact s4 rfl (fun _ _ _ h => h) fun cx => run_indexSlM (e := 86) (m := j) (sz := 3) rfl (by kernel_rfl) (by kernel_rfl) (cx.anc 13 rfl) (cx.anc 14 rfl) (by omega) (by omega) (hC.ext cx.upd.to_ext) (by have h_ := flatLen (f := cellsC) (sz := 3) cellsC_len cs; show 0 < (List.flatMap cellsC cs).length; omega)
        · exact s4 rfl (fun _ _ _ h => h) fun cx => run_fieldAd rfl (by kernel_rfl) (cx.anc 15 rfl)
        · exact s4 rfl (fun _ _ _ h => h) fun cx => run_load1 rfl (by kernel_rfl) (cx.anc 16 rfl) (At.eltc (f := cellsC) (k := 2) cellsC_len (hC.ext cx.upd.to_ext) (getD_some (ts := cs) (m := j) c0 (by omega)) rfl)
        · refine sv_any rfl rfl fun ρ β W X cx => ?_
          refine DoesU.call (run_callF (args := #[.pointer (some ⟨B27_3, 0, none⟩), .int .i64 (rAt lo kk), .int .i64 (2 + (((cs.getD j c0).2.2) % 2))]) rfl cx.sees rfl (by kernel_rfl) (map3 (cx.anc 0 rfl) (cx.anc 12 rfl) (cx.anc 19 rfl))) ?_
          refine (cend_live _ lo (rAt lo m) K (rAt lo kk) (2 + (((cs.getD j c0).2.2) % 2)) _ (cx.blk (cx.init 0 _ rfl) rfl) hlo hnx hT.len hkn (by omega) hlk).mono ?_
          rintro e W1 ⟨rfl, hb1, hu⟩
          refine ⟨_, rfl, post_mut (cx.init 0 _ rfl) rfl rfl hu hb1 (fun σ β' X' hs hb hv hx => ?_)⟩
          exact ⟨(hv 109 rfl).1.trans rfl, hx⟩
      intro σ β X W40 hD hX hst40 fr hfr
      simp only [zM, exq 1 (hX 1 _ rfl), exq 2 (hX 2 _ rfl), exq 3 (hX 3 _ rfl), exq 4 (hX 4 _ rfl), exq 5 ((dTn (hD 20 lq)).2)] at hst40
      dsimp only [mgT, vals, List.take, List.drop, List.cons_append, List.nil_append] at hfr
      simp only [ed 109 ((dTn (hD 20 lq)).1)] at hfr
      clear hX hD; subst hfr; clear σ β X
      refine blk_normal ?_
      refine then_normal ?_
      refine wp_region_P [0, 1, 3] [.k 43 (.int .i64 ((j : Int))), tI 44 ((j : Int) + 1) (by omega), .k 14 (.int .i64 ((j : Int) + 1))] [(14, 2, 1, 15), (28, 0, 2, 30)] hst40 fun W41 hst41 => ?_
      refine then_normal ?_
      refine ⟨60 - ((j + 1)), by omega, ?_⟩
      have hp42 := hst41.pick [4, 0, 1, 2, 3] (by decide) rfl
      exact ⟨(j + 1), m, (K.set (rAt lo kk).toNat (2 + (cs.getD j c0).2.2 % 2)), tk, hi, LA, LC, lv, GA, GC, HA, HC, hn, hd, [(u16_.getD 0 undef), (u12_.getD 1 undef), (u12_.getD 2 undef), .int .i64 ((j : Int)), .slice CA cs.length cc, .int .i64 ((cs.length : Int)), .bool (decide ((j : Int) < (cs.length : Int))), .bool (decide ((j : Int) < (cs.length : Int))), mb (decide ((j : Int) < (cs.length : Int))) (.int .i64 ((j : Int))), mb (decide ((j : Int) < (cs.length : Int))) (.bool (decide ((j : Int) < 60))), .bool ((decide ((j : Int) < (cs.length : Int))) && (decide ((j : Int) < 60))), .int .i64 ((j : Int)), .int .i64 ((j : Int) + 1), (u16_.getD 1 undef), (u16_.getD 2 undef), (u16_.getD 3 undef), (u16_.getD 4 undef), (u16_.getD 5 undef), (u16_.getD 6 undef), (u16_.getD 7 undef), (u16_.getD 8 undef), (u16_.getD 9 undef), (u16_.getD 10 undef), (u16_.getD 11 undef), (u16_.getD 12 undef), (u16_.getD 13 undef), (u16_.getD 14 undef), (u16_.getD 15 undef), (u16_.getD 16 undef), (u16_.getD 17 undef), (u16_.getD 18 undef), (u16_.getD 19 undef), (u16_.getD 20 undef), (u16_.getD 21 undef), .slice CA cs.length cc, .int .i64 ((j : Int)), .pointer (some ((ad CA).add (j * 3))), .pointer (some ((ad CA).add (j * 3 + 0))), .int .i64 ((cs.getD j c0).1), .int .i64 (((cs.getD j c0).1) % 2), .bool ((((cs.getD j c0).1) % 2) == 0), .bool ((((cs.getD j c0).1) % 2) == 0), mb (!((((cs.getD j c0).1) % 2) == 0)) (.slice GA m GC), mb (!((((cs.getD j c0).1) % 2) == 0)) (.int .i64 ((m : Int))), mb (!((((cs.getD j c0).1) % 2) == 0)) (.bool ((m : Int) == 0)), .bool (((((cs.getD j c0).1) % 2) == 0) || ((m : Int) == 0)), (u12_.getD 46 undef), (u12_.getD 47 undef), (u12_.getD 48 undef), (u12_.getD 49 undef), (u12_.getD 50 undef), (u12_.getD 51 undef), (u12_.getD 52 undef), (u12_.getD 53 undef), (u12_.getD 54 undef), (u12_.getD 55 undef), (u12_.getD 56 undef), .pointer (some ⟨B27_3, 0, none⟩), .slice GA m GC, .slice CA cs.length cc, .int .i64 ((j : Int)), .pointer (some ((ad CA).add (j * 3))), .pointer (some ((ad CA).add (j * 3 + 1))), .int .i64 ((cs.getD j c0).2.1), .int .i64 (((cs.getD j c0).2.1) % 65536), .slice GA m GC, .int .i64 ((m : Int)), .int .i64 ((kk : Int)), .pointer (some ((ad GA).add kk)), .int .i64 (rAt lo kk), .slice CA cs.length cc, .int .i64 ((j : Int)), .pointer (some ((ad CA).add (j * 3))), .pointer (some ((ad CA).add (j * 3 + 2))), .int .i64 ((cs.getD j c0).2.2), .int .i64 (((cs.getD j c0).2.2) % 2), .int .i64 (2 + (((cs.getD j c0).2.2) % 2)), .int .i64 0], by omega, by omega, tinv_end hT (by omega) hkm (by omega) hlk, hhn, hl9, by omega, fun h => Nat.lt_succ_of_le (htk h), hd0, rfl, rfl, hp42⟩
    · skip
      refine wp_region_T [0, 0, 0, 0, 12, 28, 60, 124, 0, 256, 1020, 2046, 4094, 0, 0, 24576, 57344, 122880, 253952, 516096, 1048575] [[], [], [], [], [], [], [], [], [], [], [], [1], [1], [], [], [], [], [], [], [], [0]] [] [] [.k 89 (.pointer (some ⟨B27_3, 0, none⟩)), .k 90 (.slice GA m GC), .k 91 (.slice CA cs.length cc), .k 92 (.int .i64 ((j : Int))), .c 93 (.pointer (some ((ad CA).add (j * 3)))), .c 94 (.pointer (some ((ad CA).add (j * 3 + 1)))), .c 95 (.int .i64 ((cs.getD j c0).2.1)), tAn 96 .i64 ((cs.getD j c0).2.1) 65535 (((cs.getD j c0).2.1) % 65536) (bits_mask ((cs.getD j c0).2.1) 16 (by decide)), .k 97 (.slice GA m GC), .k 98 (.int .i64 ((m : Int))), .c 99 (.int .i64 ((kk : Int))), .c 100 (.pointer (some ((ad GA).add kk))), .c 101 (.int .i64 (rAt lo kk)), .k 102 (.slice CA cs.length cc), .k 103 (.int .i64 ((j : Int))), .c 104 (.pointer (some ((ad CA).add (j * 3)))), .c 105 (.pointer (some ((ad CA).add (j * 3 + 2)))), .c 106 (.int .i64 ((cs.getD j c0).2.2)), tAn 107 .i64 ((cs.getD j c0).2.2) 1 (((cs.getD j c0).2.2) % 2) (bits_mask ((cs.getD j c0).2.2) 1 (by decide)), tI 108 (2 + (((cs.getD j c0).2.2) % 2)) (by omega), .c 109 (.int .i64 41)] (fun _ _ _ _ => True) [0, 1, 2, 3, 4] [4, 5, 6, 10, 11, 12, 15, 16, 17, 20] [(89, 0, 21, 110)] hst33 ?_ ?_ ?_
      · exact fun _ _ _ _ _ _ _ _ _ _ h => h
      · refine ⟨?_, ?_, ?_, ?_, ?_, ?_, ?_, ?_, ?_, ?_, trivial⟩
        · exact s4 rfl (fun _ _ _ h => h) fun cx => run_indexSlM (e := 86) (m := j) (sz := 3) rfl (by kernel_rfl) (by kernel_rfl) (cx.anc 2 rfl) (cx.anc 3 rfl) (by omega) (by omega) (hC.ext cx.upd.to_ext) (by have h_ := flatLen (f := cellsC) (sz := 3) cellsC_len cs; show 0 < (List.flatMap cellsC cs).length; omega)
        · exact s4 rfl (fun _ _ _ h => h) fun cx => run_fieldAd rfl (by kernel_rfl) (cx.anc 4 rfl)
        · exact s4 rfl (fun _ _ _ h => h) fun cx => run_load1 rfl (by kernel_rfl) (cx.anc 5 rfl) (At.eltc (f := cellsC) (k := 1) cellsC_len (hC.ext cx.upd.to_ext) (getD_some (ts := cs) (m := j) c0 (by omega)) rfl)
        · exact s4 rfl (fun _ _ _ h => h) fun cx => run_rem rfl (cx.anc 7 rfl) (cx.anc 9 rfl) (by omega) hke
        · exact s4 rfl (fun _ _ _ h => h) fun cx => run_indexSl (e := 3) (m := kk) rfl (by kernel_rfl) (by kernel_rfl) (cx.anc 1 rfl) (cx.anc 10 rfl) (by omega) (by omega) (At.of_own (cx.row (cx.init 1 _ rfl) rfl)) (by first | (simp [given_len, had_len]; done) | (simp [given_len, had_len]; omega))
        · exact s4 rfl (fun _ _ _ h => h) fun cx => run_load1 rfl (by kernel_rfl) (cx.anc 11 rfl) (At.cellAd (At.of_own (cx.row (cx.init 1 _ rfl) rfl)) (given_at (by omega)))
        · exact s4 rfl (fun _ _ _ h => h) fun cx => run_indexSlM (e := 86) (m := j) (sz := 3) rfl (by kernel_rfl) (by kernel_rfl) (cx.anc 13 rfl) (cx.anc 14 rfl) (by omega) (by omega) (hC.ext cx.upd.to_ext) (by have h_ := flatLen (f := cellsC) (sz := 3) cellsC_len cs; show 0 < (List.flatMap cellsC cs).length; omega)
        · exact s4 rfl (fun _ _ _ h => h) fun cx => run_fieldAd rfl (by kernel_rfl) (cx.anc 15 rfl)
        · exact s4 rfl (fun _ _ _ h => h) fun cx => run_load1 rfl (by kernel_rfl) (cx.anc 16 rfl) (At.eltc (f := cellsC) (k := 2) cellsC_len (hC.ext cx.upd.to_ext) (getD_some (ts := cs) (m := j) c0 (by omega)) rfl)
        · exact sv_call rfl rfl rfl rfl rfl (fun _ _ _ h => h) fun ρ β W X cx => ⟨_, _, run_callF (args := #[.pointer (some ⟨B27_3, 0, none⟩), .int .i64 (rAt lo kk), .int .i64 (2 + (((cs.getD j c0).2.2) % 2))]) rfl cx.sees rfl (by kernel_rfl) (map3 (cx.anc 0 rfl) (cx.anc 12 rfl) (cx.anc 19 rfl)), cend_dead _ lo (rAt lo m) K (rAt lo kk) (2 + (((cs.getD j c0).2.2) % 2)) _ (cx.blk (cx.init 0 _ rfl) rfl) hlo hnx hT.len hkn (by omega) hlk⟩
      intro σ β X W43 hD hX hst43 fr hfr
      simp only [zM, exq 0 (hX 0 _ rfl), exq 1 (hX 1 _ rfl), exq 2 (hX 2 _ rfl), exq 3 (hX 3 _ rfl), exq 4 (hX 4 _ rfl)] at hst43
      dsimp only [mgT, vals, List.take, List.drop, List.cons_append, List.nil_append] at hfr
      clear hX hD; subst hfr; clear σ β X
      refine blk_normal ?_
      refine then_normal ?_
      refine wp_region_P [0, 1, 3] [.k 43 (.int .i64 ((j : Int))), tI 44 ((j : Int) + 1) (by omega), .k 14 (.int .i64 ((j : Int) + 1))] [(14, 2, 1, 15), (28, 0, 2, 30)] hst43 fun W44 hst44 => ?_
      refine then_normal ?_
      refine ⟨60 - ((j + 1)), by omega, ?_⟩
      have hp45 := hst44.pick [0, 1, 2, 3, 4] (by decide) rfl
      exact ⟨(j + 1), m, K, tk, hi, LA, LC, lv, GA, GC, HA, HC, hn, hd, [(u16_.getD 0 undef), (u12_.getD 1 undef), (u12_.getD 2 undef), .int .i64 ((j : Int)), .slice CA cs.length cc, .int .i64 ((cs.length : Int)), .bool (decide ((j : Int) < (cs.length : Int))), .bool (decide ((j : Int) < (cs.length : Int))), mb (decide ((j : Int) < (cs.length : Int))) (.int .i64 ((j : Int))), mb (decide ((j : Int) < (cs.length : Int))) (.bool (decide ((j : Int) < 60))), .bool ((decide ((j : Int) < (cs.length : Int))) && (decide ((j : Int) < 60))), .int .i64 ((j : Int)), .int .i64 ((j : Int) + 1), (u16_.getD 1 undef), (u16_.getD 2 undef), (u16_.getD 3 undef), (u16_.getD 4 undef), (u16_.getD 5 undef), (u16_.getD 6 undef), (u16_.getD 7 undef), (u16_.getD 8 undef), (u16_.getD 9 undef), (u16_.getD 10 undef), (u16_.getD 11 undef), (u16_.getD 12 undef), (u16_.getD 13 undef), (u16_.getD 14 undef), (u16_.getD 15 undef), (u16_.getD 16 undef), (u16_.getD 17 undef), (u16_.getD 18 undef), (u16_.getD 19 undef), (u16_.getD 20 undef), (u16_.getD 21 undef), .slice CA cs.length cc, .int .i64 ((j : Int)), .pointer (some ((ad CA).add (j * 3))), .pointer (some ((ad CA).add (j * 3 + 0))), .int .i64 ((cs.getD j c0).1), .int .i64 (((cs.getD j c0).1) % 2), .bool ((((cs.getD j c0).1) % 2) == 0), .bool ((((cs.getD j c0).1) % 2) == 0), mb (!((((cs.getD j c0).1) % 2) == 0)) (.slice GA m GC), mb (!((((cs.getD j c0).1) % 2) == 0)) (.int .i64 ((m : Int))), mb (!((((cs.getD j c0).1) % 2) == 0)) (.bool ((m : Int) == 0)), .bool (((((cs.getD j c0).1) % 2) == 0) || ((m : Int) == 0)), (u12_.getD 46 undef), (u12_.getD 47 undef), (u12_.getD 48 undef), (u12_.getD 49 undef), (u12_.getD 50 undef), (u12_.getD 51 undef), (u12_.getD 52 undef), (u12_.getD 53 undef), (u12_.getD 54 undef), (u12_.getD 55 undef), (u12_.getD 56 undef), .pointer (some ⟨B27_3, 0, none⟩), .slice GA m GC, .slice CA cs.length cc, .int .i64 ((j : Int)), .pointer (some ((ad CA).add (j * 3))), .pointer (some ((ad CA).add (j * 3 + 1))), .int .i64 ((cs.getD j c0).2.1), .int .i64 (((cs.getD j c0).2.1) % 65536), .slice GA m GC, .int .i64 ((m : Int)), .int .i64 ((kk : Int)), .pointer (some ((ad GA).add kk)), .int .i64 (rAt lo kk), .slice CA cs.length cc, .int .i64 ((j : Int)), .pointer (some ((ad CA).add (j * 3))), .pointer (some ((ad CA).add (j * 3 + 2))), .int .i64 ((cs.getD j c0).2.2), .int .i64 (((cs.getD j c0).2.2) % 2), .int .i64 (2 + (((cs.getD j c0).2.2) % 2)), .int .i64 41], by omega, by omega, hT, hhn, hl9, by omega, fun h => Nat.lt_succ_of_le (htk h), hd0, rfl, rfl, hp45⟩
  have hs15p := hs15
  simp only [zB] at hs15p
  refine wp_cond_false (show Act.eval _ _ = .bool false from (congrArg Value.bool hs15)) ?_
  refine wp_exit ?_
  refine then_exit ?_
  refine then_exit ?_
  refine blk_eq ?_
  refine then_normal ?_
  refine wp_seq ?_
  refine wp_seq ?_
  refine wp_region_P [0] [.k 18 (.int .i64 0)] [(18, 0, 1, 19)] hst14 fun W46 hst46 => ?_
  refine then_normal ?_
  refine wp_block ?_
  refine wp_loopN (fun mz az W => ∃ k : Nat, ∃ u47_ : List Value, k ≤ m ∧ mz = m - k ∧ az = ⟨#[.slice CA cs.length cc, .int .i64 nxt, .int .i64 whn, undef, undef, undef, (u47_.getD 0 undef), .bool true, .pointer (some ⟨B27_3, 0, none⟩), .int .i64 ((A0 : Int)), .slice GA m GC, .pointer (some ⟨B11_7, 0, none⟩), .bool tk, .slice HA hn HC, .int .i64 ((j : Int)), (u12_.getD 0 undef), (u12_.getD 1 undef), (u12_.getD 2 undef), .int .i64 ((k : Int)), (u47_.getD 1 undef), (u47_.getD 2 undef), (u47_.getD 3 undef), .bool true, .int .i64 nxt, .int .i64 (nxt % 65536), .int .i64 ((nxt % 65536) % 125), .int .i64 lo, .pointer (some ⟨B27_3, 0, none⟩), .pointer (some ⟨B27_3, 0, none⟩), .bool false, .int .i64 whn, .int .i64 (whn % 65536), .int .i64 ((A0 : Int)), .slice A33_6 0 0, .slice A34_9 0 0, .int .i64 ((j : Int)), .slice CA cs.length cc, .int .i64 ((cs.length : Int)), .bool (decide ((j : Int) < (cs.length : Int))), .bool (decide ((j : Int) < (cs.length : Int))), mb (decide ((j : Int) < (cs.length : Int))) (.int .i64 ((j : Int))), mb (decide ((j : Int) < (cs.length : Int))) (.bool (decide ((j : Int) < 60))), .bool ((decide ((j : Int) < (cs.length : Int))) && (decide ((j : Int) < 60))), (u12_.getD 11 undef), (u12_.getD 12 undef), (u12_.getD 13 undef), (u12_.getD 14 undef), (u12_.getD 15 undef), (u12_.getD 16 undef), (u12_.getD 17 undef), (u12_.getD 18 undef), (u12_.getD 19 undef), (u12_.getD 20 undef), (u12_.getD 21 undef), (u12_.getD 22 undef), (u12_.getD 23 undef), (u12_.getD 24 undef), (u12_.getD 25 undef), (u12_.getD 26 undef), (u12_.getD 27 undef), (u12_.getD 28 undef), (u12_.getD 29 undef), (u12_.getD 30 undef), (u12_.getD 31 undef), (u12_.getD 32 undef), (u12_.getD 33 undef), (u12_.getD 34 undef), (u12_.getD 35 undef), (u12_.getD 36 undef), (u12_.getD 37 undef), (u12_.getD 38 undef), (u12_.getD 39 undef), (u12_.getD 40 undef), (u12_.getD 41 undef), (u12_.getD 42 undef), (u12_.getD 43 undef), (u12_.getD 44 undef), (u12_.getD 45 undef), (u12_.getD 46 undef), (u12_.getD 47 undef), (u12_.getD 48 undef), (u12_.getD 49 undef), (u12_.getD 50 undef), (u12_.getD 51 undef), (u12_.getD 52 undef), (u12_.getD 53 undef), (u12_.getD 54 undef), (u12_.getD 55 undef), (u12_.getD 56 undef), (u12_.getD 57 undef), (u12_.getD 58 undef), (u12_.getD 59 undef), (u12_.getD 60 undef), (u12_.getD 61 undef), (u12_.getD 62 undef), (u12_.getD 63 undef), (u12_.getD 64 undef), (u12_.getD 65 undef), (u12_.getD 66 undef), (u12_.getD 67 undef), (u12_.getD 68 undef), (u12_.getD 69 undef), (u12_.getD 70 undef), (u12_.getD 71 undef), (u12_.getD 72 undef), (u12_.getD 73 undef), (u12_.getD 74 undef), (u12_.getD 75 undef), (u12_.getD 76 undef), (u12_.getD 77 undef), (u47_.getD 4 undef), (u47_.getD 5 undef), (u47_.getD 6 undef), (u47_.getD 7 undef), (u47_.getD 8 undef), (u47_.getD 9 undef), (u47_.getD 10 undef), (u47_.getD 11 undef), (u47_.getD 12 undef), (u47_.getD 13 undef), (u47_.getD 14 undef), (u47_.getD 15 undef), (u47_.getD 16 undef), (u47_.getD 17 undef), (u47_.getD 18 undef), (u47_.getD 19 undef), (u47_.getD 20 undef), (u47_.getD 21 undef), (u47_.getD 22 undef), (u47_.getD 23 undef), (u47_.getD 24 undef), (u47_.getD 25 undef), (u47_.getD 26 undef), (u47_.getD 27 undef), (u47_.getD 28 undef), (u47_.getD 29 undef), (u47_.getD 30 undef), (u47_.getD 31 undef), (u47_.getD 32 undef), (u47_.getD 33 undef), (u47_.getD 34 undef), (u47_.getD 35 undef), (u47_.getD 36 undef), (u47_.getD 37 undef), (u47_.getD 38 undef), (u47_.getD 39 undef), (u47_.getD 40 undef), (u47_.getD 41 undef), (u47_.getD 42 undef), (u47_.getD 43 undef), (u47_.getD 44 undef), (u47_.getD 45 undef), (u47_.getD 46 undef), (u47_.getD 47 undef), (u47_.getD 48 undef), (u47_.getD 49 undef), (u47_.getD 50 undef), undef], []⟩ ∧ St w [] [eB B27_3 133 (clockL lo (rAt lo m) K).toArray, eO 3 1 (.slice GA m GC) m ((givenL lo m).map (Value.int .i64)), eB B11_7 41 #[.int .i64 hi, .slice LA lv.length LC], eO 3 1 (.slice LA lv.length LC) lv.length (lv.map (Value.int .i64)), eO 4 1 (.slice HA hn HC) hn (hd.map Value.bool)] W) (m - 0) ?_ ?_
  · -- the loop begins
    have hp48 := hst46.pick [0, 1, 2, 3, 4] (by decide) rfl
    exact ⟨0, [.bool false, undef, undef, undef, undef, undef, undef, undef, undef, undef, undef, undef, undef, undef, undef, undef, undef, undef, undef, undef, undef, undef, undef, undef, undef, undef, undef, undef, undef, undef, undef, undef, undef, undef, undef, undef, undef, undef, undef, undef, undef, undef, undef, undef, undef, undef, undef, undef, undef, undef, undef], Nat.zero_le _, rfl, rfl, hp48⟩
  rintro n47 a47 W47 ⟨k, u47_, hkm, rfl, rfl, hst47⟩
  refine wp_seq ?_
  refine wp_seq ?_
  refine wp_region_P [0, 0, 2, 7, 15, 31, 63] [.k 110 (.int .i64 ((k : Int))), .k 111 (.slice GA m GC), .k 112 (.int .i64 ((m : Int))), .k 113 (.bool (decide ((k : Int) < (m : Int)))), .k 114 (.bool (decide ((k : Int) < (m : Int)))), .z 115 (decide ((k : Int) < (m : Int))) (.bool tk), tA 116 (decide ((k : Int) < (m : Int))) tk] [(110, 0, 7, 117)] hst47 fun W49 hst49 => ?_
  refine then_normal ?_
  rcases Bool.eq_false_or_eq_true ((decide ((k : Int) < (m : Int))) && tk) with hs50 | hs50
  · skip
    have hs50p := hs50
    simp only [zB] at hs50p
    obtain ⟨hs50p1, hs50p2⟩ := hs50p
    refine wp_cond_true (show Act.eval _ _ = .bool true from (congrArg Value.bool hs50)) ?_
    refine wp_skip ?_
    refine then_normal ?_
    refine wp_seq ?_
    refine wp_block ?_
    refine wp_seq ?_
    refine wp_region_T [0, 0, 2, 7, 15, 31, 31, 127, 255, 511, 1023] [[], [], [], [], [], [], [], [4], [4]] [] [] [.k 119 (.int .i64 ((k : Int))), .k 120 (.slice HA hn HC), .k 121 (.int .i64 ((hn : Int))), .k 122 (.bool (decide ((k : Int) < (hn : Int)))), .k 123 (.bool (decide ((k : Int) < (hn : Int)))), .z 124 (decide ((k : Int) < (hn : Int))) (.slice HA hn HC), .z 125 (decide ((k : Int) < (hn : Int))) (.int .i64 ((k : Int))), .y 126 (decide ((k : Int) < (hn : Int))) (.pointer (some ((ad HA).add k))), .y 127 (decide ((k : Int) < (hn : Int))) (.bool (hd.getD k false)), tA 128 (decide ((k : Int) < (hn : Int))) (hd.getD k false), .k 19 (.bool ((decide ((k : Int) < (hn : Int))) && (hd.getD k false)))] (fun _ _ _ _ => True) [0, 1, 2, 3, 4] [7, 8] [(19, 10, 1, 20), (99, 0, 10, 109)] hst49 ?_ ?_ ?_
    · exact fun _ _ _ _ _ _ _ _ _ _ h => h
    · refine ⟨?_, ?_, trivial⟩
      · exact m2 rfl (fun _ _ _ h => h) (fun cx => (cx.anc 4 rfl)) fun cx hq => run_indexSl (e := 4) (m := k) rfl (by kernel_rfl) (by kernel_rfl) (mbv (cx.anc 5 rfl) hq) (mbv (cx.anc 6 rfl) hq) (by have hq_ := hq; simp only [zB] at hq_; omega) (by have hq_ := hq; simp only [zB] at hq_; omega) (At.of_own (cx.row (cx.init 4 _ rfl) rfl)) (by first | (simp [given_len, had_len]; done) | (simp [given_len, had_len]; omega))
      · exact m2 rfl (fun _ _ _ h => h) (fun cx => (cx.anc 4 rfl)) fun cx hq => run_load1 rfl (by kernel_rfl) (mbv (cx.anc 7 rfl) hq) (At.cellAd (At.of_own (cx.row (cx.init 4 _ rfl) rfl)) (bool_at (by have hq_ := hq; simp only [zB] at hq_; omega)))
    intro σ β X W51 hD hX hst51 fr hfr
    simp only [zM, exq 0 (hX 0 _ rfl), exq 1 (hX 1 _ rfl), exq 2 (hX 2 _ rfl), exq 3 (hX 3 _ rfl), exq 4 (hX 4 _ rfl)] at hst51
    dsimp only [mgT, vals, List.take, List.drop, List.cons_append, List.nil_append] at hfr
    clear hX hD; subst hfr; clear σ β X
    refine then_normal ?_
    refine wp_seq ?_
    refine wp_region_T [0, 0, 3, 7, 0, 31, 0, 127] [[], [], [1], [1], [], [], [], [5]] [[], [], [], [], [], [], [5], [6]] [[], [], [], [], [], [], [], [5]] [.k 129 (.slice GA m GC), .k 130 (.int .i64 ((k : Int))), .c 131 (.pointer (some ((ad GA).add k))), .c 132 (.int .i64 (rAt lo k)), .k 133 (.agg #[.int .i64 (-1), .int .i64 0]), .k 134 (.agg #[.int .i64 (rAt lo k), .int .i64 0, .int .i64 (-1), .int .i64 0, .bool false, .slice none 0 0]), .a 20, .n] (fun ix σ β X => match ix with | 0 => True | 1 => True | 2 => True | 3 => True | 4 => True | 5 => True | 6 => σ 20 = .pointer (some ⟨(pb (β 20)), 0, none⟩) ∧ X 5 = eB (pb (β 20)) 27 #[.int .i64 0, .int .i64 0, .int .i64 0, .int .i64 0, .bool false, .slice none 0 0] | 7 => X 6 = eB (pb (β 20)) 27 #[.int .i64 (rAt lo k), .int .i64 0, .int .i64 (-1), .int .i64 0, .bool false, .slice none 0 0] | _ => True) [0, 1, 2, 3, 4, 6] [2, 3, 6, 7] [(20, 6, 1, 21), (108, 0, 6, 114)] hst51 ?_ ?_ ?_
    · exact fun ix _ _ _ _ _ _ hs hb hx h => match ix, h with
      | 6, h => by dsimp only at h ⊢; rw [← hs 20 rfl, ← hb 20 rfl, ← hx 5 rfl]; exact h
      | 7, h => by dsimp only at h ⊢; rw [← hb 20 rfl, ← hx 6 rfl]; exact h
      | 0, _ | 1, _ | 2, _ | 3, _ | 4, _ | 5, _ | _ + 8, _ => trivial
    · refine ⟨?_, ?_, ?_, ?_, trivial⟩
      · exact s4 rfl (fun _ _ _ h => h) fun cx => run_indexSl (e := 3) (m := k) rfl (by kernel_rfl) (by kernel_rfl) (cx.anc 0 rfl) (cx.anc 1 rfl) (by omega) (by omega) (At.of_own (cx.row (cx.init 1 _ rfl) rfl)) (by first | (simp [given_len, had_len]; done) | (simp [given_len, had_len]; omega))
      · exact s4 rfl (fun _ _ _ h => h) fun cx => run_load1 rfl (by kernel_rfl) (cx.anc 2 rfl) (At.cellAd (At.of_own (cx.row (cx.init 1 _ rfl) rfl)) (given_at (by omega)))
      · refine sv_any rfl rfl fun ρ β W X cx => ?_
        exact dv_alloc (cs := #[.int .i64 0, .int .i64 0, .int .i64 0, .int .i64 0, .bool false, .slice none 0 0]) rfl (by kernel_rfl) rfl rfl (fun σ β' X' hs hb hv hx => ⟨hv, hx⟩)
      · refine sv_any rfl rfl fun ρ β W X cx => ?_
        exact dv_store (n := 6) rfl (dTn (cx.anc 6 rfl)).1 (cx.anc 5 rfl) (by kernel_rfl) (by kernel_rfl) (by kernel_rfl) cx (dTn (cx.anc 6 rfl)).2 rfl (Nat.le_of_ble_eq_true rfl) (by kernel_rfl) rfl rfl rfl (fun σ β' X' hs hb hx => by rw [hb 20]; exact hx)
    intro σ β X W52 hD hX hst52 fr hfr
    obtain ⟨B20_52, hu_B20_52⟩ : ∃ z, pb (β 20) = z := ⟨_, rfl⟩
    simp only [zM, exq 0 (hX 0 _ rfl), exq 1 (hX 1 _ rfl), exq 2 (hX 2 _ rfl), exq 3 (hX 3 _ rfl), exq 4 (hX 4 _ rfl), exq 6 ((dTn (hD 7 lq))), hu_B20_52] at hst52
    dsimp only [mgT, vals, List.take, List.drop, List.cons_append, List.nil_append] at hfr
    simp only [ed 20 ((dTn (hD 6 lq)).1), hu_B20_52] at hfr
    clear hX hD hu_B20_52; subst hfr; clear σ β X
    refine then_normal ?_
    refine wp_seq ?_
    refine wp_region_T [0, 0, 3, 7, 0, 31, 0, 127] [[], [], [1], [1], [], [], [], [6]] [[], [], [], [], [], [], [6], [7]] [[], [], [], [], [], [], [], [6]] [.k 135 (.slice GA m GC), .k 136 (.int .i64 ((k : Int))), .c 137 (.pointer (some ((ad GA).add k))), .c 138 (.int .i64 (rAt lo k)), .k 139 (.agg #[.int .i64 (-1), .int .i64 0]), .k 140 (.agg #[.int .i64 2, .int .i64 (rAt lo k), .int .i64 (-1), .int .i64 0, .bool false, .slice none 0 0]), .a 21, .n] (fun ix σ β X => match ix with | 0 => True | 1 => True | 2 => True | 3 => True | 4 => True | 5 => True | 6 => σ 21 = .pointer (some ⟨(pb (β 21)), 0, none⟩) ∧ X 6 = eB (pb (β 21)) 27 #[.int .i64 0, .int .i64 0, .int .i64 0, .int .i64 0, .bool false, .slice none 0 0] | 7 => X 7 = eB (pb (β 21)) 27 #[.int .i64 2, .int .i64 (rAt lo k), .int .i64 (-1), .int .i64 0, .bool false, .slice none 0 0] | _ => True) [0, 1, 2, 3, 4, 5, 7] [2, 3, 6, 7] [(21, 6, 1, 22), (113, 0, 6, 119)] hst52 ?_ ?_ ?_
    · exact fun ix _ _ _ _ _ _ hs hb hx h => match ix, h with
      | 6, h => by dsimp only at h ⊢; rw [← hs 21 rfl, ← hb 21 rfl, ← hx 6 rfl]; exact h
      | 7, h => by dsimp only at h ⊢; rw [← hb 21 rfl, ← hx 7 rfl]; exact h
      | 0, _ | 1, _ | 2, _ | 3, _ | 4, _ | 5, _ | _ + 8, _ => trivial
    · refine ⟨?_, ?_, ?_, ?_, trivial⟩
      · exact s4 rfl (fun _ _ _ h => h) fun cx => run_indexSl (e := 3) (m := k) rfl (by kernel_rfl) (by kernel_rfl) (cx.anc 0 rfl) (cx.anc 1 rfl) (by omega) (by omega) (At.of_own (cx.row (cx.init 1 _ rfl) rfl)) (by first | (simp [given_len, had_len]; done) | (simp [given_len, had_len]; omega))
      · exact s4 rfl (fun _ _ _ h => h) fun cx => run_load1 rfl (by kernel_rfl) (cx.anc 2 rfl) (At.cellAd (At.of_own (cx.row (cx.init 1 _ rfl) rfl)) (given_at (by omega)))
      · refine sv_any rfl rfl fun ρ β W X cx => ?_
        exact dv_alloc (cs := #[.int .i64 0, .int .i64 0, .int .i64 0, .int .i64 0, .bool false, .slice none 0 0]) rfl (by kernel_rfl) rfl rfl (fun σ β' X' hs hb hv hx => ⟨hv, hx⟩)
      · refine sv_any rfl rfl fun ρ β W X cx => ?_
        exact dv_store (n := 6) rfl (dTn (cx.anc 6 rfl)).1 (cx.anc 5 rfl) (by kernel_rfl) (by kernel_rfl) (by kernel_rfl) cx (dTn (cx.anc 6 rfl)).2 rfl (Nat.le_of_ble_eq_true rfl) (by kernel_rfl) rfl rfl rfl (fun σ β' X' hs hb hx => by rw [hb 21]; exact hx)
    intro σ β X W53 hD hX hst53 fr hfr
    obtain ⟨B21_53, hu_B21_53⟩ : ∃ z, pb (β 21) = z := ⟨_, rfl⟩
    simp only [zM, exq 0 (hX 0 _ rfl), exq 1 (hX 1 _ rfl), exq 2 (hX 2 _ rfl), exq 3 (hX 3 _ rfl), exq 4 (hX 4 _ rfl), exq 5 (hX 5 _ rfl), exq 7 ((dTn (hD 7 lq))), hu_B21_53] at hst53
    dsimp only [mgT, vals, List.take, List.drop, List.cons_append, List.nil_append] at hfr
    simp only [ed 21 ((dTn (hD 6 lq)).1), hu_B21_53] at hfr
    clear hX hD hu_B21_53; subst hfr; clear σ β X
    refine then_normal ?_
    refine wp_seq ?_
    have hT1 := hT
    rw [hs50p2] at hT1
    have hkm2 : k < m := by omega
    obtain ⟨hv1, hv2⟩ := times_end hT1 hlo (by omega : m ≤ 60) hkm2
    rw [← hhn] at hv1 hv2
    have hnx := rAt_on lo m
    have hd55 : (!((visF hi lv ([] : List Int) (stateF lo (rAt lo m) K) (rAt lo k) 0) == ((decide ((k : Int) < (hn : Int))) && (hd.getD k false)))) = false := (by rw [hv1]; exact not_bne_self _)
    have hd56 : ((visF hi lv ([] : List Int) (stateF lo (rAt lo m) K) 2 (rAt lo k)) == ((decide ((k : Int) < (hn : Int))) && (hd.getD k false))) = false := (by rw [hv2]; exact not_beq_self _)
    refine wp_region_T [0, 0, 0, 4, 15, 0, 63, 127, 255, 255, 255, 1279, 4095, 255, 16383, 32767] [[5], [2], [], [], [3, 0], [], [], [], [6], [2], [], [], [3, 0]] [] [] [.c 141 (.agg #[.int .i64 (rAt lo k), .int .i64 0, .int .i64 (-1), .int .i64 0, .bool false, .slice none 0 0]), .c 142 (.agg #[.int .i64 hi, .slice LA lv.length LC]), .k 143 (.pointer (some ⟨B27_3, 0, none⟩)), .c 144 (.iface 81 (.pointer (some ⟨B27_3, 0, none⟩))), .c 145 (.bool (visF hi lv ([] : List Int) (stateF lo (rAt lo m) K) (rAt lo k) 0)), .k 146 (.bool ((decide ((k : Int) < (hn : Int))) && (hd.getD k false))), .c 147 (.bool false), .k 148 (.bool false), .c 149 (.agg #[.int .i64 2, .int .i64 (rAt lo k), .int .i64 (-1), .int .i64 0, .bool false, .slice none 0 0]), .c 150 (.agg #[.int .i64 hi, .slice LA lv.length LC]), .k 151 (.pointer (some ⟨B27_3, 0, none⟩)), .c 152 (.iface 81 (.pointer (some ⟨B27_3, 0, none⟩))), .c 153 (.bool (visF hi lv ([] : List Int) (stateF lo (rAt lo m) K) 2 (rAt lo k))), .k 154 (.bool ((decide ((k : Int) < (hn : Int))) && (hd.getD k false))), .c 155 (.bool false), .k 156 (.bool false)] (fun _ _ _ _ => True) [0, 1, 2, 3, 4, 5, 6] [0, 1, 3, 4, 6, 8, 9, 11, 12, 14] [(141, 0, 16, 157)] hst53 ?_ ?_ ?_
    · exact fun _ _ _ _ _ _ _ _ _ _ h => h
    · refine ⟨?_, ?_, ?_, ?_, ?_, ?_, ?_, ?_, ?_, ?_, trivial⟩
      · exact s4 rfl (fun _ _ _ h => h) fun cx => run_loadB (n := 6) rfl (by kernel_rfl) (by kernel_rfl) (cx.out 20 rfl) (cx.blk (cx.init 5 _ rfl) rfl) (Nat.le_of_ble_eq_true rfl) rfl
      · exact s4 rfl (fun _ _ _ h => h) fun cx => run_loadB (n := 2) rfl (by kernel_rfl) (by kernel_rfl) (cx.out 11 rfl) (cx.blk (cx.init 2 _ rfl) rfl) (Nat.le_of_ble_eq_true rfl) rfl
      · exact sv0 rfl rfl rfl rfl rfl (fun _ _ _ h => h) fun ρ β W X cx => by
          have fF143 : ρ (.tmp 143) = .pointer (some ⟨B27_3, 0, none⟩) := (cx.anc 2 rfl)
          simp [go_sem, fF143]
      · exact sv_call rfl rfl rfl rfl rfl (fun _ _ _ h => h) fun ρ β W X cx => ⟨_, _, run_callF (args := #[.agg #[.int .i64 (rAt lo k), .int .i64 0, .int .i64 (-1), .int .i64 0, .bool false, .slice none 0 0], .agg #[.int .i64 hi, .slice LA lv.length LC], .slice none 0 0, .iface 81 (.pointer (some ⟨B27_3, 0, none⟩))]) rfl cx.sees rfl (by kernel_rfl) (map4 (cx.anc 0 rfl) (cx.anc 1 rfl) (cx.sees.const _) (cx.anc 3 rfl)), visible_any _ _ _ _ _ _ _ _ _ _ _ lv _ _ ([] : List Int) _ _ _ _ (At.of_own (cx.row (cx.init 3 _ rfl) rfl)) (by first | omega | decide | (simp; done) | (simp; omega)) (At.nil _ _) (by first | omega | decide | (simp; done) | (simp; omega)) (clock_ok _ lo (rAt lo m) K _ (cx.blk (cx.init 0 _ rfl) rfl) hlo hnx hT.len)⟩
      · exact sv0 rfl rfl rfl rfl rfl (fun _ _ _ h => h.trans (congrArg Value.bool hd55)) fun ρ β W X cx => by
          have fF145 : ρ (.tmp 145) = .bool (visF hi lv ([] : List Int) (stateF lo (rAt lo m) K) (rAt lo k) 0) := (cx.anc 4 rfl)
          have fF146 : ρ (.tmp 146) = .bool ((decide ((k : Int) < (hn : Int))) && (hd.getD k false)) := (cx.anc 5 rfl)
          simp [go_sem, fF145, fF146]
      · exact s5 rfl (fun _ _ _ h => h) (fun cx => (cx.anc 7 rfl)) fun cx => run_loadB (n := 6) rfl (by kernel_rfl) (by kernel_rfl) (cx.out 21 rfl) (cx.blk (cx.init 6 _ rfl) rfl) (Nat.le_of_ble_eq_true rfl) rfl
      · exact s5 rfl (fun _ _ _ h => h) (fun cx => (cx.anc 7 rfl)) fun cx => run_loadB (n := 2) rfl (by kernel_rfl) (by kernel_rfl) (cx.out 11 rfl) (cx.blk (cx.init 2 _ rfl) rfl) (Nat.le_of_ble_eq_true rfl) rfl
      · exact sv0_on rfl rfl rfl rfl rfl rfl (fun _ _ _ h => h) (fun _ _ _ _ cx => (cx.anc 7 rfl)) fun ρ β W X cx => by
          have fF151 : ρ (.tmp 151) = .pointer (some ⟨B27_3, 0, none⟩) := (cx.anc 10 rfl)
          simp [go_sem, fF151]
      · exact sv_call_on rfl rfl rfl rfl rfl rfl (fun _ _ _ h => h) (fun _ _ _ _ cx => (cx.anc 7 rfl)) fun ρ β W X cx => ⟨_, _, run_callF (args := #[.agg #[.int .i64 2, .int .i64 (rAt lo k), .int .i64 (-1), .int .i64 0, .bool false, .slice none 0 0], .agg #[.int .i64 hi, .slice LA lv.length LC], .slice none 0 0, .iface 81 (.pointer (some ⟨B27_3, 0, none⟩))]) rfl cx.sees rfl (by kernel_rfl) (map4 (cx.anc 8 rfl) (cx.anc 9 rfl) (cx.sees.const _) (cx.anc 11 rfl)), visible_any _ _ _ _ _ _ _ _ _ _ _ lv _ _ ([] : List Int) _ _ _ _ (At.of_own (cx.row (cx.init 3 _ rfl) rfl)) (by first | omega | decide | (simp; done) | (simp; omega)) (At.nil _ _) (by first | omega | decide | (simp; done) | (simp; omega)) (clock_ok _ lo (rAt lo m) K _ (cx.blk (cx.init 0 _ rfl) rfl) hlo hnx hT.len)⟩
      · exact sv0_on rfl rfl rfl rfl rfl rfl (fun _ _ _ h => h.trans (congrArg Value.bool hd56)) (fun _ _ _ _ cx => (cx.anc 7 rfl)) fun ρ β W X cx => by
          have fF153 : ρ (.tmp 153) = .bool (visF hi lv ([] : List Int) (stateF lo (rAt lo m) K) 2 (rAt lo k)) := (cx.anc 12 rfl)
          have fF154 : ρ (.tmp 154) = .bool ((decide ((k : Int) < (hn : Int))) && (hd.getD k false)) := (cx.anc 13 rfl)
          simp [go_sem, fF153, fF154]
    intro σ β X W54 hD hX hst54 fr hfr
    simp only [zM, exq 0 (hX 0 _ rfl), exq 1 (hX 1 _ rfl), exq 2 (hX 2 _ rfl), exq 3 (hX 3 _ rfl), exq 4 (hX 4 _ rfl), exq 5 (hX 5 _ rfl), exq 6 (hX 6 _ rfl)] at hst54
    dsimp only [mgT, vals, List.take, List.drop, List.cons_append, List.nil_append] at hfr
    clear hX hD; subst hfr; clear σ β X
    refine then_normal ?_
    refine wp_cond_false (show Act.eval _ _ = .bool false from rfl) ?_
    refine wp_skip ?_
    refine blk_normal ?_
    refine then_normal ?_
    refine wp_region_P [0, 1, 3] [.k 117 (.int .i64 ((k : Int))), tI 118 ((k : Int) + 1) (by omega), .k 18 (.int .i64 ((k : Int) + 1))] [(18, 2, 1, 19), (98, 0, 2, 100)] hst54 fun W57 hst57 => ?_
    refine then_normal ?_
    refine ⟨m - ((k + 1)), by omega, ?_⟩
    have hp58 := hst57.pick [0, 1, 2, 3, 4] (by decide) rfl
    exact ⟨(k + 1), [(u47_.getD 0 undef), .bool ((decide ((k : Int) < (hn : Int))) && (hd.getD k false)), .pointer (some ⟨B20_52, 0, none⟩), .pointer (some ⟨B21_53, 0, none⟩), .int .i64 ((k : Int)), .slice GA m GC, .int .i64 ((m : Int)), .bool (decide ((k : Int) < (m : Int))), .bool (decide ((k : Int) < (m : Int))), mb (decide ((k : Int) < (m : Int))) (.bool tk), .bool ((decide ((k : Int) < (m : Int))) && tk), .int .i64 ((k : Int)), .int .i64 ((k : Int) + 1), .int .i64 ((k : Int)), .slice HA hn HC, .int .i64 ((hn : Int)), .bool (decide ((k : Int) < (hn : Int))), .bool (decide ((k : Int) < (hn : Int))), mb (decide ((k : Int) < (hn : Int))) (.slice HA hn HC), mb (decide ((k : Int) < (hn : Int))) (.int .i64 ((k : Int))), mb (decide ((k : Int) < (hn : Int))) (.pointer (some ((ad HA).add k))), mb (decide ((k : Int) < (hn : Int))) (.bool (hd.getD k false)), .bool ((decide ((k : Int) < (hn : Int))) && (hd.getD k false)), .slice GA m GC, .int .i64 ((k : Int)), .pointer (some ((ad GA).add k)), .int .i64 (rAt lo k), .agg #[.int .i64 (-1), .int .i64 0], .agg #[.int .i64 (rAt lo k), .int .i64 0, .int .i64 (-1), .int .i64 0, .bool false, .slice none 0 0], .slice GA m GC, .int .i64 ((k : Int)), .pointer (some ((ad GA).add k)), .int .i64 (rAt lo k), .agg #[.int .i64 (-1), .int .i64 0], .agg #[.int .i64 2, .int .i64 (rAt lo k), .int .i64 (-1), .int .i64 0, .bool false, .slice none 0 0], .agg #[.int .i64 (rAt lo k), .int .i64 0, .int .i64 (-1), .int .i64 0, .bool false, .slice none 0 0], .agg #[.int .i64 hi, .slice LA lv.length LC], .pointer (some ⟨B27_3, 0, none⟩), .iface 81 (.pointer (some ⟨B27_3, 0, none⟩)), .bool (visF hi lv ([] : List Int) (stateF lo (rAt lo m) K) (rAt lo k) 0), .bool ((decide ((k : Int) < (hn : Int))) && (hd.getD k false)), .bool false, .bool false, .agg #[.int .i64 2, .int .i64 (rAt lo k), .int .i64 (-1), .int .i64 0, .bool false, .slice none 0 0], .agg #[.int .i64 hi, .slice LA lv.length LC], .pointer (some ⟨B27_3, 0, none⟩), .iface 81 (.pointer (some ⟨B27_3, 0, none⟩)), .bool (visF hi lv ([] : List Int) (stateF lo (rAt lo m) K) 2 (rAt lo k)), .bool ((decide ((k : Int) < (hn : Int))) && (hd.getD k false)), .bool false, .bool false], by omega, rfl, rfl, hp58⟩
  have hs50p := hs50
  simp only [zB] at hs50p
  refine wp_cond_false (show Act.eval _ _ = .bool false from (congrArg Value.bool hs50)) ?_
  refine wp_exit ?_
  refine then_exit ?_
  refine then_exit ?_
  refine blk_eq ?_
  refine then_normal ?_
  refine wp_seq ?_
  refine wp_region_P [0, 1] [.k 157 (.bool true), .k 6 (.bool true)] [(6, 1, 1, 7), (150, 0, 1, 151)] hst49 fun W59 hst59 => ?_
  refine then_normal ?_
  refine wp_ret ?_
  refine bodyPost_ret (v := .bool true) (results_tmp Tryd.results10 rfl) rfl ?_
  exact Ret.of rfl hst59.ext

end Go.Proofs.YtfjpglohcppjeaaDoor

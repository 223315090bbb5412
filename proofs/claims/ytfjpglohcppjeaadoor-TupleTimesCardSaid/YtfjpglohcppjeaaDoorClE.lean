/- The clock's End, where no transaction lies under another. -/
import Derived.Test.YtfjpglohcppjeaaDoorClW
namespace Go.Proofs.YtfjpglohcppjeaaDoor
open Go.RowKit
set_option linter.unusedVariables false
set_option linter.unusedSimpArgs false

theorem live_ne {K : List Int} {x st : Int} (h : liveF K x = true) (hs : st = 2 ∨ st = 3) : (K.getD x.toNat 0 == st) = false := by
  unfold liveF at h
  simp only [Bool.or_eq_true, beq_iff_eq] at h
  rw [beq_eq_false_iff_ne]
  omega
set_option maxRecDepth 100000 in
set_option maxHeartbeats 2000000 in
theorem cend_dead (cb : Nat) (lo nx : Int) (K : List Int) (x st : Int) (w : World) (hb : Blk w cb 133 (clockL lo nx K).toArray) (hlo : onF lo = true) (hnx : onF nx = true) (hK : K.length = 128) (hkn : knowsF lo nx x = true) (hs : st = 2 ∨ st = 3) (hlv : liveF K x = false) :
    Calls Tryd.prog 44 #[.pointer (some ⟨cb, 0, none⟩), .int .i64 x, .int .i64 st] w (Ret (.int .i64 41) w) := by
  have st0 := St.lent1 hb
  have hx2 := onF_iff.1 (knows_on hkn)
  go_enter Tryd.func44, Tryd.ntmps44
  have hst0 := st0
  refine wp_seq ?_
  refine wp_region_P [0] [.k 6 (.int .i64 0)] [(6, 0, 1, 7)] hst0 fun W1 hst1 => ?_
  refine then_normal ?_
  refine wp_seq ?_
  refine wp_seq ?_
  have hd3 : (decide (st < 2)) = false := (by rw [decide_eq_false_iff_not]; omega)
  have hd4 : (decide (4 < st)) = false := (by rw [decide_eq_false_iff_not]; omega)
  have hd5 : (knowsF lo nx x) = true := hkn
  have hd6 : (liveF K x) = false := hlv
  refine wp_region_T [0, 1, 3, 7, 15, 31, 63, 127, 127, 511, 1023, 2047, 4095, 8191, 8191, 32767, 65535, 131071, 262143, 524287, 524287, 1048575, 3145727, 8388607, 16777215, 33554431, 524287, 134217727, 268435455] [[], [], [], [], [], [], [], [], [], [0], [], [], [], [], [], [0]] [] [] [.k 9 (.int .i64 st), .e 10 (.bool (decide (st < 2))) (.bool false) (congrArg Value.bool hd3), .k 11 (.bool false), .k 12 (.int .i64 st), .e 13 (.bool (decide (4 < st))) (.bool false) (congrArg Value.bool hd4), .k 14 (.bool false), .k 15 (.bool false), .k 16 (.pointer (some ⟨cb, 0, none⟩)), .k 17 (.int .i64 x), .c 18 (.bool true), .k 19 (.bool false), .k 20 (.bool false), .k 21 (.bool false), .k 22 (.pointer (some ⟨cb, 0, none⟩)), .k 23 (.int .i64 x), .c 24 (.bool false), .k 25 (.bool true), .k 26 (.bool true), .k 27 (.bool true), .u 28, .u 29, .u 30, .u 31, .u 32, .u 33, .u 34, .u 35, .u 36, .k 37 (.bool true)] (fun _ _ _ _ => True) [0] [9, 15] [(9, 0, 29, 38)] hst1 ?_ ?_ ?_
  · exact fun _ _ _ _ _ _ _ _ _ _ h => h
  · refine ⟨?_, ?_, trivial⟩
    · exact sv_call_on rfl rfl rfl rfl rfl rfl (fun _ _ _ h => h.trans (congrArg Value.bool hd5)) (fun _ _ _ _ cx => (cx.anc 6 rfl)) fun ρ β W X cx => ⟨_, _, run_callF (args := #[.pointer (some ⟨cb, 0, none⟩), .int .i64 x]) rfl cx.sees rfl (by kernel_rfl) (map2 (cx.anc 7 rfl) (cx.anc 8 rfl)), cknows_any _ lo nx K x _ (cx.blk (cx.init 0 _ rfl) rfl) hlo hnx⟩
    · exact sv_call_on rfl rfl rfl rfl rfl rfl (fun _ _ _ h => h.trans (congrArg Value.bool hd6)) (fun _ _ _ _ cx => (cx.anc 12 rfl)) fun ρ β W X cx => ⟨_, _, run_callF (args := #[.pointer (some ⟨cb, 0, none⟩), .int .i64 x]) rfl cx.sees rfl (by kernel_rfl) (map2 (cx.anc 13 rfl) (cx.anc 14 rfl)), clive_any _ lo nx K x _ (cx.blk (cx.init 0 _ rfl) rfl) hK (by omega)⟩
  intro σ β X W2 hD hX hst2 fr hfr
  simp only [zM, exq 0 (hX 0 _ rfl)] at hst2
  dsimp only [mgT, vals, List.take, List.drop, List.cons_append, List.nil_append] at hfr
  clear hX hD; subst hfr; clear σ β X
  refine then_normal ?_
  refine wp_cond_true (show Act.eval _ _ = .bool true from rfl) ?_
  refine wp_seq ?_
  refine wp_region_P [0] [.k 6 (.int .i64 41)] [(6, 0, 1, 7)] hst2 fun W7 hst7 => ?_
  refine then_normal ?_
  refine wp_ret ?_
  refine then_ret ?_
  refine bodyPost_ret (v := .int .i64 41) (results_tmp Tryd.results44 rfl) rfl ?_
  exact Ret.int rfl (St.still hst7 hb)

set_option maxRecDepth 100000 in
set_option maxHeartbeats 2000000 in
theorem cend_live (cb : Nat) (lo nx : Int) (K : List Int) (x st : Int) (w : World) (hb : Blk w cb 133 (clockL lo nx K).toArray) (hlo : onF lo = true) (hnx : onF nx = true) (hK : K.length = 128) (hkn : knowsF lo nx x = true) (hs : st = 2 ∨ st = 3) (hlv : liveF K x = true) :
    Calls Tryd.prog 44 #[.pointer (some ⟨cb, 0, none⟩), .int .i64 x, .int .i64 st] w (ClkPost cb (.int .i64 0) (clockL lo nx (K.set x.toNat st)) w) := by
  have st0 := St.lent1 hb
  have hx2 := onF_iff.1 (knows_on hkn)
  go_enter Tryd.func44, Tryd.ntmps44
  have hst0 := st0
  refine wp_seq ?_
  refine wp_region_P [0] [.k 6 (.int .i64 0)] [(6, 0, 1, 7)] hst0 fun W1 hst1 => ?_
  refine then_normal ?_
  refine wp_seq ?_
  refine wp_seq ?_
  have hd3 : (decide (st < 2)) = false := (by rw [decide_eq_false_iff_not]; omega)
  have hd4 : (decide (4 < st)) = false := (by rw [decide_eq_false_iff_not]; omega)
  have hd5 : (knowsF lo nx x) = true := hkn
  have hd6 : (liveF K x) = true := hlv
  have hd7 : ((K.getD ((x).toNat) 0) == st) = false := (live_ne hlv hs)
  refine wp_region_T [0, 1, 3, 7, 15, 31, 63, 127, 127, 511, 1023, 2047, 4095, 8191, 8191, 32767, 65535, 131071, 262143, 524287, 524287, 1048575, 3145727, 8388607, 16777215, 33554431, 524287, 134217727, 268435455] [[], [], [], [], [], [], [], [], [], [0], [], [], [], [], [], [0], [], [], [], [], [], [], [], [], [], [0]] [] [] [.k 9 (.int .i64 st), .e 10 (.bool (decide (st < 2))) (.bool false) (congrArg Value.bool hd3), .k 11 (.bool false), .k 12 (.int .i64 st), .e 13 (.bool (decide (4 < st))) (.bool false) (congrArg Value.bool hd4), .k 14 (.bool false), .k 15 (.bool false), .k 16 (.pointer (some ⟨cb, 0, none⟩)), .k 17 (.int .i64 x), .c 18 (.bool true), .k 19 (.bool false), .k 20 (.bool false), .k 21 (.bool false), .k 22 (.pointer (some ⟨cb, 0, none⟩)), .k 23 (.int .i64 x), .c 24 (.bool true), .k 25 (.bool false), .k 26 (.bool false), .k 27 (.bool false), .k 28 (.pointer (some ⟨cb, 0, none⟩)), .k 29 (.int .i64 x), .k 30 (.pointer (some ⟨cb, 0, none⟩)), .k 31 (.pointer (some ⟨cb, 2, none⟩)), .c 32 (.pointer (some ⟨cb, 2 + ((x).toNat) * 2, none⟩)), .k 33 (.pointer (some ⟨cb, 2 + ((x).toNat) * 2, none⟩)), .c 34 (.int .i64 (K.getD ((x).toNat) 0)), .k 35 (.int .i64 st), .e 36 (.bool ((K.getD ((x).toNat) 0) == st)) (.bool false) (congrArg Value.bool hd7), .k 37 (.bool false)] (fun _ _ _ _ => True) [0] [9, 15, 23, 25] [(9, 0, 29, 38)] hst1 ?_ ?_ ?_
  · exact fun _ _ _ _ _ _ _ _ _ _ h => h
  · refine ⟨?_, ?_, ?_, ?_, trivial⟩
    · exact sv_call_on rfl rfl rfl rfl rfl rfl (fun _ _ _ h => h.trans (congrArg Value.bool hd5)) (fun _ _ _ _ cx => (cx.anc 6 rfl)) fun ρ β W X cx => ⟨_, _, run_callF (args := #[.pointer (some ⟨cb, 0, none⟩), .int .i64 x]) rfl cx.sees rfl (by kernel_rfl) (map2 (cx.anc 7 rfl) (cx.anc 8 rfl)), cknows_any _ lo nx K x _ (cx.blk (cx.init 0 _ rfl) rfl) hlo hnx⟩
    · exact sv_call_on rfl rfl rfl rfl rfl rfl (fun _ _ _ h => h.trans (congrArg Value.bool hd6)) (fun _ _ _ _ cx => (cx.anc 12 rfl)) fun ρ β W X cx => ⟨_, _, run_callF (args := #[.pointer (some ⟨cb, 0, none⟩), .int .i64 x]) rfl cx.sees rfl (by kernel_rfl) (map2 (cx.anc 13 rfl) (cx.anc 14 rfl)), clive_any _ lo nx K x _ (cx.blk (cx.init 0 _ rfl) rfl) hK (by omega)⟩
    · exact s5 rfl (fun _ _ _ h => h) (fun cx => (cx.anc 18 rfl)) fun cx => run_indexArrB (n := 128) (sz := 2) (m := (x).toNat) (q := 2 + ((x).toNat) * 2) rfl (by kernel_rfl) (cx.anc 22 rfl) (cx.anc 20 rfl) (by omega) (by omega) (by omega)
    · exact s5 rfl (fun _ _ _ h => h) (fun cx => (cx.anc 18 rfl)) fun cx => run_load1 rfl (by kernel_rfl) (cx.anc 24 rfl) (((cx.blk (cx.init 0 _ rfl) rfl).cell (2 + ((x).toNat) * 2)).trans ((List.getElem?_toArray ..).trans (clk_st (by omega))))
  intro σ β X W2 hD hX hst2 fr hfr
  simp only [zM, exq 0 (hX 0 _ rfl)] at hst2
  dsimp only [mgT, vals, List.take, List.drop, List.cons_append, List.nil_append] at hfr
  clear hX hD; subst hfr; clear σ β X
  refine then_normal ?_
  refine wp_cond_false (show Act.eval _ _ = .bool false from rfl) ?_
  refine wp_skip ?_
  refine then_normal ?_
  refine wp_seq ?_
  refine wp_seq ?_
  have hn8 := St.nilrow hst2 3
  refine wp_region_T [0, 0, 3, 0, 8, 31, 63, 0] [[], [], [0], [], [], [2, 1]] [[], [], [], [], [2], [3]] [[], [], [], [], [], [1]] [.k 38 (.pointer (some ⟨cb, 0, none⟩)), .k 39 (.int .i64 x), .c 40 (.slice none 0 0), .k 41 (.int .i64 x), .a 42, .a 43, .c 44 (.int .i64 1), .k 45 (.int .i64 0)] (fun ix σ β X => match ix with | 0 => True | 1 => True | 2 => True | 3 => True | 4 => σ 42 = .slice (sA (β 42)) 1 1 ∧ X 2 = eO 3 1 (.slice (sA (β 42)) 1 1) 1 ([.int .i64 x]) | 5 => σ 43 = .slice (sA (β 43)) 1 (sC (β 43)) ∧ X 3 = eO 3 1 (.slice (sA (β 43)) 1 (sC (β 43))) 1 ([.int .i64 x]) | _ => True) [0, 2, 3] [2, 4, 5, 6] [(38, 0, 8, 46)] hn8 ?_ ?_ ?_
  · exact fun ix _ _ _ _ _ _ hs hb hx h => match ix, h with
    | 4, h => by dsimp only at h ⊢; rw [← hs 42 rfl, ← hb 42 rfl, ← hx 2 rfl]; exact h
    | 5, h => by dsimp only at h ⊢; rw [← hs 43 rfl, ← hb 43 rfl, ← hx 3 rfl]; exact h
    | 0, _ | 1, _ | 2, _ | 3, _ | _ + 6, _ => trivial
  · refine ⟨?_, ?_, ?_, ?_, trivial⟩
    · exact sv_call rfl rfl rfl rfl rfl (fun _ _ _ h => h) fun ρ β W X cx => ⟨_, _, run_callF (args := #[.pointer (some ⟨cb, 0, none⟩), .int .i64 x]) rfl cx.sees rfl (by kernel_rfl) (map2 (cx.anc 0 rfl) (cx.anc 1 rfl)), cbelow_any _ lo nx K x _ (cx.blk (cx.init 0 _ rfl) rfl) hlo hnx hK hkn⟩
    · refine sv_any rfl rfl fun ρ β W X cx => ?_
      have fF41 : ρ (.tmp 41) = .int .i64 x := (cx.anc 3 rfl)
      exact dv_lit (e := 3) (xs := [.int .i64 x]) rfl (by simp [go_sem, fF41]) rfl (by decide) rfl rfl (fun σ β' X' hs hb hv hx => ⟨hv, hx⟩)
    · refine sv_any rfl rfl fun ρ β W X cx => ?_
      obtain ⟨i0, hi0, hz0, hz1, hz2⟩ := info_parts Tryd.infoInt
      refine dv_append (n := 0) (m := 1) (nm := 1) (xs := []) (news := [.int .i64 x]) (xs' := [.int .i64 x]) rfl (ty := 28) rfl (by kernel_rfl) hi0 hz0 hz1 hz2 rfl (cx.anc 2 rfl) cx (cx.init 1 _ rfl) rfl (dTn (cx.anc 4 rfl)).1 (by first | (simp; done) | (simp; omega)) (At.of_own (cx.row (dTn (cx.anc 4 rfl)).2 rfl)) (by simp [Value.oneCell']) (by simp only [maxLen]; omega) (by omega) rfl rfl rfl (by omega) (rfl) (fun σ β' X' hs hb hv hx => ?_)
      exact ⟨hv, hx⟩
    · exact s4 rfl (fun _ _ _ h => h) fun cx => run_len_l (e := 3) rfl (by kernel_rfl) (dTn (cx.anc 5 rfl)).1
  intro σ β X W9 hD hX hst9 fr hfr
  obtain ⟨A42_9, hu_A42_9⟩ : ∃ z, sA (β 42) = z := ⟨_, rfl⟩
  obtain ⟨A43_9, hu_A43_9⟩ : ∃ z, sA (β 43) = z := ⟨_, rfl⟩
  obtain ⟨c43_9, hu_c43_9⟩ : ∃ z, sC (β 43) = z := ⟨_, rfl⟩
  simp only [zM, exq 0 (hX 0 _ rfl), exq 2 ((dTn (hD 4 lq)).2), exq 3 ((dTn (hD 5 lq)).2), hu_A42_9, hu_A43_9, hu_c43_9] at hst9
  dsimp only [mgT, vals, List.take, List.drop, List.cons_append, List.nil_append] at hfr
  simp only [ed 42 ((dTn (hD 4 lq)).1), ed 43 ((dTn (hD 5 lq)).1), hu_A42_9, hu_A43_9, hu_c43_9] at hfr
  clear hX hD hu_A42_9 hu_A43_9 hu_c43_9; subst hfr; clear σ β X
  refine then_normal ?_
  refine wp_block ?_
  refine wp_loopN (fun mz az W => ∃ k : Nat, ∃ K2 : List Int, ∃ u10_ : List Value, (k = 0 ∧ K2 = K ∨ k = 1 ∧ K2 = K.set x.toNat st) ∧ mz = 1 - k ∧ az = ⟨#[.pointer (some ⟨cb, 0, none⟩), .int .i64 x, .int .i64 st, undef, undef, undef, .int .i64 0, undef, (u10_.getD 0 undef), .int .i64 st, .bool false, .bool false, .int .i64 st, .bool false, .bool false, .bool false, .pointer (some ⟨cb, 0, none⟩), .int .i64 x, .bool true, .bool false, .bool false, .bool false, .pointer (some ⟨cb, 0, none⟩), .int .i64 x, .bool true, .bool false, .bool false, .bool false, .pointer (some ⟨cb, 0, none⟩), .int .i64 x, .pointer (some ⟨cb, 0, none⟩), .pointer (some ⟨cb, 2, none⟩), .pointer (some ⟨cb, 2 + ((x).toNat) * 2, none⟩), .pointer (some ⟨cb, 2 + ((x).toNat) * 2, none⟩), .int .i64 (K.getD ((x).toNat) 0), .int .i64 st, .bool false, .bool false, .pointer (some ⟨cb, 0, none⟩), .int .i64 x, .slice none 0 0, .int .i64 x, .slice A42_9 1 1, .slice A43_9 1 c43_9, .int .i64 1, .int .i64 ((k : Int)), (u10_.getD 1 undef), (u10_.getD 2 undef), (u10_.getD 3 undef), (u10_.getD 4 undef), (u10_.getD 5 undef), (u10_.getD 6 undef), (u10_.getD 7 undef), (u10_.getD 8 undef), (u10_.getD 9 undef), (u10_.getD 10 undef), (u10_.getD 11 undef), (u10_.getD 12 undef), (u10_.getD 13 undef), (u10_.getD 14 undef)], []⟩ ∧ St w [cb] [eB cb 133 (clockL lo nx K2).toArray, eO 3 1 (.slice A43_9 1 c43_9) 1 ([.int .i64 x])] W) (1 - 0) ?_ ?_
  · -- the loop begins
    have hp11 := hst9.pick [0, 2] (by decide) rfl
    exact ⟨0, K, [undef, undef, undef, undef, undef, undef, undef, undef, undef, undef, undef, undef, undef, undef, undef], .inl ⟨rfl, rfl⟩, rfl, rfl, hp11⟩
  rintro n10 a10 W10 ⟨k, K2, u10_, hk, rfl, rfl, hst10⟩
  refine wp_seq ?_
  refine wp_region_P [0] [.k 46 (.bool (decide ((k : Int) < 1)))] [(46, 0, 1, 47)] hst10 fun W12 hst12 => ?_
  refine then_normal ?_
  refine wp_seq ?_
  rcases Bool.eq_false_or_eq_true (decide ((k : Int) < 1)) with hs13 | hs13
  · skip
    have hs13p : (k : Int) < 1 := by simpa using hs13
    refine wp_cond_true (show Act.eval _ _ = .bool true from (congrArg Value.bool hs13)) ?_
    refine wp_skip ?_
    refine then_normal ?_
    refine wp_seq ?_
    refine wp_block ?_
    refine wp_seq ?_
    obtain ⟨hk0, hK2⟩ : k = 0 ∧ K2 = K := by
      rcases hk with h_ | h_
      · exact h_
      · omega
    subst hk0; rw [hK2] at hst12
    refine wp_region_T [0, 1, 3] [[1], [1]] [] [] [.c 47 (.pointer (some ((ad A43_9).add 0))), .c 48 (.int .i64 x), .k 8 (.int .i64 x)] (fun _ _ _ _ => True) [0, 1] [0, 1] [(8, 2, 1, 9), (38, 0, 2, 40)] hst12 ?_ ?_ ?_
    · exact fun _ _ _ _ _ _ _ _ _ _ h => h
    · refine ⟨?_, ?_, trivial⟩
      · exact s4 rfl (fun _ _ _ h => h) fun cx => run_indexSl (e := 3) (m := 0) rfl (by kernel_rfl) (by kernel_rfl) (cx.out 43 rfl) (cx.out 45 rfl) (by omega) (by omega) (At.of_own (cx.row (cx.init 1 _ rfl) rfl)) (by simp)
      · exact s4 rfl (fun _ _ _ h => h) fun cx => run_load1 rfl (by kernel_rfl) (cx.anc 0 rfl) (At.cellAd (At.of_own (cx.row (cx.init 1 _ rfl) rfl)) rfl)
    intro σ β X W14 hD hX hst14 fr hfr
    simp only [zM, exq 0 (hX 0 _ rfl), exq 1 (hX 1 _ rfl)] at hst14
    dsimp only [mgT, vals, List.take, List.drop, List.cons_append, List.nil_append] at hfr
    clear hX hD; subst hfr; clear σ β X
    refine then_normal ?_
    refine wp_seq ?_
    refine wp_region_T [0, 0, 3] [[], [], [0]] [] [] [.k 49 (.pointer (some ⟨cb, 0, none⟩)), .k 50 (.int .i64 x), .c 51 (.bool true)] (fun _ _ _ _ => True) [0, 1] [2] [(49, 0, 3, 52)] hst14 ?_ ?_ ?_
    · exact fun _ _ _ _ _ _ _ _ _ _ h => h
    · refine ⟨?_, trivial⟩
      · exact sv_call rfl rfl rfl rfl rfl (fun _ _ _ h => h.trans (congrArg Value.bool hd6)) fun ρ β W X cx => ⟨_, _, run_callF (args := #[.pointer (some ⟨cb, 0, none⟩), .int .i64 x]) rfl cx.sees rfl (by kernel_rfl) (map2 (cx.anc 0 rfl) (cx.anc 1 rfl)), clive_any _ lo nx K x _ (cx.blk (cx.init 0 _ rfl) rfl) hK (by omega)⟩
    intro σ β X W15 hD hX hst15 fr hfr
    simp only [zM, exq 0 (hX 0 _ rfl), exq 1 (hX 1 _ rfl)] at hst15
    dsimp only [mgT, vals, List.take, List.drop, List.cons_append, List.nil_append] at hfr
    clear hX hD; subst hfr; clear σ β X
    refine then_normal ?_
    refine wp_cond_true (show Act.eval _ _ = .bool true from rfl) ?_
    refine wp_region_T [0, 0, 0, 1, 9, 31, 63, 127] [[], [], [], [], [], [], [], [0]] [[], [], [], [], [], [], [], [2]] [[], [], [], [], [], [], [], [0]] [.k 52 (.pointer (some ⟨cb, 0, none⟩)), .k 53 (.int .i64 x), .k 54 (.int .i64 st), .k 55 (.pointer (some ⟨cb, 0, none⟩)), .k 56 (.pointer (some ⟨cb, 2, none⟩)), .c 57 (.pointer (some ⟨cb, 2 + ((x).toNat) * 2, none⟩)), .k 58 (.pointer (some ⟨cb, 2 + ((x).toNat) * 2, none⟩)), .n] (fun ix σ β X => match ix with | 0 => True | 1 => True | 2 => True | 3 => True | 4 => True | 5 => True | 6 => True | 7 => X 2 = eB cb 133 (clockL lo nx (K.set ((x).toNat) st)).toArray | _ => True) [1, 2] [5, 7] [(52, 0, 7, 59)] hst15 ?_ ?_ ?_
    · exact fun ix _ _ _ _ _ _ hs hb hx h => match ix, h with
      | 7, h => by dsimp only at h ⊢; rw [← hx 2 rfl]; exact h
      | 0, _ | 1, _ | 2, _ | 3, _ | 4, _ | 5, _ | 6, _ | _ + 8, _ => trivial
    · refine ⟨?_, ?_, trivial⟩
      · exact s4 rfl (fun _ _ _ h => h) fun cx => run_indexArrB (n := 128) (sz := 2) (m := (x).toNat) (q := 2 + ((x).toNat) * 2) rfl (by kernel_rfl) (cx.anc 4 rfl) (cx.anc 1 rfl) (by omega) (by omega) (by omega)
      · refine sv_any rfl rfl fun ρ β W X cx => ?_
        exact dv_storeAr (m := 2 + ((x).toNat) * 2) rfl (cx.anc 6 rfl) (cx.anc 2 rfl) (by kernel_rfl) rfl rfl cx (cx.init 0 _ rfl) rfl (by rw [clk_len]; first | omega | (simp only [List.length_set]; omega)) rfl (clk_set _ _ _ _ _) rfl rfl (fun σ β' X' hs hb hx => hx)
    intro σ β X W16 hD hX hst16 fr hfr
    simp only [zM, exq 1 (hX 1 _ rfl), exq 2 ((dTn (hD 7 lq)))] at hst16
    dsimp only [mgT, vals, List.take, List.drop, List.cons_append, List.nil_append] at hfr
    clear hX hD; subst hfr; clear σ β X
    refine blk_normal ?_
    refine then_normal ?_
    refine wp_region_P [0, 1] [tI 59 ((0 : Int) + 1) (by omega), .k 45 (.int .i64 ((0 : Int) + 1))] [(45, 1, 1, 46), (13, 0, 1, 14)] hst16 fun W17 hst17 => ?_
    refine then_normal ?_
    refine ⟨1 - 1, by omega, ?_⟩
    have hp18 := hst17.pick [1, 0] (by decide) rfl
    exact ⟨1, (K.set x.toNat st), [.int .i64 x, .bool (decide ((0 : Int) < 1)), .pointer (some ((ad A43_9).add 0)), .int .i64 x, .pointer (some ⟨cb, 0, none⟩), .int .i64 x, .bool true, .pointer (some ⟨cb, 0, none⟩), .int .i64 x, .int .i64 st, .pointer (some ⟨cb, 0, none⟩), .pointer (some ⟨cb, 2, none⟩), .pointer (some ⟨cb, 2 + ((x).toNat) * 2, none⟩), .pointer (some ⟨cb, 2 + ((x).toNat) * 2, none⟩), .int .i64 ((0 : Int) + 1)], .inr ⟨rfl, rfl⟩, rfl, rfl, hp18⟩
  have hs13p : ¬ ((k : Int) < 1) := by simpa using hs13
  refine wp_cond_false (show Act.eval _ _ = .bool false from (congrArg Value.bool hs13)) ?_
  refine wp_exit ?_
  refine then_exit ?_
  refine then_exit ?_
  refine blk_eq ?_
  refine then_normal ?_
  refine wp_seq ?_
  refine wp_region_P [0] [.k 6 (.int .i64 0)] [(6, 0, 1, 7)] hst12 fun W19 hst19 => ?_
  refine then_normal ?_
  refine wp_ret ?_
  refine bodyPost_ret (v := .int .i64 0) (results_tmp Tryd.results44 rfl) rfl ?_
  obtain ⟨hk1, hK2⟩ : k = 1 ∧ K2 = K.set x.toNat st := by
    rcases hk with h_ | h_
    · omega
    · exact h_
  rw [hK2] at hst19; exact ⟨rfl, hst19.blk 0 rfl, hst19.upd⟩

end Go.Proofs.YtfjpglohcppjeaaDoor

/- HeapDoneRow9: part 5 of the proof. -/
import Derived.Test.YtjnplglnnamfdaaDoorZ4
import Derived.Maps.OwnSet
import Derived.Maps.Views
import Derived.Carry
set_option linter.unusedVariables false
set_option linter.unusedSimpArgs false
namespace Go.Proofs.YtjnplglnnamfdaaDoor
section
open Go.RowKit
set_option linter.unusedVariables false
set_option linter.unusedSimpArgs false
theorem r01size2 (w : World) : Calls Tryd.prog 58 #[.int .i64 2] w (Ret (.int .i64 2) w) :=
  (rosize_any 2 w).mono fun e w' h => by obtain ⟨rfl, rfl⟩ := h; exact Ret.of rfl (Ext.refl _)
theorem shN_bd {x : Int} (k : Nat) (h : 0 ≤ x ∧ x < 65536) : 0 ≤ shN x k ∧ shN x k < 65536 := by
  rw [shN]
  have h1 : 0 ≤ x / 256 ^ k := Int.ediv_nonneg h.1 (Int.le_of_lt (Int.pow_pos (by omega)))
  have h2 : x / 256 ^ k ≤ x := Int.ediv_le_self _ h.1
  omega
theorem shN_quo {x : Int} (k : Nat) (h : 0 ≤ shN x k ∧ shN x k < 65536) : IntKind.u64.wrap ((shN x k).tdiv 256) = shN x (k + 1) := by
  rw [← shN_succ, Int.tdiv_eq_ediv_of_nonneg h.1, Int.fdiv_eq_ediv_of_nonneg _ (by decide)]
  exact IntWalk.u64_in _ (by omega)
theorem rput_ok {k l : Int} {A : Option Addr} {c : Nat} {ss : List ByteArray} {slot : Int} {s : ByteArray} {w : World} (hA : At w A (ss.map Value.string)) (hs : Small ss) (hc : ss.length ≤ c) (hss : s.size ≤ 400) (h : putErr k l ss slot s = 0) :
    Calls Tryd.prog 55 #[.agg #[.int .i64 k, .int .i64 l, .slice A ss.length c], .int .i64 slot, .string s] w (GotPost k l (plainL (withL ss slot.toNat s)) 0 w) := by
  have h2 := rput_any k l A _ c ss slot s w rfl hA hs hc (by omega)
  rwa [RPutPost, if_pos h] at h2
theorem rput_bad {k l : Int} {A : Option Addr} {c : Nat} {ss : List ByteArray} {slot : Int} {s : ByteArray} {w : World} (hA : At w A (ss.map Value.string)) (hs : Small ss) (hc : ss.length ≤ c) (hss : s.size ≤ 400) (h : putErr k l ss slot s ≠ 0) :
    Calls Tryd.prog 55 #[.agg #[.int .i64 k, .int .i64 l, .slice A ss.length c], .int .i64 slot, .string s] w (GotPost 0 0 [] (putErr k l ss slot s) w) := by
  have h2 := rput_any k l A _ c ss slot s w rfl hA hs hc (by omega)
  rwa [RPutPost, if_neg h] at h2
theorem right_small' {k l : Int} {ss : List ByteArray} (h : rightB k l ss = true) : Small ss := by
  obtain ⟨_, _, ⟨h1, h2⟩, _⟩ := right_parts h
  exact ⟨by omega, fun s hs => by have := h2 s hs; omega⟩
theorem rput_md {V : List Int} {n i : Nat} {A : Option Addr} {c : Nat} {w : World} (hr : rightB (mdK V) (V.getD 0 0) (mdSs V n i) = true) (hA : At w A ((mdSs V n i).map Value.string)) (hc : (mdSs V n i).length ≤ c) (hss : (mdI V n i).size ≤ 400) (h0 : 1 ≤ i) (h : putErr (mdK V) (V.getD 0 0) (mdSs V n i) (i : Int) (mdI V n i) = 0) :
    Calls Tryd.prog 55 #[.agg #[.int .i64 (mdK V), .int .i64 (V.getD 0 0), .slice A (mdSs V n i).length c], .int .i64 (i : Int), .string (mdI V n i)] w (GotPost (mdK V) (V.getD 0 0) (mdSs V n (i + 1)) 0 w) := by
  have := rput_ok hA (right_small' hr) hc hss h
  rwa [Int.toNat_natCast, ← mdSs_yes h0 h] at this
theorem Tryd.infoPage : (Tryd.prog.info? 86).map (fun i => (i.zero, i.size, i.bytes)) = some (some (.agg #[.int .i64 0, .int .i64 0, .slice none 0 0]), 3, 40) := by kernel_rfl
theorem At.eqv {w : World} {A : Option Addr} {xs ys : List Value} (h : At w A xs) (e : xs = ys) : At w A ys := e ▸ h
set_option maxRecDepth 100000 in
set_option maxHeartbeats 2000000 in
theorem r01put2 (x : Int) (w : World) (hx : 0 ≤ x ∧ x < 65536) :
    Calls Tryd.prog 51 #[.int .i64 x, .int .i64 2] w (Ret (.string (putS x 2)) w) := by
  go_enter Tryd.func51, Tryd.ntmps51
  have hst0 := St.start w
  refine wp_seq (wp_region_P [0] [.k 4 (.string ⟨#[]⟩)] [(4, 0, 1, 5)] hst0 fun W1 hst1 => ?_)
  refine then_normal (wp_seq (wp_region_P [0] [.k 5 (.string ⟨#[]⟩)] [(5, 0, 1, 6)] hst1 fun W2 hst2 => ?_))
  refine then_normal (wp_seq (wp_region_P [0, 1, 3] [.k 8 (vi x), tW 9 .u64 x x (IntWalk.u64_in _ (by omega)), .k 6 (.int .u64 x)] [(6, 2, 1, 7), (1, 0, 2, 3)] hst2 fun W3 hst3 => ?_))
  refine then_normal (wp_seq (wp_seq (wp_region_P [0] [.k 7 (vi 0)] [(7, 0, 1, 8)] hst3 fun W4 hst4 => ?_)))
  refine then_normal (wp_block ?_)
  refine wp_loopN (fun mz az W => ∃ k : Nat, ∃ u5_ : List Value, k ≤ 2 ∧ mz = 2 - k ∧ az = ⟨#[vi x, vi 2, undef, undef, .string ⟨#[]⟩, .string (putS x k), .int .u64 (shN x k), vi ((k : Int)), vi x, .int .u64 x, (gu u5_ 0), (gu u5_ 1), (gu u5_ 2), (gu u5_ 3), (gu u5_ 4), (gu u5_ 5), (gu u5_ 6), (gu u5_ 7), (gu u5_ 8), (gu u5_ 9), (gu u5_ 10), (gu u5_ 11), (gu u5_ 12), (gu u5_ 13), (gu u5_ 14), undef], []⟩ ∧ St w [] [] W) (2 - 0) ?_ ?_
  · -- the loop begins
    have hp6 := hst4.pick [] (by decide) rfl
    exact ⟨0, [undef, undef, undef, undef, undef, undef, undef, undef, undef, undef, undef, undef, undef, undef, undef], by omega, rfl, (by rw [shN_0, putS_0]; rfl), hp6⟩
  rintro n5 a5 W5 ⟨k, u5_, hk, rfl, rfl, hst5⟩
  have hsb := shN_bd k hx
  refine wp_seq (wp_seq (wp_region_Z [0, 0, 2, 7] [] [.k 10 (vi ((k : Int))), .k 11 (vi 2), .c 12 (vi 2), .k 13 (.bool (decide ((k : Int) < 2)))] [] [2] [(10, 0, 4, 14)] hst5 ?_ fun W7 hst7 => ?_))
  · refine ⟨?_, trivial⟩
    · exact xsc rfl id rfl rfl fun cx => ⟨_, r01size2 _, (map1 (cx.an 1))⟩
  refine then_normal ?_
  rcases Bool.eq_false_or_eq_true (decide ((k : Int) < 2)) with hs8 | hs8
  · skip
    have hs8p : (k : Int) < 2 := by simpa using hs8
    refine wp_cond_true (show Act.eval _ _ = .bool true from (congrArg Value.bool hs8)) (wp_skip (then_normal (wp_seq (wp_block (wp_seq (wp_region_Y [0, 1, 3, 7, 15, 0, 63, 127] [[], [], [], [], [0]] [[], [], [], [0]] [] [.k 16 (.int .u64 (shN x k)), tRe 17 .u64 (shN x k) 256 ((shN x k) % 256) (Int.tmod_eq_emod_of_nonneg (by omega)), tW 18 .u8 ((shN x k) % 256) ((shN x k) % 256) (IntWalk.u8_in _ (by omega)), .a 19, .c 20 (.string (strOfNums ([((shN x k) % 256)]))), .k 21 (.string (putS x k)), .c 22 (.string (putS x (k + 1))), .k 5 (.string (putS x (k + 1)))] (fun ix σ β X => match ix with | 0 => True | 1 => True | 2 => True | 3 => σ 19 = .slice (sA (β 19)) 1 1 ∧ X 0 = eO 5 1 (.slice (sA (β 19)) 1 1) 1 ([.int .u8 ((shN x k) % 256)]) | _ => True) [0] [3, 4, 6] [(5, 7, 1, 6), (10, 0, 7, 17)] hst7 ?_ ?_ ?_))))))
    · exact fun ix _ _ _ _ _ _ hs hb hx h => match ix, h with
      | 3, h => by dsimp only at h ⊢; rw [← hs 19 rfl, ← hb 19 rfl, ← hx 0 rfl]; exact h
      | 0, _ | 1, _ | 2, _ | _ + 4, _ => trivial
    · refine ⟨?_, ?_, ?_, trivial⟩
      · refine sv_any rfl rfl fun ρ β W X cx => ?_
        have fF18 : ρ (.tmp 18) = .int .u8 ((shN x k) % 256) := (cx.an 2)
        exact dv_lit (e := 5) (xs := [.int .u8 ((shN x k) % 256)]) rfl (by simp [go_sem, fF18]) rfl (by decide) rfl rfl (fun σ β' X' hs hb hv hx => ⟨hv, hx⟩)
      · exact xs4 rfl id fun cx => run_convB (e := 5) rfl (by kernel_rfl) (by kernel_rfl) (by kernel_rfl) (dTn (cx.an 3)).1 (cx.row (dTn (cx.an 3)).2 rfl)
      · exact xs4 rfl id fun cx => (by rw [putS_succ x (by omega)]; exact run_strcat rfl (cx.an 4) (cx.an 5) (by rw [strOfNums_size, putS_size x k (by omega)]; first | omega | (simp only [List.length_cons, List.length_nil]; omega)))
    intro σ β X W9 hD hst9 fr hfr
    obtain ⟨A19_9, hu_A19_9⟩ : ∃ z, sA (β 19) = z := ⟨_, rfl⟩
    simp only [exq 0 ((dTn (hD 3 lq)).2), hu_A19_9] at hst9
    simp only [ed 19 ((dTn (hD 3 lq)).1), hu_A19_9] at hfr
    clear hD hu_A19_9; subst hfr; clear σ β X
    refine then_normal (wp_region_P [0, 1, 3] [.k 23 (.int .u64 (shN x k)), tQu 24 .u64 (shN x k) 256 (shN x (k + 1)) (shN_quo k hsb), .k 6 (.int .u64 (shN x (k + 1)))] [(6, 2, 1, 7), (16, 0, 2, 18)] hst9 fun W10 hst10 => ?_)
    refine blk_normal (then_normal (wp_region_P [0, 1, 3] [.k 14 (vi ((k : Int))), tI 15 ((k : Int) + 1) (by omega), .k 7 (vi ((k : Int) + 1))] [(7, 2, 1, 8), (6, 0, 2, 8)] hst10 fun W11 hst11 => ?_))
    refine then_normal ?_
    refine ⟨2 - ((k + 1)), by omega, ?_⟩
    have hp12 := hst11.pick [] (by decide) rfl
    exact ⟨(k + 1), [vi ((k : Int)), vi 2, vi 2, .bool (decide ((k : Int) < 2)), vi ((k : Int)), vi ((k : Int) + 1), .int .u64 (shN x k), .int .u64 ((shN x k) % 256), .int .u8 ((shN x k) % 256), .slice A19_9 1 1, .string (strOfNums ([((shN x k) % 256)])), .string (putS x k), .string (putS x (k + 1)), .int .u64 (shN x k), .int .u64 (shN x (k + 1))], by omega, rfl, rfl, hp12⟩
  have hs8p : ¬ ((k : Int) < 2) := by simpa using hs8
  refine wp_cond_false (show Act.eval _ _ = .bool false from (congrArg Value.bool hs8)) (wp_exit (then_exit (then_exit (blk_eq (then_normal (wp_seq (wp_region_P [0, 1] [.k 25 (.string (putS x k)), .k 4 (.string (putS x k))] [(4, 1, 1, 5), (20, 0, 1, 21)] hst7 fun W13 hst13 => ?_)))))))
  refine then_normal (wp_ret ?_)
  refine bodyPost_ret (v := .string (putS x k)) (results_tmp Tryd.results51 rfl) rfl ?_
  exact Ret.of (by rw [show k = 2 by omega]) hst13.ext
set_option maxRecDepth 100000 in
set_option maxHeartbeats 16000000 in
theorem rmade9_any (LA : Option Addr) (lc : Nat) (s : List Int) (w : World) (hA : At w LA (s.map (Value.int .i64))) (hl : s.length ≤ 1000000) :
    Calls Tryd.prog 26 #[.slice LA s.length lc] w (MadePost s w) := by
  go_enter Tryd.func26, Tryd.ntmps26
  have hst0 := St.start w
  refine wp_seq (wp_region_Y [0] [] [[0]] [] [.a 2] (fun ix σ β X => match ix with | 0 => σ 2 = vp (pb (β 2)) ∧ X 0 = eB (pb (β 2)) 30 #[.slice none 0 0] | _ => True) [0] [0] [(2, 0, 1, 3)] hst0 ?_ ?_ ?_)
  · exact fun ix _ _ _ _ _ _ hs hb hx h => match ix, h with
    | 0, h => by dsimp only at h ⊢; rw [← hs 2 rfl, ← hb 2 rfl, ← hx 0 rfl]; exact h
    | _ + 1, _ => trivial
  · refine ⟨?_, trivial⟩
    · refine sv_any rfl rfl fun ρ β W X cx => ?_
      exact dv_alloc (cs := #[.slice none 0 0]) rfl (by kernel_rfl) rfl rfl (fun σ β' X' hs hb hv hx => ⟨hv, hx⟩)
  intro σ β X W1 hD hst1 fr hfr
  obtain ⟨B2_1, hu_B2_1⟩ : ∃ z, pb (β 2) = z := ⟨_, rfl⟩
  simp only [exq 0 ((dTn (hD 0 lq)).2), hu_B2_1] at hst1
  simp only [ed 2 ((dTn (hD 0 lq)).1), hu_B2_1] at hfr
  clear hD hu_B2_1; subst hfr; clear σ β X
  refine then_normal (wp_seq (wp_region_Y [0, 0, 3] [[], [], [1]] [[], [1], [2]] [[], [], [1]] [.k 15 (.agg #[.slice none 0 0]), .a 3, .n] (fun ix σ β X => match ix with | 0 => True | 1 => σ 3 = vp (pb (β 3)) ∧ X 1 = eB (pb (β 3)) 30 #[.slice none 0 0] | 2 => X 2 = eB (pb (β 3)) 30 #[.slice none 0 0] | _ => True) [0, 2] [1, 2] [(3, 1, 1, 4), (11, 0, 1, 12)] hst1 ?_ ?_ ?_))
  · exact fun ix _ _ _ _ _ _ hs hb hx h => match ix, h with
    | 1, h => by dsimp only at h ⊢; rw [← hs 3 rfl, ← hb 3 rfl, ← hx 1 rfl]; exact h
    | 2, h => by dsimp only at h ⊢; rw [← hb 3 rfl, ← hx 2 rfl]; exact h
    | 0, _ | _ + 3, _ => trivial
  · refine ⟨?_, ?_, trivial⟩
    · refine sv_any rfl rfl fun ρ β W X cx => ?_
      exact dv_alloc (cs := #[.slice none 0 0]) rfl (by kernel_rfl) rfl rfl (fun σ β' X' hs hb hv hx => ⟨hv, hx⟩)
    · refine sv_any rfl rfl fun ρ β W X cx => ?_
      exact dv_store (n := 1) rfl (dTn (cx.an 1)).1 (cx.an 0) (by kernel_rfl) (by kernel_rfl) (by kernel_rfl) cx (dTn (cx.an 1)).2 rfl (nle rfl) (by kernel_rfl) rfl rfl rfl (fun σ β' X' hs hb hx => by rw [hb 3]; exact hx)
  intro σ β X W2 hD hst2 fr hfr
  obtain ⟨B3_2, hu_B3_2⟩ : ∃ z, pb (β 3) = z := ⟨_, rfl⟩
  simp only [exq 2 ((dTn (hD 2 lq))), hu_B3_2] at hst2
  simp only [ed 3 ((dTn (hD 1 lq)).1), hu_B3_2] at hfr
  clear hD hu_B3_2; subst hfr; clear σ β X
  refine then_normal (wp_seq (wp_region_P [0] [.k 4 (vi 0)] [(4, 0, 1, 5)] hst2 fun W3 hst3 => ?_))
  refine then_normal (wp_seq (wp_seq (wp_region_P [0] [.k 5 (vi 0)] [(5, 0, 1, 6)] hst3 fun W4 hst4 => ?_)))
  refine then_normal (wp_block ?_)
  have hn5 := nilrowN hst4 86 3
  have hn_6 : St _ _ (_ ++ [ePs []]) _ := St.emNil hn5
  refine wp_loopN (fun mz az W => ∃ n : Nat, ∃ PA : Option Addr, ∃ PC : Nat, ∃ Ps : List PgD, ∃ u7_ : List Value, n ≤ 5 ∧ Ps.length = n ∧ (∀ i, i < n → MdOk s i (Ps.getD i p0)) ∧ mz = 5 - n ∧ az = ⟨#[.slice LA s.length lc, undef, vp B2_1, vp B3_2, vi (((40 * n : Nat) : Int)), vi ((n : Int)), (gu u7_ 0), (gu u7_ 1), (gu u7_ 2), (gu u7_ 3), (gu u7_ 4), (gu u7_ 5), (gu u7_ 6), (gu u7_ 7), (gu u7_ 8), .agg #[.slice none 0 0], (gu u7_ 9), (gu u7_ 10), (gu u7_ 11), (gu u7_ 12), (gu u7_ 13), (gu u7_ 14), (gu u7_ 15), (gu u7_ 16), (gu u7_ 17), (gu u7_ 18), (gu u7_ 19), (gu u7_ 20), (gu u7_ 21), (gu u7_ 22), (gu u7_ 23), (gu u7_ 24), (gu u7_ 25), (gu u7_ 26), (gu u7_ 27), (gu u7_ 28), (gu u7_ 29), (gu u7_ 30), (gu u7_ 31), (gu u7_ 32), (gu u7_ 33), (gu u7_ 34), (gu u7_ 35), (gu u7_ 36), (gu u7_ 37), (gu u7_ 38), (gu u7_ 39), (gu u7_ 40), (gu u7_ 41), (gu u7_ 42), (gu u7_ 43), (gu u7_ 44), (gu u7_ 45), (gu u7_ 46), (gu u7_ 47), (gu u7_ 48), (gu u7_ 49), (gu u7_ 50), (gu u7_ 51), (gu u7_ 52), (gu u7_ 53), (gu u7_ 54), (gu u7_ 55), (gu u7_ 56), (gu u7_ 57), (gu u7_ 58), (gu u7_ 59), (gu u7_ 60), (gu u7_ 61), (gu u7_ 62), (gu u7_ 63), (gu u7_ 64), (gu u7_ 65), (gu u7_ 66), (gu u7_ 67), (gu u7_ 68), (gu u7_ 69), (gu u7_ 70), (gu u7_ 71), (gu u7_ 72), (gu u7_ 73), (gu u7_ 74), (gu u7_ 75), (gu u7_ 76), (gu u7_ 77), (gu u7_ 78), (gu u7_ 79), (gu u7_ 80), (gu u7_ 81), (gu u7_ 82), (gu u7_ 83), (gu u7_ 84), (gu u7_ 85), (gu u7_ 86), (gu u7_ 87), (gu u7_ 88), (gu u7_ 89), (gu u7_ 90), (gu u7_ 91), (gu u7_ 92), (gu u7_ 93), (gu u7_ 94), (gu u7_ 95), (gu u7_ 96), (gu u7_ 97), (gu u7_ 98), (gu u7_ 99), (gu u7_ 100), (gu u7_ 101), (gu u7_ 102), (gu u7_ 103), (gu u7_ 104), (gu u7_ 105), (gu u7_ 106), (gu u7_ 107), (gu u7_ 108), (gu u7_ 109), (gu u7_ 110), (gu u7_ 111), (gu u7_ 112), (gu u7_ 113), (gu u7_ 114), (gu u7_ 115), (gu u7_ 116), (gu u7_ 117), (gu u7_ 118), (gu u7_ 119), (gu u7_ 120), (gu u7_ 121), (gu u7_ 122), (gu u7_ 123), (gu u7_ 124), (gu u7_ 125), (gu u7_ 126), (gu u7_ 127), (gu u7_ 128), (gu u7_ 129), (gu u7_ 130), (gu u7_ 131), (gu u7_ 132), (gu u7_ 133), (gu u7_ 134), (gu u7_ 135), undef], []⟩ ∧ St w [] [eB B2_1 30 #[.slice none 0 0], eB B3_2 30 #[.slice PA n PC], eO 86 3 (.slice PA n PC) n (Ps.flatMap pgC), ePs Ps] W) (5 - 0) ?_ ?_
  · -- the loop begins
    have hp8 := hn_6.pick [0, 1, 2, 3] (by decide) rfl
    exact ⟨0, none, 0, [], [undef, undef, undef, undef, undef, undef, undef, undef, undef, undef, undef, undef, undef, undef, undef, undef, undef, undef, undef, undef, undef, undef, undef, undef, undef, undef, undef, undef, undef, undef, undef, undef, undef, undef, undef, undef, undef, undef, undef, undef, undef, undef, undef, undef, undef, undef, undef, undef, undef, undef, undef, undef, undef, undef, undef, undef, undef, undef, undef, undef, undef, undef, undef, undef, undef, undef, undef, undef, undef, undef, undef, undef, undef, undef, undef, undef, undef, undef, undef, undef, undef, undef, undef, undef, undef, undef, undef, undef, undef, undef, undef, undef, undef, undef, undef, undef, undef, undef, undef, undef, undef, undef, undef, undef, undef, undef, undef, undef, undef, undef, undef, undef, undef, undef, undef, undef, undef, undef, undef, undef, undef, undef, undef, undef, undef, undef, undef, undef, undef, undef, undef, undef, undef, undef, undef, undef], by omega, rfl, fun i hi => absurd hi (Nat.not_lt_zero i), rfl, rfl, hp8⟩
  rintro n7 a7 W7 ⟨n, PA, PC, Ps, u7_, hn5, hPl, hM, rfl, rfl, hst7⟩
  refine wp_seq (wp_seq (wp_region_P [0, 1] [.k 16 (vi ((n : Int))), .k 17 (.bool (decide ((n : Int) < 5)))] [(16, 0, 2, 18)] hst7 fun W9 hst9 => ?_))
  refine then_normal ?_
  rcases Bool.eq_false_or_eq_true (decide ((n : Int) < 5)) with hs10 | hs10
  · skip
    have hs10p : (n : Int) < 5 := by simpa using hs10
    refine wp_cond_true (show Act.eval _ _ = .bool true from (congrArg Value.bool hs10)) (wp_skip (then_normal (wp_seq (wp_block (wp_seq (wp_region_Y [0, 0, 3] [[], [], [4]] [[], [4], [5]] [[], [], [4]] [.k 20 (.agg #[vi 0, vi 0, vi 0, vi 0, vi 0, vi 0, vi 0, vi 0, vi 0, vi 0, vi 0, vi 0, vi 0, vi 0, vi 0, vi 0, vi 0, vi 0, vi 0, vi 0, vi 0, vi 0, vi 0, vi 0, vi 0, vi 0, vi 0, vi 0, vi 0, vi 0, vi 0, vi 0, vi 0, vi 0, vi 0, vi 0, vi 0, vi 0, vi 0, vi 0]), .a 6, .n] (fun ix σ β X => match ix with | 0 => True | 1 => σ 6 = vp (pb (β 6)) ∧ X 4 = eB (pb (β 6)) 128 ((List.replicate 40 (0 : Int)).map (Value.int .i64)).toArray | 2 => X 5 = eB (pb (β 6)) 128 ((List.replicate 40 (0 : Int)).map (Value.int .i64)).toArray | _ => True) [0, 1, 2, 3, 5] [1, 2] [(6, 1, 1, 7), (13, 0, 1, 14)] hst9 ?_ ?_ ?_))))))
    · exact fun ix _ _ _ _ _ _ hs hb hx h => match ix, h with
      | 1, h => by dsimp only at h ⊢; rw [← hs 6 rfl, ← hb 6 rfl, ← hx 4 rfl]; exact h
      | 2, h => by dsimp only at h ⊢; rw [← hb 6 rfl, ← hx 5 rfl]; exact h
      | 0, _ | _ + 3, _ => trivial
    · refine ⟨?_, ?_, trivial⟩
      · refine sv_any rfl rfl fun ρ β W X cx => ?_
        exact dv_alloc (cs := ((List.replicate 40 (0 : Int)).map (Value.int .i64)).toArray) rfl (by kernel_rfl) rfl rfl (fun σ β' X' hs hb hv hx => ⟨hv, hx⟩)
      · refine sv_any rfl rfl fun ρ β W X cx => ?_
        exact dv_storeL (n := 40) rfl (dTn (cx.an 1)).1 ((show _ = _ from (cx.an 0)).trans (by kernel_rfl : _ = Value.agg ((List.replicate 40 (0 : Int)).map (Value.int .i64)).toArray)) (by kernel_rfl) (by simp [mdC_len]) (by simp [mdC_len]) (by simp [pgC, Value.oneCell']) cx (dTn (cx.an 1)).2 rfl rfl rfl rfl (fun σ β' X' hs hb hx => by rw [hb 6]; exact hx)
    intro σ β X W11 hD hst11 fr hfr
    obtain ⟨B6_11, hu_B6_11⟩ : ∃ z, pb (β 6) = z := ⟨_, rfl⟩
    simp only [exq 5 ((dTn (hD 2 lq))), hu_B6_11] at hst11
    simp only [ed 6 ((dTn (hD 1 lq)).1), hu_B6_11] at hfr
    clear hD hu_B6_11; subst hfr; clear σ β X
    refine then_normal (wp_seq (wp_seq (wp_region_P [0] [.k 7 (vi 0)] [(7, 0, 1, 8)] hst11 fun W12 hst12 => ?_)))
    refine then_normal (wp_block ?_)
    rw [← mdC_0 s n] at hst12
    refine wp_loopN (fun mz az W => ∃ i : Nat, ∃ u13_ : List Value, i ≤ 40 ∧ mz = 40 - i ∧ az = ⟨#[.slice LA s.length lc, undef, vp B2_1, vp B3_2, vi (((40 * n + i : Nat) : Int)), vi ((n : Int)), vp B6_11, vi ((i : Int)), (gu u7_ 2), (gu u7_ 3), (gu u7_ 4), (gu u7_ 5), (gu u7_ 6), (gu u7_ 7), (gu u7_ 8), .agg #[.slice none 0 0], vi ((n : Int)), .bool (decide ((n : Int) < 5)), (gu u7_ 11), (gu u7_ 12), .agg #[vi 0, vi 0, vi 0, vi 0, vi 0, vi 0, vi 0, vi 0, vi 0, vi 0, vi 0, vi 0, vi 0, vi 0, vi 0, vi 0, vi 0, vi 0, vi 0, vi 0, vi 0, vi 0, vi 0, vi 0, vi 0, vi 0, vi 0, vi 0, vi 0, vi 0, vi 0, vi 0, vi 0, vi 0, vi 0, vi 0, vi 0, vi 0, vi 0, vi 0], (gu u13_ 0), (gu u13_ 1), (gu u13_ 2), (gu u13_ 3), (gu u13_ 4), (gu u13_ 5), (gu u13_ 6), (gu u13_ 7), (gu u13_ 8), (gu u13_ 9), (gu u13_ 10), (gu u13_ 11), (gu u13_ 12), (gu u13_ 13), (gu u13_ 14), (gu u13_ 15), (gu u13_ 16), (gu u7_ 31), (gu u7_ 32), (gu u7_ 33), (gu u7_ 34), (gu u7_ 35), (gu u7_ 36), (gu u7_ 37), (gu u7_ 38), (gu u7_ 39), (gu u7_ 40), (gu u7_ 41), (gu u7_ 42), (gu u7_ 43), (gu u7_ 44), (gu u7_ 45), (gu u7_ 46), (gu u7_ 47), (gu u7_ 48), (gu u7_ 49), (gu u7_ 50), (gu u7_ 51), (gu u7_ 52), (gu u7_ 53), (gu u7_ 54), (gu u7_ 55), (gu u7_ 56), (gu u7_ 57), (gu u7_ 58), (gu u7_ 59), (gu u7_ 60), (gu u7_ 61), (gu u7_ 62), (gu u7_ 63), (gu u7_ 64), (gu u7_ 65), (gu u7_ 66), (gu u7_ 67), (gu u7_ 68), (gu u7_ 69), (gu u7_ 70), (gu u7_ 71), (gu u7_ 72), (gu u7_ 73), (gu u7_ 74), (gu u7_ 75), (gu u7_ 76), (gu u7_ 77), (gu u7_ 78), (gu u7_ 79), (gu u7_ 80), (gu u7_ 81), (gu u7_ 82), (gu u7_ 83), (gu u7_ 84), (gu u7_ 85), (gu u7_ 86), (gu u7_ 87), (gu u7_ 88), (gu u7_ 89), (gu u7_ 90), (gu u7_ 91), (gu u7_ 92), (gu u7_ 93), (gu u7_ 94), (gu u7_ 95), (gu u7_ 96), (gu u7_ 97), (gu u7_ 98), (gu u7_ 99), (gu u7_ 100), (gu u7_ 101), (gu u7_ 102), (gu u7_ 103), (gu u7_ 104), (gu u7_ 105), (gu u7_ 106), (gu u7_ 107), (gu u7_ 108), (gu u7_ 109), (gu u7_ 110), (gu u7_ 111), (gu u7_ 112), (gu u7_ 113), (gu u7_ 114), (gu u7_ 115), (gu u7_ 116), (gu u7_ 117), (gu u7_ 118), (gu u7_ 119), (gu u7_ 120), (gu u7_ 121), (gu u7_ 122), (gu u7_ 123), (gu u7_ 124), (gu u7_ 125), (gu u7_ 126), (gu u7_ 127), (gu u7_ 128), (gu u7_ 129), (gu u7_ 130), (gu u7_ 131), (gu u7_ 132), (gu u7_ 133), (gu u7_ 134), (gu u7_ 135), undef], []⟩ ∧ St w [] [eB B2_1 30 #[.slice none 0 0], eB B3_2 30 #[.slice PA n PC], eO 86 3 (.slice PA n PC) n (Ps.flatMap pgC), ePs Ps, eB B6_11 128 ((mdC s n i).map (Value.int .i64)).toArray] W) (40 - 0) ?_ ?_
    · -- the loop begins
      have hp14 := hst12.pick [0, 1, 2, 3, 4] (by decide) rfl
      exact ⟨0, [(gu u7_ 14), (gu u7_ 15), (gu u7_ 16), (gu u7_ 17), (gu u7_ 18), (gu u7_ 19), (gu u7_ 20), (gu u7_ 21), (gu u7_ 22), (gu u7_ 23), (gu u7_ 24), (gu u7_ 25), (gu u7_ 26), (gu u7_ 27), (gu u7_ 28), (gu u7_ 29), (gu u7_ 30)], by omega, rfl, rfl, hp14⟩
    rintro n13 a13 W13 ⟨i, u13_, hi40, rfl, rfl, hst13⟩
    have hCl := mdC_len s n i
    refine wp_seq (wp_seq (wp_region_P [0, 1] [.k 21 (vi ((i : Int))), .k 22 (.bool (decide ((i : Int) < 40)))] [(21, 0, 2, 23)] hst13 fun W15 hst15 => ?_))
    refine then_normal ?_
    rcases Bool.eq_false_or_eq_true (decide ((i : Int) < 40)) with hs16 | hs16
    · skip
      have hs16p : (i : Int) < 40 := by simpa using hs16
      refine wp_cond_true (show Act.eval _ _ = .bool true from (congrArg Value.bool hs16)) (wp_skip (then_normal (wp_seq (wp_block (wp_seq (wp_seq (wp_region_P [0, 0, 2, 7] [.k 25 (vi (((40 * n + i : Nat) : Int))), .k 26 (.slice LA s.length lc), .k 27 (vi ((s.length : Int))), .k 28 (.bool (decide (((40 * n + i : Nat) : Int) < (s.length : Int))))] [(25, 0, 4, 29)] hst15 fun W17 hst17 => ?_)))))))
      refine then_normal ?_
      rcases Bool.eq_false_or_eq_true (decide (((40 * n + i : Nat) : Int) < (s.length : Int))) with hs18 | hs18
      · skip
        have hs18p : ((40 * n + i : Nat) : Int) < (s.length : Int) := by simpa using hs18
        refine wp_cond_true (show Act.eval _ _ = .bool true from (congrArg Value.bool hs18)) (wp_region_Y [0, 0, 0, 6, 14, 30, 63, 127] [[], [], [], [], [], [], [], [4]] [[], [], [], [], [], [], [], [5]] [[], [], [], [], [], [], [], [4]] [.k 29 (vi ((i : Int))), .k 30 (.slice LA s.length lc), .k 31 (vi (((40 * n + i : Nat) : Int))), .c 32 (.pointer (some ((ad LA).add (((40 * n + i : Nat)))))), .c 33 (vi (s.getD ((40 * n + i : Nat)) 0)), tAn 34 .i64 (s.getD ((40 * n + i : Nat)) 0) 65535 ((s.getD ((40 * n + i : Nat)) 0) % 65536) (bits_mask (s.getD ((40 * n + i : Nat)) 0) 16 (by decide)), .c 35 (.pointer (some ⟨B6_11, i, none⟩)), .n] (fun ix σ β X => match ix with | 0 => True | 1 => True | 2 => True | 3 => True | 4 => True | 5 => True | 6 => True | 7 => X 5 = eB B6_11 128 ((mdC s n (i + 1)).map (Value.int .i64)).toArray | _ => True) [0, 1, 2, 3, 5] [3, 4, 6, 7] [(29, 0, 7, 36)] hst17 ?_ ?_ ?_)
        · exact fun ix _ _ _ _ _ _ hs hb hx h => match ix, h with
          | 7, h => by dsimp only at h ⊢; rw [← hx 5 rfl]; exact h
          | 0, _ | 1, _ | 2, _ | 3, _ | 4, _ | 5, _ | 6, _ | _ + 8, _ => trivial
        · refine ⟨?_, ?_, ?_, ?_, trivial⟩
          · exact xs4 rfl id fun cx => run_indexSl (e := 3) (m := ((40 * n + i : Nat))) rfl (by kernel_rfl) (by kernel_rfl) (cx.an 1) (cx.an 2) (by omega) (by omega) (hA.ext cx.upd.to_ext) (by simp)
          · exact xs4 rfl id fun cx => run_load1 rfl (by kernel_rfl) (cx.an 3) (At.cellAd (hA.ext cx.upd.to_ext) (getD_int (by omega)))
          · exact xs4 rfl id fun cx => run_indexArrB (n := 40) (sz := 1) (m := i) (q := i) rfl (by kernel_rfl) (cx.ou 6) (cx.an 0) (by omega) (by omega) (by omega)
          · refine sv_any rfl rfl fun ρ β W X cx => ?_
            exact dv_storeAr (m := i) rfl (cx.an 6) (cx.an 5) (by kernel_rfl) rfl rfl cx (cx.init 4 _ rfl) rfl (by simp only [List.length_map, mdC_len]; omega) rfl (by rw [← List.map_set, mdC_set s n i (by omega)]) rfl rfl (fun σ β' X' hs hb hx => hx)
        intro σ β X W19 hD hst19 fr hfr
        simp only [exq 5 ((dTn (hD 7 lq)))] at hst19
        clear hD; subst hfr; clear σ β X
        refine then_normal (wp_region_P [0, 1, 3] [.k 36 (vi (((40 * n + i : Nat) : Int))), tI 37 (((40 * n + i : Nat) : Int) + 1) (by omega), .k 4 (vi (((40 * n + i : Nat) : Int) + 1))] [(4, 2, 1, 5), (31, 0, 2, 33)] hst19 fun W20 hst20 => ?_)
        refine blk_normal (then_normal (wp_region_P [0, 1, 3] [.k 23 (vi ((i : Int))), tI 24 ((i : Int) + 1) (by omega), .k 7 (vi ((i : Int) + 1))] [(7, 2, 1, 8), (15, 0, 2, 17)] hst20 fun W21 hst21 => ?_))
        refine then_normal ?_
        refine ⟨40 - ((i + 1)), by omega, ?_⟩
        have hp22 := hst21.pick [0, 1, 2, 3, 4] (by decide) rfl
        exact ⟨(i + 1), [vi ((i : Int)), .bool (decide ((i : Int) < 40)), vi ((i : Int)), vi ((i : Int) + 1), vi (((40 * n + i : Nat) : Int)), .slice LA s.length lc, vi ((s.length : Int)), .bool (decide (((40 * n + i : Nat) : Int) < (s.length : Int))), vi ((i : Int)), .slice LA s.length lc, vi (((40 * n + i : Nat) : Int)), .pointer (some ((ad LA).add (((40 * n + i : Nat))))), vi (s.getD ((40 * n + i : Nat)) 0), vi ((s.getD ((40 * n + i : Nat)) 0) % 65536), .pointer (some ⟨B6_11, i, none⟩), vi (((40 * n + i : Nat) : Int)), vi (((40 * n + i : Nat) : Int) + 1)], by omega, rfl, rfl, hp22⟩
      have hs18p : ¬ (((40 * n + i : Nat) : Int) < (s.length : Int)) := by simpa using hs18
      refine wp_cond_false (show Act.eval _ _ = .bool false from (congrArg Value.bool hs18)) (wp_skip (then_normal (wp_region_P [0, 1, 3] [.k 36 (vi (((40 * n + i : Nat) : Int))), tI 37 (((40 * n + i : Nat) : Int) + 1) (by omega), .k 4 (vi (((40 * n + i : Nat) : Int) + 1))] [(4, 2, 1, 5), (31, 0, 2, 33)] hst17 fun W23 hst23 => ?_)))
      refine blk_normal (then_normal (wp_region_P [0, 1, 3] [.k 23 (vi ((i : Int))), tI 24 ((i : Int) + 1) (by omega), .k 7 (vi ((i : Int) + 1))] [(7, 2, 1, 8), (15, 0, 2, 17)] hst23 fun W24 hst24 => ?_))
      refine then_normal ?_
      rw [mdC_no s n i (by omega)] at hst24
      refine ⟨40 - ((i + 1)), by omega, ?_⟩
      have hp25 := hst24.pick [0, 1, 2, 3, 4] (by decide) rfl
      exact ⟨(i + 1), [vi ((i : Int)), .bool (decide ((i : Int) < 40)), vi ((i : Int)), vi ((i : Int) + 1), vi (((40 * n + i : Nat) : Int)), .slice LA s.length lc, vi ((s.length : Int)), .bool (decide (((40 * n + i : Nat) : Int) < (s.length : Int))), (gu u13_ 8), (gu u13_ 9), (gu u13_ 10), (gu u13_ 11), (gu u13_ 12), (gu u13_ 13), (gu u13_ 14), vi (((40 * n + i : Nat) : Int)), vi (((40 * n + i : Nat) : Int) + 1)], by omega, rfl, rfl, hp25⟩
    have hs16p : ¬ ((i : Int) < 40) := by simpa using hs16
    refine wp_cond_false (show Act.eval _ _ = .bool false from (congrArg Value.bool hs16)) (wp_exit (then_exit (then_exit (blk_eq (then_normal (wp_seq ?_))))))
    obtain rfl : i = 40 := by omega
    obtain ⟨V, hV⟩ : ∃ z, mdV s n = z := ⟨_, rfl⟩
    rw [show mdC s n (40 : Nat) = V from hV] at hst15
    have hVl : V.length = 40 := by rw [← hV]; exact mdV_len s n
    have hVb : ∀ i, 0 ≤ V.getD i 0 ∧ V.getD i 0 ≤ 65535 := fun i => by rw [← hV]; exact mdV_bd s n i
    have hVb1 := hVb 1
    have hVb2 := hVb 2
    have hVb3 := hVb 3
    refine wp_region_Y [0, 1, 0, 4, 12, 28, 60, 124, 255, 0, 1023] [[], [4], [], [4], [], [], [], [], [], [], [6]] [[], [], [], [], [], [], [], [5], [], [6], [7]] [[], [], [], [], [], [], [], [], [], [], [6]] [.c 38 (vp B6_11), .c 39 (vi (V.getD 0 0)), .c 40 (.pointer (some ⟨B6_11, 1, none⟩)), .c 41 (vi (V.getD 1 0)), tRe 42 .i64 (V.getD 1 0) 2 ((V.getD 1 0) % 2) (Int.tmod_eq_emod_of_nonneg (by omega)), tI 43 (1 + ((V.getD 1 0) % 2)) (by omega), .c 44 (.string (putS (1 + ((V.getD 1 0) % 2)) 2)), .a 45, .a 46, .a 8, .n] (fun ix σ β X => match ix with | 0 => True | 1 => True | 2 => True | 3 => True | 4 => True | 5 => True | 6 => True | 7 => σ 45 = .slice (sA (β 45)) 1 1 ∧ X 5 = eO 9 1 (.slice (sA (β 45)) 1 1) 1 ([.string (putS (1 + ((V.getD 1 0) % 2)) 2)]) | 8 => σ 46 = .agg #[vi 1, vi (V.getD 0 0), .slice (sA (β 45)) 1 1] | 9 => σ 8 = vp (pb (β 8)) ∧ X 6 = eB (pb (β 8)) 86 #[vi 0, vi 0, .slice none 0 0] | 10 => X 7 = eB (pb (β 8)) 86 #[vi 1, vi (V.getD 0 0), .slice (sA (β 45)) 1 1] | _ => True) [0, 1, 2, 3, 4, 5, 7] [0, 1, 2, 3, 6, 7, 8, 9, 10] [(8, 9, 1, 9), (29, 0, 9, 38)] hst15 ?_ ?_ ?_
    · exact fun ix _ _ _ _ _ _ hs hb hx h => match ix, h with
      | 7, h => by dsimp only at h ⊢; rw [← hs 45 rfl, ← hb 45 rfl, ← hx 5 rfl]; exact h
      | 8, h => by dsimp only at h ⊢; rw [← hs 46 rfl, ← hb 45 rfl]; exact h
      | 9, h => by dsimp only at h ⊢; rw [← hs 8 rfl, ← hb 8 rfl, ← hx 6 rfl]; exact h
      | 10, h => by dsimp only at h ⊢; rw [← hb 8 rfl, ← hb 45 rfl, ← hx 7 rfl]; exact h
      | 0, _ | 1, _ | 2, _ | 3, _ | 4, _ | 5, _ | 6, _ | _ + 11, _ => trivial
    · refine ⟨?_, ?_, ?_, ?_, ?_, ?_, ?_, ?_, ?_, trivial⟩
      · exact xs4 rfl id fun cx => run_indexArrB (n := 40) (sz := 1) (m := 0) (q := 0) rfl (by kernel_rfl) (cx.ou 6) (cx.co _) (by omega) (by omega) (by omega)
      · exact xs4 rfl id fun cx => run_load1 rfl (by kernel_rfl) (cx.an 0) (((cx.bi 4 rfl).cell 0).trans ((List.getElem?_toArray ..).trans (getD_int (by omega))))
      · exact xs4 rfl id fun cx => run_indexArrB (n := 40) (sz := 1) (m := 1) (q := 1) rfl (by kernel_rfl) (cx.ou 6) (cx.co _) (by omega) (by omega) (by omega)
      · exact xs4 rfl id fun cx => run_load1 rfl (by kernel_rfl) (cx.an 2) (((cx.bi 4 rfl).cell 1).trans ((List.getElem?_toArray ..).trans (getD_int (by omega))))
      · exact xsc rfl id rfl rfl fun cx => ⟨_, r01put2 (1 + ((V.getD 1 0) % 2)) _ (by omega), (map2 (cx.an 5) (cx.co _))⟩
      · refine sv_any rfl rfl fun ρ β W X cx => ?_
        have fF44 : ρ (.tmp 44) = .string (putS (1 + ((V.getD 1 0) % 2)) 2) := (cx.an 6)
        exact dv_lit (e := 9) (xs := [.string (putS (1 + ((V.getD 1 0) % 2)) 2)]) rfl (by simp [go_sem, fF44]) rfl (by decide) rfl rfl (fun σ β' X' hs hb hv hx => ⟨hv, hx⟩)
      · exact sv rfl rfl rfl rfl rfl _ (fun _ _ _ h => h) (fun β β' h => by rw [h 45 (by decide)]) fun ρ β W X cx => run_buildL rfl (pmc (cx.co _) (pmc (cx.an 1) (pmc (dTn (cx.an 7)).1 pmn))) (by kernel_rfl)
      · refine sv_any rfl rfl fun ρ β W X cx => ?_
        exact dv_alloc (cs := #[vi 0, vi 0, .slice none 0 0]) rfl (by kernel_rfl) rfl rfl (fun σ β' X' hs hb hv hx => ⟨hv, hx⟩)
      · refine sv_any rfl rfl fun ρ β W X cx => ?_
        exact dv_store (n := 3) rfl (dTn (cx.an 9)).1 (dTn (cx.an 8)) (by kernel_rfl) (by kernel_rfl) (by kernel_rfl) cx (dTn (cx.an 9)).2 rfl (nle rfl) (by kernel_rfl) rfl rfl rfl (fun σ β' X' hs hb hx => by rw [hb 8, hb 45]; exact hx)
    intro σ β X W26 hD hst26 fr hfr
    obtain ⟨A45_26, hu_A45_26⟩ : ∃ z, sA (β 45) = z := ⟨_, rfl⟩
    obtain ⟨B8_26, hu_B8_26⟩ : ∃ z, pb (β 8) = z := ⟨_, rfl⟩
    simp only [exq 5 ((dTn (hD 7 lq)).2), exq 7 ((dTn (hD 10 lq))), hu_A45_26, hu_B8_26] at hst26
    simp only [ed 45 ((dTn (hD 7 lq)).1), ed 46 ((dTn (hD 8 lq))), ed 8 ((dTn (hD 9 lq)).1), hu_A45_26, hu_B8_26] at hfr
    clear hD hu_A45_26 hu_B8_26; subst hfr; clear σ β X
    refine then_normal ?_
    refine wp_cut (fun az W => ∃ K : Int, ∃ u27_ : List Value, K = mdK V ∧ az = ⟨#[.slice LA s.length lc, undef, vp B2_1, vp B3_2, vi (((40 * n + (40 : Nat) : Nat) : Int)), vi ((n : Int)), vp B6_11, vi (((40 : Nat) : Int)), vp B8_26, (gu u7_ 3), (gu u7_ 4), (gu u7_ 5), (gu u7_ 6), (gu u7_ 7), (gu u7_ 8), .agg #[.slice none 0 0], vi ((n : Int)), .bool (decide ((n : Int) < 5)), (gu u7_ 11), (gu u7_ 12), .agg #[vi 0, vi 0, vi 0, vi 0, vi 0, vi 0, vi 0, vi 0, vi 0, vi 0, vi 0, vi 0, vi 0, vi 0, vi 0, vi 0, vi 0, vi 0, vi 0, vi 0, vi 0, vi 0, vi 0, vi 0, vi 0, vi 0, vi 0, vi 0, vi 0, vi 0, vi 0, vi 0, vi 0, vi 0, vi 0, vi 0, vi 0, vi 0, vi 0, vi 0], vi (((40 : Nat) : Int)), .bool (decide (((40 : Nat) : Int) < 40)), (gu u13_ 2), (gu u13_ 3), (gu u13_ 4), (gu u13_ 5), (gu u13_ 6), (gu u13_ 7), (gu u13_ 8), (gu u13_ 9), (gu u13_ 10), (gu u13_ 11), (gu u13_ 12), (gu u13_ 13), (gu u13_ 14), (gu u13_ 15), (gu u13_ 16), vp B6_11, vi (V.getD 0 0), .pointer (some ⟨B6_11, 1, none⟩), vi (V.getD 1 0), vi ((V.getD 1 0) % 2), vi (1 + ((V.getD 1 0) % 2)), .string (putS (1 + ((V.getD 1 0) % 2)) 2), .slice A45_26 1 1, .agg #[vi 1, vi (V.getD 0 0), .slice A45_26 1 1], (gu u27_ 0), (gu u27_ 1), (gu u27_ 2), (gu u27_ 3), (gu u27_ 4), (gu u27_ 5), (gu u27_ 6), (gu u27_ 7), (gu u7_ 48), (gu u7_ 49), (gu u7_ 50), (gu u7_ 51), (gu u7_ 52), (gu u7_ 53), (gu u7_ 54), (gu u7_ 55), (gu u7_ 56), (gu u7_ 57), (gu u7_ 58), (gu u7_ 59), (gu u7_ 60), (gu u7_ 61), (gu u7_ 62), (gu u7_ 63), (gu u7_ 64), (gu u7_ 65), (gu u7_ 66), (gu u7_ 67), (gu u7_ 68), (gu u7_ 69), (gu u7_ 70), (gu u7_ 71), (gu u7_ 72), (gu u7_ 73), (gu u7_ 74), (gu u7_ 75), (gu u7_ 76), (gu u7_ 77), (gu u7_ 78), (gu u7_ 79), (gu u7_ 80), (gu u7_ 81), (gu u7_ 82), (gu u7_ 83), (gu u7_ 84), (gu u7_ 85), (gu u7_ 86), (gu u7_ 87), (gu u7_ 88), (gu u7_ 89), (gu u7_ 90), (gu u7_ 91), (gu u7_ 92), (gu u7_ 93), (gu u7_ 94), (gu u7_ 95), (gu u7_ 96), (gu u7_ 97), (gu u7_ 98), (gu u7_ 99), (gu u7_ 100), (gu u7_ 101), (gu u7_ 102), (gu u7_ 103), (gu u7_ 104), (gu u7_ 105), (gu u7_ 106), (gu u7_ 107), (gu u7_ 108), (gu u7_ 109), (gu u7_ 110), (gu u7_ 111), (gu u7_ 112), (gu u7_ 113), (gu u7_ 114), (gu u7_ 115), (gu u7_ 116), (gu u7_ 117), (gu u7_ 118), (gu u7_ 119), (gu u7_ 120), (gu u7_ 121), (gu u7_ 122), (gu u7_ 123), (gu u7_ 124), (gu u7_ 125), (gu u7_ 126), (gu u7_ 127), (gu u7_ 128), (gu u7_ 129), (gu u7_ 130), (gu u7_ 131), (gu u7_ 132), (gu u7_ 133), (gu u7_ 134), (gu u7_ 135), undef], []⟩ ∧ St w [] [eB B2_1 30 #[.slice none 0 0], eB B3_2 30 #[.slice PA n PC], eO 86 3 (.slice PA n PC) n (Ps.flatMap pgC), ePs Ps, eB B6_11 128 (V.map (Value.int .i64)).toArray, eO 9 1 (.slice A45_26 1 1) 1 ([.string (putS (1 + ((V.getD 1 0) % 2)) 2)]), eB B8_26 86 #[vi K, vi (V.getD 0 0), .slice A45_26 1 1]] W) ?_ ?_
    · skip
      refine wp_seq (wp_region_Z [0, 1, 3, 7] [[], [4]] [.c 47 (.pointer (some ⟨B6_11, 2, none⟩)), .c 48 (vi (V.getD 2 0)), tRe 49 .i64 (V.getD 2 0) 9 ((V.getD 2 0) % 9) (Int.tmod_eq_emod_of_nonneg (by omega)), .k 50 (.bool (((V.getD 2 0) % 9) == 4))] [0, 1, 2, 3, 4, 5, 6] [0, 1] [(47, 0, 4, 51)] hst26 ?_ fun W28 hst28 => ?_)
      · refine ⟨?_, ?_, trivial⟩
        · exact xs4 rfl id fun cx => run_indexArrB (n := 40) (sz := 1) (m := 2) (q := 2) rfl (by kernel_rfl) (cx.ou 6) (cx.co _) (by omega) (by omega) (by omega)
        · exact xs4 rfl id fun cx => run_load1 rfl (by kernel_rfl) (cx.an 0) (((cx.bi 4 rfl).cell 2).trans ((List.getElem?_toArray ..).trans (getD_int (by omega))))
      refine then_normal ?_
      rcases Bool.eq_false_or_eq_true (((V.getD 2 0) % 9) == 4) with hs29 | hs29
      · skip
        have hs29p : ((V.getD 2 0) % 9) = 4 := by simpa using hs29
        refine wp_cond_true (show Act.eval _ _ = .bool true from (congrArg Value.bool hs29)) (wp_region_Y [0, 1, 3, 7, 15] [[], [4], [], [], [6]] [[], [], [], [], [7]] [[], [], [], [], [6]] [.c 51 (.pointer (some ⟨B6_11, 3, none⟩)), .c 52 (vi (V.getD 3 0)), tRe 53 .i64 (V.getD 3 0) 3 ((V.getD 3 0) % 3) (Int.tmod_eq_emod_of_nonneg (by omega)), .k 54 (vp B8_26), .n] (fun ix σ β X => match ix with | 0 => True | 1 => True | 2 => True | 3 => True | 4 => X 7 = eB B8_26 86 #[vi ((V.getD 3 0) % 3), vi (V.getD 0 0), .slice A45_26 1 1] | _ => True) [0, 1, 2, 3, 4, 5, 7] [0, 1, 4] [(51, 0, 4, 55)] hst28 ?_ ?_ ?_)
        · exact fun ix _ _ _ _ _ _ hs hb hx h => match ix, h with
          | 4, h => by dsimp only at h ⊢; rw [← hx 7 rfl]; exact h
          | 0, _ | 1, _ | 2, _ | 3, _ | _ + 5, _ => trivial
        · refine ⟨?_, ?_, ?_, trivial⟩
          · exact xs4 rfl id fun cx => run_indexArrB (n := 40) (sz := 1) (m := 3) (q := 3) rfl (by kernel_rfl) (cx.ou 6) (cx.co _) (by omega) (by omega) (by omega)
          · exact xs4 rfl id fun cx => run_load1 rfl (by kernel_rfl) (cx.an 0) (((cx.bi 4 rfl).cell 3).trans ((List.getElem?_toArray ..).trans (getD_int (by omega))))
          · refine sv_any rfl rfl fun ρ β W X cx => ?_
            exact dv_store (n := 1) rfl (cx.an 3) (cx.an 2) (by kernel_rfl) (by kernel_rfl) (by kernel_rfl) cx (cx.init 6 _ rfl) rfl (nle rfl) (by kernel_rfl) rfl rfl rfl (fun σ β' X' hs hb hx => hx)
        intro σ β X W30 hD hst30 fr hfr
        simp only [exq 7 ((dTn (hD 4 lq)))] at hst30
        clear hD; subst hfr; clear σ β X
        refine then_normal ?_
        have hp31 := hst30.pick [0, 1, 2, 3, 4, 5, 6] (by decide) rfl
        exact ⟨((V.getD 3 0) % 3), [.pointer (some ⟨B6_11, 2, none⟩), vi (V.getD 2 0), vi ((V.getD 2 0) % 9), .bool (((V.getD 2 0) % 9) == 4), .pointer (some ⟨B6_11, 3, none⟩), vi (V.getD 3 0), vi ((V.getD 3 0) % 3), vp B8_26], by rw [mdK]; split <;> first | rfl | (exfalso; omega), rfl, hp31⟩
      have hs29p : ((V.getD 2 0) % 9) ≠ 4 := by simpa using hs29
      refine wp_cond_false (show Act.eval _ _ = .bool false from (congrArg Value.bool hs29)) (wp_skip (then_normal ?_))
      have hp32 := hst28.pick [0, 1, 2, 3, 4, 5, 6] (by decide) rfl
      exact ⟨1, [.pointer (some ⟨B6_11, 2, none⟩), vi (V.getD 2 0), vi ((V.getD 2 0) % 9), .bool (((V.getD 2 0) % 9) == 4), (gu u7_ 44), (gu u7_ 45), (gu u7_ 46), (gu u7_ 47)], by rw [mdK]; split <;> first | rfl | (exfalso; omega), rfl, hp32⟩
    rintro a27 W27 ⟨K, u27_, hK, rfl, hst27⟩
    subst hK
    refine wp_cut (fun az W => ∃ H : ByteArray, ∃ u33_ : List Value, H = mdH V ∧ az = ⟨#[.slice LA s.length lc, undef, vp B2_1, vp B3_2, vi (((40 * n + (40 : Nat) : Nat) : Int)), vi ((n : Int)), vp B6_11, vi (((40 : Nat) : Int)), vp B8_26, (gu u7_ 3), (gu u7_ 4), (gu u7_ 5), (gu u7_ 6), (gu u7_ 7), (gu u7_ 8), .agg #[.slice none 0 0], vi ((n : Int)), .bool (decide ((n : Int) < 5)), (gu u7_ 11), (gu u7_ 12), .agg #[vi 0, vi 0, vi 0, vi 0, vi 0, vi 0, vi 0, vi 0, vi 0, vi 0, vi 0, vi 0, vi 0, vi 0, vi 0, vi 0, vi 0, vi 0, vi 0, vi 0, vi 0, vi 0, vi 0, vi 0, vi 0, vi 0, vi 0, vi 0, vi 0, vi 0, vi 0, vi 0, vi 0, vi 0, vi 0, vi 0, vi 0, vi 0, vi 0, vi 0], vi (((40 : Nat) : Int)), .bool (decide (((40 : Nat) : Int) < 40)), (gu u13_ 2), (gu u13_ 3), (gu u13_ 4), (gu u13_ 5), (gu u13_ 6), (gu u13_ 7), (gu u13_ 8), (gu u13_ 9), (gu u13_ 10), (gu u13_ 11), (gu u13_ 12), (gu u13_ 13), (gu u13_ 14), (gu u13_ 15), (gu u13_ 16), vp B6_11, vi (V.getD 0 0), .pointer (some ⟨B6_11, 1, none⟩), vi (V.getD 1 0), vi ((V.getD 1 0) % 2), vi (1 + ((V.getD 1 0) % 2)), .string (putS (1 + ((V.getD 1 0) % 2)) 2), .slice A45_26 1 1, .agg #[vi 1, vi (V.getD 0 0), .slice A45_26 1 1], (gu u27_ 0), (gu u27_ 1), (gu u27_ 2), (gu u27_ 3), (gu u27_ 4), (gu u27_ 5), (gu u27_ 6), (gu u27_ 7), (gu u33_ 0), (gu u33_ 1), (gu u33_ 2), (gu u33_ 3), (gu u33_ 4), (gu u33_ 5), (gu u33_ 6), (gu u7_ 55), (gu u7_ 56), (gu u7_ 57), (gu u7_ 58), (gu u7_ 59), (gu u7_ 60), (gu u7_ 61), (gu u7_ 62), (gu u7_ 63), (gu u7_ 64), (gu u7_ 65), (gu u7_ 66), (gu u7_ 67), (gu u7_ 68), (gu u7_ 69), (gu u7_ 70), (gu u7_ 71), (gu u7_ 72), (gu u7_ 73), (gu u7_ 74), (gu u7_ 75), (gu u7_ 76), (gu u7_ 77), (gu u7_ 78), (gu u7_ 79), (gu u7_ 80), (gu u7_ 81), (gu u7_ 82), (gu u7_ 83), (gu u7_ 84), (gu u7_ 85), (gu u7_ 86), (gu u7_ 87), (gu u7_ 88), (gu u7_ 89), (gu u7_ 90), (gu u7_ 91), (gu u7_ 92), (gu u7_ 93), (gu u7_ 94), (gu u7_ 95), (gu u7_ 96), (gu u7_ 97), (gu u7_ 98), (gu u7_ 99), (gu u7_ 100), (gu u7_ 101), (gu u7_ 102), (gu u7_ 103), (gu u7_ 104), (gu u7_ 105), (gu u7_ 106), (gu u7_ 107), (gu u7_ 108), (gu u7_ 109), (gu u7_ 110), (gu u7_ 111), (gu u7_ 112), (gu u7_ 113), (gu u7_ 114), (gu u7_ 115), (gu u7_ 116), (gu u7_ 117), (gu u7_ 118), (gu u7_ 119), (gu u7_ 120), (gu u7_ 121), (gu u7_ 122), (gu u7_ 123), (gu u7_ 124), (gu u7_ 125), (gu u7_ 126), (gu u7_ 127), (gu u7_ 128), (gu u7_ 129), (gu u7_ 130), (gu u7_ 131), (gu u7_ 132), (gu u7_ 133), (gu u7_ 134), (gu u7_ 135), undef], []⟩ ∧ St w [] [eB B2_1 30 #[.slice none 0 0], eB B3_2 30 #[.slice PA n PC], eO 86 3 (.slice PA n PC) n (Ps.flatMap pgC), ePs Ps, eB B6_11 128 (V.map (Value.int .i64)).toArray, eO 9 1 (.slice A45_26 1 1) 1 ([.string H]), eB B8_26 86 #[vi (mdK V), vi (V.getD 0 0), .slice A45_26 1 1]] W) ?_ ?_
    · skip
      refine wp_seq (wp_region_Z [0, 1, 3, 7] [[], [4]] [.c 55 (.pointer (some ⟨B6_11, 2, none⟩)), .c 56 (vi (V.getD 2 0)), tRe 57 .i64 (V.getD 2 0) 11 ((V.getD 2 0) % 11) (Int.tmod_eq_emod_of_nonneg (by omega)), .k 58 (.bool (((V.getD 2 0) % 11) == 5))] [0, 1, 2, 3, 4, 5, 6] [0, 1] [(55, 0, 4, 59)] hst27 ?_ fun W34 hst34 => ?_)
      · refine ⟨?_, ?_, trivial⟩
        · exact xs4 rfl id fun cx => run_indexArrB (n := 40) (sz := 1) (m := 2) (q := 2) rfl (by kernel_rfl) (cx.ou 6) (cx.co _) (by omega) (by omega) (by omega)
        · exact xs4 rfl id fun cx => run_load1 rfl (by kernel_rfl) (cx.an 0) (((cx.bi 4 rfl).cell 2).trans ((List.getElem?_toArray ..).trans (getD_int (by omega))))
      refine then_normal ?_
      rcases Bool.eq_false_or_eq_true (((V.getD 2 0) % 11) == 5) with hs35 | hs35
      · skip
        have hs35p : ((V.getD 2 0) % 11) = 5 := by simpa using hs35
        refine wp_cond_true (show Act.eval _ _ = .bool true from (congrArg Value.bool hs35)) (wp_region_Y [0, 1, 3, 7] [[], [6], [5], [5]] [[], [], [], [7]] [[], [], [], [5]] [.k 59 (.pointer (some ⟨B8_26, 2, none⟩)), .c 60 (.slice A45_26 1 1), .c 61 (.pointer (some ((ad A45_26).add 0))), .n] (fun ix σ β X => match ix with | 0 => True | 1 => True | 2 => True | 3 => X 7 = eO 9 1 (.slice A45_26 1 1) 1 (([.string (putS (1 + ((V.getD 1 0) % 2)) 2)]).set 0 (.string ⟨#[120]⟩)) | _ => True) [0, 1, 2, 3, 4, 6, 7] [1, 2, 3] [(59, 0, 3, 62)] hst34 ?_ ?_ ?_)
        · exact fun ix _ _ _ _ _ _ hs hb hx h => match ix, h with
          | 3, h => by dsimp only at h ⊢; rw [← hx 7 rfl]; exact h
          | 0, _ | 1, _ | 2, _ | _ + 4, _ => trivial
        · refine ⟨?_, ?_, ?_, trivial⟩
          · exact xs4 rfl id fun cx => run_load1 rfl (by kernel_rfl) (cx.an 0) ((cx.bi 6 rfl).cell 2)
          · exact xs4 rfl id fun cx => run_indexSl (e := 9) (m := 0) rfl (by kernel_rfl) (by kernel_rfl) (cx.an 1) (cx.co _) (by omega) (by omega) (At.of_own (cx.ri 5 rfl)) (by simp)
          · refine sv_any rfl rfl fun ρ β W X cx => ?_
            exact dv_storeRow (m := 0) (n := 1) rfl (cx.an 2) (cx.co _) (by kernel_rfl) rfl rfl cx (cx.init 5 _ rfl) rfl (by omega) rfl (rfl) rfl rfl (fun σ β' X' hs hb hx => hx)
        intro σ β X W36 hD hst36 fr hfr
        simp only [exq 7 ((dTn (hD 3 lq)))] at hst36
        clear hD; subst hfr; clear σ β X
        refine then_normal ?_
        have hp37 := hst36.pick [0, 1, 2, 3, 4, 6, 5] (by decide) rfl
        exact ⟨(⟨#[120]⟩ : ByteArray), [.pointer (some ⟨B6_11, 2, none⟩), vi (V.getD 2 0), vi ((V.getD 2 0) % 11), .bool (((V.getD 2 0) % 11) == 5), .pointer (some ⟨B8_26, 2, none⟩), .slice A45_26 1 1, .pointer (some ((ad A45_26).add 0))], by rw [mdH]; split <;> first | rfl | (exfalso; omega), rfl, hp37⟩
      have hs35p : ((V.getD 2 0) % 11) ≠ 5 := by simpa using hs35
      refine wp_cond_false (show Act.eval _ _ = .bool false from (congrArg Value.bool hs35)) (wp_skip (then_normal ?_))
      have hp38 := hst34.pick [0, 1, 2, 3, 4, 5, 6] (by decide) rfl
      exact ⟨(putS (1 + ((V.getD 1 0) % 2)) 2), [.pointer (some ⟨B6_11, 2, none⟩), vi (V.getD 2 0), vi ((V.getD 2 0) % 11), .bool (((V.getD 2 0) % 11) == 5), (gu u7_ 52), (gu u7_ 53), (gu u7_ 54)], by rw [mdH]; split <;> first | rfl | (exfalso; omega), rfl, hp38⟩
    rintro a33 W33 ⟨H, u33_, hH, rfl, hst33⟩
    subst hH
    refine wp_seq (wp_seq (wp_region_P [0] [.k 9 (vi 1)] [(9, 0, 1, 10)] hst33 fun W39 hst39 => ?_))
    refine then_normal (wp_block ?_)
    refine wp_loopN (fun mz az W => ∃ i : Nat, ∃ IA : Option Addr, ∃ IC : Nat, ∃ u40_ : List Value, 1 ≤ i ∧ i ≤ 12 ∧ mz = 12 - i ∧ az = ⟨#[.slice LA s.length lc, undef, vp B2_1, vp B3_2, vi (((40 * n + (40 : Nat) : Nat) : Int)), vi ((n : Int)), vp B6_11, vi (((40 : Nat) : Int)), vp B8_26, vi ((i : Int)), (gu u40_ 0), (gu u40_ 1), (gu u40_ 2), (gu u40_ 3), (gu u40_ 4), .agg #[.slice none 0 0], vi ((n : Int)), .bool (decide ((n : Int) < 5)), (gu u7_ 11), (gu u7_ 12), .agg #[vi 0, vi 0, vi 0, vi 0, vi 0, vi 0, vi 0, vi 0, vi 0, vi 0, vi 0, vi 0, vi 0, vi 0, vi 0, vi 0, vi 0, vi 0, vi 0, vi 0, vi 0, vi 0, vi 0, vi 0, vi 0, vi 0, vi 0, vi 0, vi 0, vi 0, vi 0, vi 0, vi 0, vi 0, vi 0, vi 0, vi 0, vi 0, vi 0, vi 0], vi (((40 : Nat) : Int)), .bool (decide (((40 : Nat) : Int) < 40)), (gu u13_ 2), (gu u13_ 3), (gu u13_ 4), (gu u13_ 5), (gu u13_ 6), (gu u13_ 7), (gu u13_ 8), (gu u13_ 9), (gu u13_ 10), (gu u13_ 11), (gu u13_ 12), (gu u13_ 13), (gu u13_ 14), (gu u13_ 15), (gu u13_ 16), vp B6_11, vi (V.getD 0 0), .pointer (some ⟨B6_11, 1, none⟩), vi (V.getD 1 0), vi ((V.getD 1 0) % 2), vi (1 + ((V.getD 1 0) % 2)), .string (putS (1 + ((V.getD 1 0) % 2)) 2), .slice A45_26 1 1, .agg #[vi 1, vi (V.getD 0 0), .slice A45_26 1 1], (gu u27_ 0), (gu u27_ 1), (gu u27_ 2), (gu u27_ 3), (gu u27_ 4), (gu u27_ 5), (gu u27_ 6), (gu u27_ 7), (gu u33_ 0), (gu u33_ 1), (gu u33_ 2), (gu u33_ 3), (gu u33_ 4), (gu u33_ 5), (gu u33_ 6), (gu u40_ 5), (gu u40_ 6), (gu u40_ 7), (gu u40_ 8), (gu u40_ 9), (gu u40_ 10), (gu u40_ 11), (gu u40_ 12), (gu u40_ 13), (gu u40_ 14), (gu u40_ 15), (gu u40_ 16), (gu u40_ 17), (gu u40_ 18), (gu u40_ 19), (gu u40_ 20), (gu u40_ 21), (gu u40_ 22), (gu u40_ 23), (gu u40_ 24), (gu u40_ 25), (gu u40_ 26), (gu u40_ 27), (gu u40_ 28), (gu u40_ 29), (gu u40_ 30), (gu u40_ 31), (gu u40_ 32), (gu u40_ 33), (gu u40_ 34), (gu u40_ 35), (gu u40_ 36), (gu u40_ 37), (gu u40_ 38), (gu u40_ 39), (gu u40_ 40), (gu u40_ 41), (gu u40_ 42), (gu u40_ 43), (gu u40_ 44), (gu u40_ 45), (gu u40_ 46), (gu u40_ 47), (gu u40_ 48), (gu u40_ 49), (gu u40_ 50), (gu u40_ 51), (gu u40_ 52), (gu u40_ 53), (gu u40_ 54), (gu u40_ 55), (gu u40_ 56), (gu u40_ 57), (gu u40_ 58), (gu u40_ 59), (gu u40_ 60), (gu u40_ 61), (gu u40_ 62), (gu u40_ 63), (gu u40_ 64), (gu u40_ 65), (gu u40_ 66), (gu u40_ 67), (gu u40_ 68), (gu u40_ 69), (gu u40_ 70), (gu u40_ 71), (gu u40_ 72), (gu u40_ 73), (gu u40_ 74), (gu u40_ 75), (gu u40_ 76), (gu u40_ 77), (gu u40_ 78), (gu u40_ 79), (gu u7_ 130), (gu u7_ 131), (gu u7_ 132), (gu u7_ 133), (gu u7_ 134), (gu u7_ 135), undef], []⟩ ∧ St w [] [eB B2_1 30 #[.slice none 0 0], eB B3_2 30 #[.slice PA n PC], eO 86 3 (.slice PA n PC) n (Ps.flatMap pgC), ePs Ps, eB B6_11 128 (V.map (Value.int .i64)).toArray, eO 9 1 (.slice IA ((mdSs V n i).length) IC) ((mdSs V n i).length) ((mdSs V n i).map Value.string), eB B8_26 86 #[vi (mdK V), vi (V.getD 0 0), .slice IA ((mdSs V n i).length) IC]] W) (12 - 1) ?_ ?_
    · -- the loop begins
      have hp41 := hst39.pick [0, 1, 2, 3, 4, 5, 6] (by decide) rfl
      exact ⟨1, A45_26, 1, [(gu u7_ 4), (gu u7_ 5), (gu u7_ 6), (gu u7_ 7), (gu u7_ 8), (gu u7_ 55), (gu u7_ 56), (gu u7_ 57), (gu u7_ 58), (gu u7_ 59), (gu u7_ 60), (gu u7_ 61), (gu u7_ 62), (gu u7_ 63), (gu u7_ 64), (gu u7_ 65), (gu u7_ 66), (gu u7_ 67), (gu u7_ 68), (gu u7_ 69), (gu u7_ 70), (gu u7_ 71), (gu u7_ 72), (gu u7_ 73), (gu u7_ 74), (gu u7_ 75), (gu u7_ 76), (gu u7_ 77), (gu u7_ 78), (gu u7_ 79), (gu u7_ 80), (gu u7_ 81), (gu u7_ 82), (gu u7_ 83), (gu u7_ 84), (gu u7_ 85), (gu u7_ 86), (gu u7_ 87), (gu u7_ 88), (gu u7_ 89), (gu u7_ 90), (gu u7_ 91), (gu u7_ 92), (gu u7_ 93), (gu u7_ 94), (gu u7_ 95), (gu u7_ 96), (gu u7_ 97), (gu u7_ 98), (gu u7_ 99), (gu u7_ 100), (gu u7_ 101), (gu u7_ 102), (gu u7_ 103), (gu u7_ 104), (gu u7_ 105), (gu u7_ 106), (gu u7_ 107), (gu u7_ 108), (gu u7_ 109), (gu u7_ 110), (gu u7_ 111), (gu u7_ 112), (gu u7_ 113), (gu u7_ 114), (gu u7_ 115), (gu u7_ 116), (gu u7_ 117), (gu u7_ 118), (gu u7_ 119), (gu u7_ 120), (gu u7_ 121), (gu u7_ 122), (gu u7_ 123), (gu u7_ 124), (gu u7_ 125), (gu u7_ 126), (gu u7_ 127), (gu u7_ 128), (gu u7_ 129)], by omega, by omega, rfl, rfl, hp41⟩
    rintro n40 a40 W40 ⟨i, IA, IC, u40_, hi1, hi12, rfl, rfl, hst40⟩
    refine wp_seq (wp_seq (wp_region_Z [0, 1, 3, 7, 15, 31, 63, 127] [] [.k 62 (vi ((i : Int))), .k 63 (.bool (decide ((i : Int) < 12))), .k 64 (.bool (decide ((i : Int) < 12))), .z 65 (decide ((i : Int) < 12)) (vi ((i : Int))), .y 66 (decide ((i : Int) < 12)) (vi (((3 * i : Nat) : Int))), .y 67 (decide ((i : Int) < 12)) (vi (((3 * i + 2 : Nat) : Int))), .z 68 (decide ((i : Int) < 12)) (.bool (decide (((3 * i + 2 : Nat) : Int) < 40))), tA 69 (decide ((i : Int) < 12)) (decide (((3 * i + 2 : Nat) : Int) < 40))] [0, 1, 2, 3, 4, 5, 6] [4, 5] [(62, 0, 8, 70)] hst40 ?_ fun W42 hst42 => ?_))
    · refine ⟨?_, ?_, trivial⟩
      · exact m2 rfl (fun _ _ _ h => h) (fun cx => (cx.an 2)) fun cx hq => run_bin rfl (cx.co _) (mbv (cx.an 3) hq) (congrArg (fun z => some (Value.int .i64 z)) ((IntWalk.i64_in _ (by have hq_ := hq; simp only [zB] at hq_; omega)).trans (by have hq_ := hq; simp only [zB] at hq_; omega)))
      · exact m2 rfl (fun _ _ _ h => h) (fun cx => (cx.an 2)) fun cx hq => run_bin rfl (mbv (cx.an 4) hq) (cx.co _) (congrArg (fun z => some (Value.int .i64 z)) ((IntWalk.i64_in _ (by have hq_ := hq; simp only [zB] at hq_; omega)).trans (by have hq_ := hq; simp only [zB] at hq_; omega)))
    refine then_normal ?_
    rcases Bool.eq_false_or_eq_true ((decide ((i : Int) < 12)) && (decide (((3 * i + 2 : Nat) : Int) < 40))) with hs43 | hs43
    · skip
      have hs43p := hs43
      simp only [zB] at hs43p
      obtain ⟨hs43p1, hs43p2⟩ := hs43p
      refine wp_cond_true (show Act.eval _ _ = .bool true from (congrArg Value.bool hs43)) (wp_skip (then_normal (wp_seq (wp_block (wp_seq (wp_region_Z [0, 1, 3, 7, 15] [[], [], [], [4]] [.k 72 (vi ((i : Int))), tJ 73 (3 * (i : Int)) ((3 * i : Nat) : Int) (by omega) (by omega), .c 74 (.pointer (some ⟨B6_11, ((3 * i : Nat)), none⟩)), .c 75 (vi (V.getD ((3 * i : Nat)) 0)), .k 10 (vi (V.getD ((3 * i : Nat)) 0))] [0, 1, 2, 3, 4, 5, 6] [2, 3] [(10, 4, 1, 11), (61, 0, 4, 65)] hst42 ?_ fun W44 hst44 => ?_))))))
      · refine ⟨?_, ?_, trivial⟩
        · exact xs4 rfl id fun cx => run_indexArrB (n := 40) (sz := 1) (m := ((3 * i : Nat))) (q := ((3 * i : Nat))) rfl (by kernel_rfl) (cx.ou 6) (cx.an 1) (by omega) (by omega) (by omega)
        · exact xs4 rfl id fun cx => run_load1 rfl (by kernel_rfl) (cx.an 2) (((cx.bi 4 rfl).cell ((3 * i : Nat))).trans ((List.getElem?_toArray ..).trans (getD_int (by omega))))
      refine then_normal (wp_seq ?_)
      obtain ⟨x, hN_x⟩ : ∃ z, V.getD ((3 * i : Nat)) 0 = z := ⟨_, rfl⟩
      rw [hN_x]
      have hxb : 0 ≤ x ∧ x ≤ 65535 := by rw [← hN_x]; exact hVb _
      refine wp_region_Z [0, 1, 3, 7, 15, 31] [[], [], [], [], [4]] [.k 76 (vi ((i : Int))), tJ 77 (3 * (i : Int)) ((3 * i : Nat) : Int) (by omega) (by omega), tJ 78 (((3 * i : Nat) : Int) + 1) ((3 * i + 1 : Nat) : Int) (by omega) (by omega), .c 79 (.pointer (some ⟨B6_11, ((3 * i + 1 : Nat)), none⟩)), .c 80 (vi (V.getD ((3 * i + 1 : Nat)) 0)), .k 11 (vi (V.getD ((3 * i + 1 : Nat)) 0))] [0, 1, 2, 3, 4, 5, 6] [3, 4] [(11, 5, 1, 12), (64, 0, 5, 69)] hst44 ?_ fun W45 hst45 => ?_
      · refine ⟨?_, ?_, trivial⟩
        · exact xs4 rfl id fun cx => run_indexArrB (n := 40) (sz := 1) (m := ((3 * i + 1 : Nat))) (q := ((3 * i + 1 : Nat))) rfl (by kernel_rfl) (cx.ou 6) (cx.an 2) (by omega) (by omega) (by omega)
        · exact xs4 rfl id fun cx => run_load1 rfl (by kernel_rfl) (cx.an 3) (((cx.bi 4 rfl).cell ((3 * i + 1 : Nat))).trans ((List.getElem?_toArray ..).trans (getD_int (by omega))))
      refine then_normal (wp_seq ?_)
      obtain ⟨y, hN_y⟩ : ∃ z, V.getD ((3 * i + 1 : Nat)) 0 = z := ⟨_, rfl⟩
      rw [hN_y]
      have hyb : 0 ≤ y ∧ y ≤ 65535 := by rw [← hN_y]; exact hVb _
      obtain ⟨z, hN_z⟩ : ∃ z, V.getD (3 * i + 2) 0 = z := ⟨_, rfl⟩
      have hvm := vmax_0 (mdL x y z)
      refine wp_region_Y [0, 0, 0, 4, 12, 28, 60, 0, 128, 0, 0, 2047, 4095, 0, 16383] [[], [], [], [], [], [], [4], [], [], [], [], [], [7], [], [9]] [[], [], [], [], [], [], [], [], [], [], [], [7], [8], [9], [10]] [[], [], [], [], [], [], [], [], [], [], [], [], [], [], [9]] [.k 81 (vi (x)), .k 82 (vi (y)), .k 83 (vi ((i : Int))), tJ 84 (3 * (i : Int)) ((3 * i : Nat) : Int) (by omega) (by omega), tJ 85 (((3 * i : Nat) : Int) + 2) ((3 * i + 2 : Nat) : Int) (by omega) (by omega), .c 86 (.pointer (some ⟨B6_11, ((3 * i + 2 : Nat)), none⟩)), .c 87 (vi (V.getD ((3 * i + 2 : Nat)) 0)), .k 88 (vi (x)), tRe 89 .i64 x 2 (x % 2) (Int.tmod_eq_emod_of_nonneg (by omega)), .k 90 (vi (y)), .k 91 (vi (x)), .a 92, .a 93, .a 12, .n] (fun ix σ β X => match ix with | 0 => True | 1 => True | 2 => True | 3 => True | 4 => True | 5 => True | 6 => True | 7 => True | 8 => True | 9 => True | 10 => True | 11 => σ 92 = .slice (sA (β 92)) 6 6 ∧ X 7 = eO 3 1 (.slice (sA (β 92)) 6 6) 6 ([vi (x), vi (y), vi (V.getD ((3 * i + 2 : Nat)) 0), vi (x % 2), vi (y), vi (x)]) | 12 => σ 93 = .agg #[vi ((vminF (mdL x y z))), vi ((vmaxF (mdL x y z))), vi ((vpgF (mdL x y z))), vi ((vslF (mdL x y z))), .bool (vhotF (mdL x y z)), .slice (sA (tg (β 93) 5)) ((vrowF (mdL x y z)).length) (sC (tg (β 93) 5))] ∧ X 8 = eO 82 3 (.slice (sA (tg (β 93) 5)) ((vrowF (mdL x y z)).length) (sC (tg (β 93) 5))) ((vrowF (mdL x y z)).length) (flatR (vrowF (mdL x y z))) | 13 => σ 12 = vp (pb (β 12)) ∧ X 9 = eB (pb (β 12)) 41 #[vi 0, vi 0, vi 0, vi 0, .bool false, .slice none 0 0] | 14 => X 10 = eB (pb (β 12)) 41 #[vi ((vminF (mdL x y z))), vi ((vmaxF (mdL x y z))), vi ((vpgF (mdL x y z))), vi ((vslF (mdL x y z))), .bool (vhotF (mdL x y z)), .slice (sA (tg (β 93) 5)) ((vrowF (mdL x y z)).length) (sC (tg (β 93) 5))] | _ => True) [0, 1, 2, 3, 4, 5, 6, 7, 8, 10] [5, 6, 11, 12, 13, 14] [(12, 13, 1, 13), (68, 0, 13, 81)] hst45 ?_ ?_ ?_
      · exact fun ix _ _ _ _ _ _ hs hb hx h => match ix, h with
        | 11, h => by dsimp only at h ⊢; rw [← hs 92 rfl, ← hb 92 rfl, ← hx 7 rfl]; exact h
        | 12, h => by dsimp only at h ⊢; rw [← hs 93 rfl, ← hb 93 rfl, ← hx 8 rfl]; exact h
        | 13, h => by dsimp only at h ⊢; rw [← hs 12 rfl, ← hb 12 rfl, ← hx 9 rfl]; exact h
        | 14, h => by dsimp only at h ⊢; rw [← hb 12 rfl, ← hb 93 rfl, ← hx 10 rfl]; exact h
        | 0, _ | 1, _ | 2, _ | 3, _ | 4, _ | 5, _ | 6, _ | 7, _ | 8, _ | 9, _ | 10, _ | _ + 15, _ => trivial
      · refine ⟨?_, ?_, ?_, ?_, ?_, ?_, trivial⟩
        · exact xs4 rfl id fun cx => run_indexArrB (n := 40) (sz := 1) (m := ((3 * i + 2 : Nat))) (q := ((3 * i + 2 : Nat))) rfl (by kernel_rfl) (cx.ou 6) (cx.an 4) (by omega) (by omega) (by omega)
        · exact xs4 rfl id fun cx => run_load1 rfl (by kernel_rfl) (cx.an 5) (((cx.bi 4 rfl).cell ((3 * i + 2 : Nat))).trans ((List.getElem?_toArray ..).trans (getD_int (by omega))))
        · refine sv_any rfl rfl fun ρ β W X cx => ?_
          have fF81 : ρ (.tmp 81) = vi (x) := (cx.an 0)
          have fF82 : ρ (.tmp 82) = vi (y) := (cx.an 1)
          have fF87 : ρ (.tmp 87) = vi (V.getD ((3 * i + 2 : Nat)) 0) := (cx.an 6)
          have fF89 : ρ (.tmp 89) = vi (x % 2) := (cx.an 8)
          have fF90 : ρ (.tmp 90) = vi (y) := (cx.an 9)
          have fF91 : ρ (.tmp 91) = vi (x) := (cx.an 10)
          exact dv_lit (e := 3) (xs := [vi (x), vi (y), vi (V.getD ((3 * i + 2 : Nat)) 0), vi (x % 2), vi (y), vi (x)]) rfl (by simp [go_sem, fF81, fF82, fF87, fF89, fF90, fF91]) rfl (by decide) rfl rfl (fun σ β' X' hs hb hv hx => ⟨hv, hx⟩)
        · refine sv_any rfl rfl fun ρ β W X cx => ?_
          have hR_ := (dTn (cx.an 11)).2
          have hR2_ := At.of_own (cx.row hR_ rfl)
          refine DoesU.call (run_callF (args := #[.slice (sA (β 92)) 6 6]) rfl cx.sees rfl (by kernel_rfl) (map1 (dTn (cx.an 11)).1)) ?_
          refine (made08_any _ _ (mdL x y z) _ (At.eqv hR2_ (by rw [← hN_z]; rfl)) (by show 6 ≤ 9223372036854775807; decide)).mono ?_
          rintro e W1 ⟨A4, c4, rfl, ho, hx⟩
          refine ⟨_, rfl, post_call [eO 82 3 (.slice A4 ((vrowF (mdL x y z)).length) c4) ((vrowF (mdL x y z)).length) (flatR (vrowF (mdL x y z)))] rfl rfl hx (one_new (eO_new ho)) (List.pairwise_singleton _ _) (fun σ β' X' hs hb hv hN => ?_)⟩
          have hv1 := (hv 93 rfl).1; have hv2 := (hv 93 rfl).2
          exact ⟨hv1.trans (by rw [hv2]; rfl), (by rw [hv2]; exact (List.cons.inj hN).1)⟩
        · refine sv_any rfl rfl fun ρ β W X cx => ?_
          exact dv_alloc (cs := #[vi 0, vi 0, vi 0, vi 0, .bool false, .slice none 0 0]) rfl (by kernel_rfl) rfl rfl (fun σ β' X' hs hb hv hx => ⟨hv, hx⟩)
        · refine sv_any rfl rfl fun ρ β W X cx => ?_
          exact dv_store (n := 6) rfl (dTn (cx.an 13)).1 (dTn (cx.an 12)).1 (by kernel_rfl) (by kernel_rfl) (by kernel_rfl) cx (dTn (cx.an 13)).2 rfl (nle rfl) (by kernel_rfl) rfl rfl rfl (fun σ β' X' hs hb hx => by rw [hb 12, hb 93]; exact hx)
      intro σ β X W46 hD hst46 fr hfr
      obtain ⟨A92_46, hu_A92_46⟩ : ∃ z, sA (β 92) = z := ⟨_, rfl⟩
      obtain ⟨A93_46, hu_A93_46⟩ : ∃ z, sA (tg (β 93) 5) = z := ⟨_, rfl⟩
      obtain ⟨c93_46, hu_c93_46⟩ : ∃ z, sC (tg (β 93) 5) = z := ⟨_, rfl⟩
      obtain ⟨B12_46, hu_B12_46⟩ : ∃ z, pb (β 12) = z := ⟨_, rfl⟩
      simp only [exq 7 ((dTn (hD 11 lq)).2), exq 8 ((dTn (hD 12 lq)).2), exq 10 ((dTn (hD 14 lq))), hu_A92_46, hu_A93_46, hu_c93_46, hu_B12_46] at hst46
      simp only [ed 92 ((dTn (hD 11 lq)).1), ed 93 ((dTn (hD 12 lq)).1), ed 12 ((dTn (hD 13 lq)).1), hu_A92_46, hu_A93_46, hu_c93_46, hu_B12_46] at hfr
      clear hD hu_A92_46 hu_A93_46 hu_c93_46 hu_B12_46; subst hfr; clear σ β X
      refine then_normal (wp_seq (wp_region_Y [0, 1, 3, 7, 15] [[], [], [], [], [9]] [[], [], [], [], [10]] [[], [], [], [], [9]] [.k 94 (vi (x)), tRe 95 .i64 x 59 (x % 59) (Int.tmod_eq_emod_of_nonneg (by omega)), tI 96 (2 + (x % 59)) (by omega), .k 97 (vp B12_46), .n] (fun ix σ β X => match ix with | 0 => True | 1 => True | 2 => True | 3 => True | 4 => X 10 = eB B12_46 41 #[vi (2 + (x % 59)), vi ((vmaxF (mdL x y z))), vi ((vpgF (mdL x y z))), vi ((vslF (mdL x y z))), .bool (vhotF (mdL x y z)), .slice A93_46 ((vrowF (mdL x y z)).length) c93_46] | _ => True) [0, 1, 2, 3, 4, 5, 6, 7, 8, 10] [4] [(94, 0, 4, 98)] hst46 ?_ ?_ ?_))
      · exact fun ix _ _ _ _ _ _ hs hb hx h => match ix, h with
        | 4, h => by dsimp only at h ⊢; rw [← hx 10 rfl]; exact h
        | 0, _ | 1, _ | 2, _ | 3, _ | _ + 5, _ => trivial
      · refine ⟨?_, trivial⟩
        · refine sv_any rfl rfl fun ρ β W X cx => ?_
          exact dv_store (n := 1) rfl (cx.an 3) (cx.an 2) (by kernel_rfl) (by kernel_rfl) (by kernel_rfl) cx (cx.init 9 _ rfl) rfl (nle rfl) (by kernel_rfl) rfl rfl rfl (fun σ β' X' hs hb hx => hx)
      intro σ β X W47 hD hst47 fr hfr
      simp only [exq 10 ((dTn (hD 4 lq)))] at hst47
      clear hD; subst hfr; clear σ β X
      refine then_normal ?_
      refine wp_cut (fun az W => ∃ b9 : Int, ∃ u48_ : List Value, b9 = (itV n x y z).2.1 ∧ az = ⟨#[.slice LA s.length lc, undef, vp B2_1, vp B3_2, vi (((40 * n + (40 : Nat) : Nat) : Int)), vi ((n : Int)), vp B6_11, vi (((40 : Nat) : Int)), vp B8_26, vi ((i : Int)), vi (x), vi (y), vp B12_46, (gu u40_ 3), (gu u40_ 4), .agg #[.slice none 0 0], vi ((n : Int)), .bool (decide ((n : Int) < 5)), (gu u7_ 11), (gu u7_ 12), .agg #[vi 0, vi 0, vi 0, vi 0, vi 0, vi 0, vi 0, vi 0, vi 0, vi 0, vi 0, vi 0, vi 0, vi 0, vi 0, vi 0, vi 0, vi 0, vi 0, vi 0, vi 0, vi 0, vi 0, vi 0, vi 0, vi 0, vi 0, vi 0, vi 0, vi 0, vi 0, vi 0, vi 0, vi 0, vi 0, vi 0, vi 0, vi 0, vi 0, vi 0], vi (((40 : Nat) : Int)), .bool (decide (((40 : Nat) : Int) < 40)), (gu u13_ 2), (gu u13_ 3), (gu u13_ 4), (gu u13_ 5), (gu u13_ 6), (gu u13_ 7), (gu u13_ 8), (gu u13_ 9), (gu u13_ 10), (gu u13_ 11), (gu u13_ 12), (gu u13_ 13), (gu u13_ 14), (gu u13_ 15), (gu u13_ 16), vp B6_11, vi (V.getD 0 0), .pointer (some ⟨B6_11, 1, none⟩), vi (V.getD 1 0), vi ((V.getD 1 0) % 2), vi (1 + ((V.getD 1 0) % 2)), .string (putS (1 + ((V.getD 1 0) % 2)) 2), .slice A45_26 1 1, .agg #[vi 1, vi (V.getD 0 0), .slice A45_26 1 1], (gu u27_ 0), (gu u27_ 1), (gu u27_ 2), (gu u27_ 3), (gu u27_ 4), (gu u27_ 5), (gu u27_ 6), (gu u27_ 7), (gu u33_ 0), (gu u33_ 1), (gu u33_ 2), (gu u33_ 3), (gu u33_ 4), (gu u33_ 5), (gu u33_ 6), vi ((i : Int)), .bool (decide ((i : Int) < 12)), .bool (decide ((i : Int) < 12)), mb (decide ((i : Int) < 12)) (vi ((i : Int))), mb (decide ((i : Int) < 12)) (vi (((3 * i : Nat) : Int))), mb (decide ((i : Int) < 12)) (vi (((3 * i + 2 : Nat) : Int))), mb (decide ((i : Int) < 12)) (.bool (decide (((3 * i + 2 : Nat) : Int) < 40))), .bool ((decide ((i : Int) < 12)) && (decide (((3 * i + 2 : Nat) : Int) < 40))), (gu u40_ 13), (gu u40_ 14), vi ((i : Int)), vi (((3 * i : Nat) : Int)), .pointer (some ⟨B6_11, ((3 * i : Nat)), none⟩), vi (x), vi ((i : Int)), vi (((3 * i : Nat) : Int)), vi (((3 * i + 1 : Nat) : Int)), .pointer (some ⟨B6_11, ((3 * i + 1 : Nat)), none⟩), vi (y), vi (x), vi (y), vi ((i : Int)), vi (((3 * i : Nat) : Int)), vi (((3 * i + 2 : Nat) : Int)), .pointer (some ⟨B6_11, ((3 * i + 2 : Nat)), none⟩), vi (V.getD ((3 * i + 2 : Nat)) 0), vi (x), vi (x % 2), vi (y), vi (x), .slice A92_46 6 6, .agg #[vi ((vminF (mdL x y z))), vi ((vmaxF (mdL x y z))), vi ((vpgF (mdL x y z))), vi ((vslF (mdL x y z))), .bool (vhotF (mdL x y z)), .slice A93_46 ((vrowF (mdL x y z)).length) c93_46], vi (x), vi (x % 59), vi (2 + (x % 59)), vp B12_46, (gu u48_ 0), (gu u48_ 1), (gu u48_ 2), (gu u48_ 3), (gu u48_ 4), (gu u48_ 5), (gu u48_ 6), (gu u40_ 48), (gu u40_ 49), (gu u40_ 50), (gu u40_ 51), (gu u40_ 52), (gu u40_ 53), (gu u40_ 54), (gu u40_ 55), (gu u40_ 56), (gu u40_ 57), (gu u40_ 58), (gu u40_ 59), (gu u40_ 60), (gu u40_ 61), (gu u40_ 62), (gu u40_ 63), (gu u40_ 64), (gu u40_ 65), (gu u40_ 66), (gu u40_ 67), (gu u40_ 68), (gu u40_ 69), (gu u40_ 70), (gu u40_ 71), (gu u40_ 72), (gu u40_ 73), (gu u40_ 74), (gu u40_ 75), (gu u40_ 76), (gu u40_ 77), (gu u40_ 78), (gu u40_ 79), (gu u7_ 130), (gu u7_ 131), (gu u7_ 132), (gu u7_ 133), (gu u7_ 134), (gu u7_ 135), undef], []⟩ ∧ St w [] [eB B2_1 30 #[.slice none 0 0], eB B3_2 30 #[.slice PA n PC], eO 86 3 (.slice PA n PC) n (Ps.flatMap pgC), ePs Ps, eB B6_11 128 (V.map (Value.int .i64)).toArray, eO 9 1 (.slice IA ((mdSs V n i).length) IC) ((mdSs V n i).length) ((mdSs V n i).map Value.string), eB B8_26 86 #[vi (mdK V), vi (V.getD 0 0), .slice IA ((mdSs V n i).length) IC], eO 3 1 (.slice A92_46 6 6) 6 ([vi (x), vi (y), vi (V.getD ((3 * i + 2 : Nat)) 0), vi (x % 2), vi (y), vi (x)]), eO 82 3 (.slice A93_46 ((vrowF (mdL x y z)).length) c93_46) ((vrowF (mdL x y z)).length) (flatR (vrowF (mdL x y z))), eB B12_46 41 #[vi (2 + (x % 59)), vi b9, vi ((vpgF (mdL x y z))), vi ((vslF (mdL x y z))), .bool (vhotF (mdL x y z)), .slice A93_46 ((vrowF (mdL x y z)).length) c93_46]] W) ?_ ?_
      · skip
        refine wp_seq (wp_region_Z [0, 1, 3] [[], [9]] [.k 98 (.pointer (some ⟨B12_46, 1, none⟩)), .c 99 (vi ((vmaxF (mdL x y z)))), .k 100 (.bool (decide (0 < (vmaxF (mdL x y z)))))] [0, 1, 2, 3, 4, 5, 6, 7, 8, 9] [1] [(98, 0, 3, 101)] hst47 ?_ fun W49 hst49 => ?_)
        · refine ⟨?_, trivial⟩
          · exact xs4 rfl id fun cx => run_load1 rfl (by kernel_rfl) (cx.an 0) ((cx.bi 9 rfl).cell 1)
        refine then_normal ?_
        rcases Bool.eq_false_or_eq_true (decide (0 < (vmaxF (mdL x y z)))) with hs50 | hs50
        · skip
          have hs50p : 0 < (vmaxF (mdL x y z)) := by simpa using hs50
          refine wp_cond_true (show Act.eval _ _ = .bool true from (congrArg Value.bool hs50)) (wp_region_Y [0, 1, 3, 7, 15] [[], [], [], [], [9]] [[], [], [], [], [10]] [[], [], [], [], [9]] [.k 101 (vi (y)), tRe 102 .i64 y 58 (y % 58) (Int.tmod_eq_emod_of_nonneg (by omega)), tI 103 (3 + (y % 58)) (by omega), .k 104 (.pointer (some ⟨B12_46, 1, none⟩)), .n] (fun ix σ β X => match ix with | 0 => True | 1 => True | 2 => True | 3 => True | 4 => X 10 = eB B12_46 41 #[vi (2 + (x % 59)), vi (3 + (y % 58)), vi ((vpgF (mdL x y z))), vi ((vslF (mdL x y z))), .bool (vhotF (mdL x y z)), .slice A93_46 ((vrowF (mdL x y z)).length) c93_46] | _ => True) [0, 1, 2, 3, 4, 5, 6, 7, 8, 10] [4] [(101, 0, 4, 105)] hst49 ?_ ?_ ?_)
          · exact fun ix _ _ _ _ _ _ hs hb hx h => match ix, h with
            | 4, h => by dsimp only at h ⊢; rw [← hx 10 rfl]; exact h
            | 0, _ | 1, _ | 2, _ | 3, _ | _ + 5, _ => trivial
          · refine ⟨?_, trivial⟩
            · refine sv_any rfl rfl fun ρ β W X cx => ?_
              exact dv_store (n := 1) rfl (cx.an 3) (cx.an 2) (by kernel_rfl) (by kernel_rfl) (by kernel_rfl) cx (cx.init 9 _ rfl) rfl (nle rfl) (by kernel_rfl) rfl rfl rfl (fun σ β' X' hs hb hx => hx)
          intro σ β X W51 hD hst51 fr hfr
          simp only [exq 10 ((dTn (hD 4 lq)))] at hst51
          clear hD; subst hfr; clear σ β X
          refine then_normal ?_
          have hp52 := hst51.pick [0, 1, 2, 3, 4, 5, 6, 7, 8, 9] (by decide) rfl
          exact ⟨3 + (y % 58), [.pointer (some ⟨B12_46, 1, none⟩), vi ((vmaxF (mdL x y z))), .bool (decide (0 < (vmaxF (mdL x y z)))), vi (y), vi (y % 58), vi (3 + (y % 58)), .pointer (some ⟨B12_46, 1, none⟩)], by rw [itV]; dsimp only; split <;> first | rfl | (exfalso; omega), rfl, hp52⟩
        have hs50p : ¬ (0 < (vmaxF (mdL x y z))) := by simpa using hs50
        refine wp_cond_false (show Act.eval _ _ = .bool false from (congrArg Value.bool hs50)) (wp_skip (then_normal ?_))
        have hp53 := hst49.pick [0, 1, 2, 3, 4, 5, 6, 7, 8, 9] (by decide) rfl
        exact ⟨(vmaxF (mdL x y z)), [.pointer (some ⟨B12_46, 1, none⟩), vi ((vmaxF (mdL x y z))), .bool (decide (0 < (vmaxF (mdL x y z)))), (gu u40_ 44), (gu u40_ 45), (gu u40_ 46), (gu u40_ 47)], by rw [itV]; dsimp only; split <;> first | rfl | (exfalso; omega), rfl, hp53⟩
      rintro a48 W48 ⟨b9, u48_, hb9, rfl, hst48⟩
      subst hb9
      refine wp_cut (fun az W => ∃ n19 : Int, ∃ n29 : Int, ∃ u54_ : List Value, n19 = (itV n x y z).2.2.1 ∧ n29 = (itV n x y z).2.2.2.1 ∧ az = ⟨#[.slice LA s.length lc, undef, vp B2_1, vp B3_2, vi (((40 * n + (40 : Nat) : Nat) : Int)), vi ((n : Int)), vp B6_11, vi (((40 : Nat) : Int)), vp B8_26, vi ((i : Int)), vi (x), vi (y), vp B12_46, (gu u40_ 3), (gu u40_ 4), .agg #[.slice none 0 0], vi ((n : Int)), .bool (decide ((n : Int) < 5)), (gu u7_ 11), (gu u7_ 12), .agg #[vi 0, vi 0, vi 0, vi 0, vi 0, vi 0, vi 0, vi 0, vi 0, vi 0, vi 0, vi 0, vi 0, vi 0, vi 0, vi 0, vi 0, vi 0, vi 0, vi 0, vi 0, vi 0, vi 0, vi 0, vi 0, vi 0, vi 0, vi 0, vi 0, vi 0, vi 0, vi 0, vi 0, vi 0, vi 0, vi 0, vi 0, vi 0, vi 0, vi 0], vi (((40 : Nat) : Int)), .bool (decide (((40 : Nat) : Int) < 40)), (gu u13_ 2), (gu u13_ 3), (gu u13_ 4), (gu u13_ 5), (gu u13_ 6), (gu u13_ 7), (gu u13_ 8), (gu u13_ 9), (gu u13_ 10), (gu u13_ 11), (gu u13_ 12), (gu u13_ 13), (gu u13_ 14), (gu u13_ 15), (gu u13_ 16), vp B6_11, vi (V.getD 0 0), .pointer (some ⟨B6_11, 1, none⟩), vi (V.getD 1 0), vi ((V.getD 1 0) % 2), vi (1 + ((V.getD 1 0) % 2)), .string (putS (1 + ((V.getD 1 0) % 2)) 2), .slice A45_26 1 1, .agg #[vi 1, vi (V.getD 0 0), .slice A45_26 1 1], (gu u27_ 0), (gu u27_ 1), (gu u27_ 2), (gu u27_ 3), (gu u27_ 4), (gu u27_ 5), (gu u27_ 6), (gu u27_ 7), (gu u33_ 0), (gu u33_ 1), (gu u33_ 2), (gu u33_ 3), (gu u33_ 4), (gu u33_ 5), (gu u33_ 6), vi ((i : Int)), .bool (decide ((i : Int) < 12)), .bool (decide ((i : Int) < 12)), mb (decide ((i : Int) < 12)) (vi ((i : Int))), mb (decide ((i : Int) < 12)) (vi (((3 * i : Nat) : Int))), mb (decide ((i : Int) < 12)) (vi (((3 * i + 2 : Nat) : Int))), mb (decide ((i : Int) < 12)) (.bool (decide (((3 * i + 2 : Nat) : Int) < 40))), .bool ((decide ((i : Int) < 12)) && (decide (((3 * i + 2 : Nat) : Int) < 40))), (gu u40_ 13), (gu u40_ 14), vi ((i : Int)), vi (((3 * i : Nat) : Int)), .pointer (some ⟨B6_11, ((3 * i : Nat)), none⟩), vi (x), vi ((i : Int)), vi (((3 * i : Nat) : Int)), vi (((3 * i + 1 : Nat) : Int)), .pointer (some ⟨B6_11, ((3 * i + 1 : Nat)), none⟩), vi (y), vi (x), vi (y), vi ((i : Int)), vi (((3 * i : Nat) : Int)), vi (((3 * i + 2 : Nat) : Int)), .pointer (some ⟨B6_11, ((3 * i + 2 : Nat)), none⟩), vi (V.getD ((3 * i + 2 : Nat)) 0), vi (x), vi (x % 2), vi (y), vi (x), .slice A92_46 6 6, .agg #[vi ((vminF (mdL x y z))), vi ((vmaxF (mdL x y z))), vi ((vpgF (mdL x y z))), vi ((vslF (mdL x y z))), .bool (vhotF (mdL x y z)), .slice A93_46 ((vrowF (mdL x y z)).length) c93_46], vi (x), vi (x % 59), vi (2 + (x % 59)), vp B12_46, (gu u48_ 0), (gu u48_ 1), (gu u48_ 2), (gu u48_ 3), (gu u48_ 4), (gu u48_ 5), (gu u48_ 6), (gu u54_ 0), (gu u54_ 1), (gu u54_ 2), (gu u54_ 3), (gu u54_ 4), (gu u54_ 5), (gu u54_ 6), (gu u54_ 7), (gu u54_ 8), (gu u40_ 57), (gu u40_ 58), (gu u40_ 59), (gu u40_ 60), (gu u40_ 61), (gu u40_ 62), (gu u40_ 63), (gu u40_ 64), (gu u40_ 65), (gu u40_ 66), (gu u40_ 67), (gu u40_ 68), (gu u40_ 69), (gu u40_ 70), (gu u40_ 71), (gu u40_ 72), (gu u40_ 73), (gu u40_ 74), (gu u40_ 75), (gu u40_ 76), (gu u40_ 77), (gu u40_ 78), (gu u40_ 79), (gu u7_ 130), (gu u7_ 131), (gu u7_ 132), (gu u7_ 133), (gu u7_ 134), (gu u7_ 135), undef], []⟩ ∧ St w [] [eB B2_1 30 #[.slice none 0 0], eB B3_2 30 #[.slice PA n PC], eO 86 3 (.slice PA n PC) n (Ps.flatMap pgC), ePs Ps, eB B6_11 128 (V.map (Value.int .i64)).toArray, eO 9 1 (.slice IA ((mdSs V n i).length) IC) ((mdSs V n i).length) ((mdSs V n i).map Value.string), eB B8_26 86 #[vi (mdK V), vi (V.getD 0 0), .slice IA ((mdSs V n i).length) IC], eO 3 1 (.slice A92_46 6 6) 6 ([vi (x), vi (y), vi (V.getD ((3 * i + 2 : Nat)) 0), vi (x % 2), vi (y), vi (x)]), eO 82 3 (.slice A93_46 ((vrowF (mdL x y z)).length) c93_46) ((vrowF (mdL x y z)).length) (flatR (vrowF (mdL x y z))), eB B12_46 41 #[vi (2 + (x % 59)), vi (itV n x y z).2.1, vi n19, vi n29, .bool (vhotF (mdL x y z)), .slice A93_46 ((vrowF (mdL x y z)).length) c93_46]] W) ?_ ?_
      · skip
        refine wp_seq (wp_region_P [0, 1, 3] [.k 105 (vi (y)), tRe 106 .i64 y 3 (y % 3) (Int.tmod_eq_emod_of_nonneg (by omega)), .k 107 (.bool (decide (0 < y % 3)))] [(105, 0, 3, 108)] hst48 fun W55 hst55 => ?_)
        refine then_normal ?_
        rcases Bool.eq_false_or_eq_true (decide (0 < y % 3)) with hs56 | hs56
        · skip
          have hs56p : 0 < y % 3 := by simpa using hs56
          refine wp_cond_true (show Act.eval _ _ = .bool true from (congrArg Value.bool hs56)) (wp_region_Y [0, 0, 2, 6, 15, 31, 63] [[], [], [], [], [], [], [9]] [[], [], [], [], [], [], [10]] [[], [], [], [], [], [], [9]] [.k 108 (vi ((n : Int))), .k 109 (vi (x)), tRe 110 .i64 x 12 (x % 12) (Int.tmod_eq_emod_of_nonneg (by omega)), tI 111 (1 + (x % 12)) (by omega), .k 112 (.agg #[vi ((n : Int)), vi (1 + (x % 12))]), .k 113 (.pointer (some ⟨B12_46, 2, none⟩)), .n] (fun ix σ β X => match ix with | 0 => True | 1 => True | 2 => True | 3 => True | 4 => True | 5 => True | 6 => X 10 = eB B12_46 41 #[vi (2 + (x % 59)), vi (itV n x y z).2.1, vi ((n : Int)), vi (1 + (x % 12)), .bool (vhotF (mdL x y z)), .slice A93_46 ((vrowF (mdL x y z)).length) c93_46] | _ => True) [0, 1, 2, 3, 4, 5, 6, 7, 8, 10] [6] [(108, 0, 6, 114)] hst55 ?_ ?_ ?_)
          · exact fun ix _ _ _ _ _ _ hs hb hx h => match ix, h with
            | 6, h => by dsimp only at h ⊢; rw [← hx 10 rfl]; exact h
            | 0, _ | 1, _ | 2, _ | 3, _ | 4, _ | 5, _ | _ + 7, _ => trivial
          · refine ⟨?_, trivial⟩
            · refine sv_any rfl rfl fun ρ β W X cx => ?_
              exact dv_store (n := 2) rfl (cx.an 5) (cx.an 4) (by kernel_rfl) (by kernel_rfl) (by kernel_rfl) cx (cx.init 9 _ rfl) rfl (nle rfl) (by kernel_rfl) rfl rfl rfl (fun σ β' X' hs hb hx => hx)
          intro σ β X W57 hD hst57 fr hfr
          simp only [exq 10 ((dTn (hD 6 lq)))] at hst57
          clear hD; subst hfr; clear σ β X
          refine then_normal ?_
          have hp58 := hst57.pick [0, 1, 2, 3, 4, 5, 6, 7, 8, 9] (by decide) rfl
          exact ⟨(n : Int), 1 + (x % 12), [vi (y), vi (y % 3), .bool (decide (0 < y % 3)), vi ((n : Int)), vi (x), vi (x % 12), vi (1 + (x % 12)), .agg #[vi ((n : Int)), vi (1 + (x % 12))], .pointer (some ⟨B12_46, 2, none⟩)], by rw [itV]; dsimp only; split <;> first | rfl | (exfalso; omega), by rw [itV]; dsimp only; split <;> first | rfl | (exfalso; omega), rfl, hp58⟩
        have hs56p : ¬ (0 < y % 3) := by simpa using hs56
        refine wp_cond_false (show Act.eval _ _ = .bool false from (congrArg Value.bool hs56)) (wp_skip (then_normal ?_))
        have hp59 := hst55.pick [0, 1, 2, 3, 4, 5, 6, 7, 8, 9] (by decide) rfl
        exact ⟨(vpgF (mdL x y z)), (vslF (mdL x y z)), [vi (y), vi (y % 3), .bool (decide (0 < y % 3)), (gu u40_ 51), (gu u40_ 52), (gu u40_ 53), (gu u40_ 54), (gu u40_ 55), (gu u40_ 56)], by rw [itV]; dsimp only; split <;> first | rfl | (exfalso; omega), by rw [itV]; dsimp only; split <;> first | rfl | (exfalso; omega), rfl, hp59⟩
      rintro a54 W54 ⟨n19, n29, u54_, hn19, hn29, rfl, hst54⟩
      subst hn19
      subst hn29
      refine wp_seq (wp_region_Z [0, 1, 3] [[9], [8]] [.c 114 (.agg #[vi (2 + (x % 59)), vi (itV n x y z).2.1, vi (itV n x y z).2.2.1, vi (itV n x y z).2.2.2.1, .bool (vhotF (mdL x y z)), .slice A93_46 ((vrowF (mdL x y z)).length) c93_46]), .c 115 (.string ((txD (itV n x y z)))), .k 13 (.string ((txD (itV n x y z))))] [0, 1, 2, 3, 4, 5, 6, 7, 8, 9] [0, 1] [(13, 2, 1, 14), (100, 0, 2, 102)] hst54 ?_ fun W60 hst60 => ?_)
      · refine ⟨?_, ?_, trivial⟩
        · exact xs4 rfl id fun cx => run_loadB (n := 6) rfl (by kernel_rfl) (by kernel_rfl) (cx.ou 12) (cx.bi 9 rfl) (nle rfl) rfl
        · exact xsc rfl id rfl rfl fun cx => ⟨_, r08bytes_any _ _ _ _ _ _ _ (vrowF (mdL x y z)) _ (At.of_ownN (cx.ri 8 rfl)) (by rw [vrowF, madeR_len]; omega), (map1 (cx.an 0))⟩
      refine then_normal ?_
      refine wp_cut (fun az W => ∃ s13 : ByteArray, ∃ u61_ : List Value, s13 = it1 x (txD (itV n x y z)) ∧ az = ⟨#[.slice LA s.length lc, undef, vp B2_1, vp B3_2, vi (((40 * n + (40 : Nat) : Nat) : Int)), vi ((n : Int)), vp B6_11, vi (((40 : Nat) : Int)), vp B8_26, vi ((i : Int)), vi (x), vi (y), vp B12_46, .string s13, (gu u40_ 4), .agg #[.slice none 0 0], vi ((n : Int)), .bool (decide ((n : Int) < 5)), (gu u7_ 11), (gu u7_ 12), .agg #[vi 0, vi 0, vi 0, vi 0, vi 0, vi 0, vi 0, vi 0, vi 0, vi 0, vi 0, vi 0, vi 0, vi 0, vi 0, vi 0, vi 0, vi 0, vi 0, vi 0, vi 0, vi 0, vi 0, vi 0, vi 0, vi 0, vi 0, vi 0, vi 0, vi 0, vi 0, vi 0, vi 0, vi 0, vi 0, vi 0, vi 0, vi 0, vi 0, vi 0], vi (((40 : Nat) : Int)), .bool (decide (((40 : Nat) : Int) < 40)), (gu u13_ 2), (gu u13_ 3), (gu u13_ 4), (gu u13_ 5), (gu u13_ 6), (gu u13_ 7), (gu u13_ 8), (gu u13_ 9), (gu u13_ 10), (gu u13_ 11), (gu u13_ 12), (gu u13_ 13), (gu u13_ 14), (gu u13_ 15), (gu u13_ 16), vp B6_11, vi (V.getD 0 0), .pointer (some ⟨B6_11, 1, none⟩), vi (V.getD 1 0), vi ((V.getD 1 0) % 2), vi (1 + ((V.getD 1 0) % 2)), .string (putS (1 + ((V.getD 1 0) % 2)) 2), .slice A45_26 1 1, .agg #[vi 1, vi (V.getD 0 0), .slice A45_26 1 1], (gu u27_ 0), (gu u27_ 1), (gu u27_ 2), (gu u27_ 3), (gu u27_ 4), (gu u27_ 5), (gu u27_ 6), (gu u27_ 7), (gu u33_ 0), (gu u33_ 1), (gu u33_ 2), (gu u33_ 3), (gu u33_ 4), (gu u33_ 5), (gu u33_ 6), vi ((i : Int)), .bool (decide ((i : Int) < 12)), .bool (decide ((i : Int) < 12)), mb (decide ((i : Int) < 12)) (vi ((i : Int))), mb (decide ((i : Int) < 12)) (vi (((3 * i : Nat) : Int))), mb (decide ((i : Int) < 12)) (vi (((3 * i + 2 : Nat) : Int))), mb (decide ((i : Int) < 12)) (.bool (decide (((3 * i + 2 : Nat) : Int) < 40))), .bool ((decide ((i : Int) < 12)) && (decide (((3 * i + 2 : Nat) : Int) < 40))), (gu u40_ 13), (gu u40_ 14), vi ((i : Int)), vi (((3 * i : Nat) : Int)), .pointer (some ⟨B6_11, ((3 * i : Nat)), none⟩), vi (x), vi ((i : Int)), vi (((3 * i : Nat) : Int)), vi (((3 * i + 1 : Nat) : Int)), .pointer (some ⟨B6_11, ((3 * i + 1 : Nat)), none⟩), vi (y), vi (x), vi (y), vi ((i : Int)), vi (((3 * i : Nat) : Int)), vi (((3 * i + 2 : Nat) : Int)), .pointer (some ⟨B6_11, ((3 * i + 2 : Nat)), none⟩), vi (V.getD ((3 * i + 2 : Nat)) 0), vi (x), vi (x % 2), vi (y), vi (x), .slice A92_46 6 6, .agg #[vi ((vminF (mdL x y z))), vi ((vmaxF (mdL x y z))), vi ((vpgF (mdL x y z))), vi ((vslF (mdL x y z))), .bool (vhotF (mdL x y z)), .slice A93_46 ((vrowF (mdL x y z)).length) c93_46], vi (x), vi (x % 59), vi (2 + (x % 59)), vp B12_46, (gu u48_ 0), (gu u48_ 1), (gu u48_ 2), (gu u48_ 3), (gu u48_ 4), (gu u48_ 5), (gu u48_ 6), (gu u54_ 0), (gu u54_ 1), (gu u54_ 2), (gu u54_ 3), (gu u54_ 4), (gu u54_ 5), (gu u54_ 6), (gu u54_ 7), (gu u54_ 8), .agg #[vi (2 + (x % 59)), vi (itV n x y z).2.1, vi (itV n x y z).2.2.1, vi (itV n x y z).2.2.2.1, .bool (vhotF (mdL x y z)), .slice A93_46 ((vrowF (mdL x y z)).length) c93_46], .string ((txD (itV n x y z))), (gu u61_ 0), (gu u61_ 1), (gu u61_ 2), (gu u40_ 62), (gu u40_ 63), (gu u40_ 64), (gu u40_ 65), (gu u40_ 66), (gu u40_ 67), (gu u40_ 68), (gu u40_ 69), (gu u40_ 70), (gu u40_ 71), (gu u40_ 72), (gu u40_ 73), (gu u40_ 74), (gu u40_ 75), (gu u40_ 76), (gu u40_ 77), (gu u40_ 78), (gu u40_ 79), (gu u7_ 130), (gu u7_ 131), (gu u7_ 132), (gu u7_ 133), (gu u7_ 134), (gu u7_ 135), undef], []⟩ ∧ St w [] [eB B2_1 30 #[.slice none 0 0], eB B3_2 30 #[.slice PA n PC], eO 86 3 (.slice PA n PC) n (Ps.flatMap pgC), ePs Ps, eB B6_11 128 (V.map (Value.int .i64)).toArray, eO 9 1 (.slice IA ((mdSs V n i).length) IC) ((mdSs V n i).length) ((mdSs V n i).map Value.string), eB B8_26 86 #[vi (mdK V), vi (V.getD 0 0), .slice IA ((mdSs V n i).length) IC]] W) ?_ ?_
      · skip
        refine wp_seq (wp_region_P [0, 1, 3] [.k 116 (vi (x)), tRe 117 .i64 x 13 (x % 13) (Int.tmod_eq_emod_of_nonneg (by omega)), .k 118 (.bool ((x % 13) == 3))] [(116, 0, 3, 119)] hst60 fun W62 hst62 => ?_)
        refine then_normal ?_
        rcases Bool.eq_false_or_eq_true ((x % 13) == 3) with hs63 | hs63
        · skip
          have hs63p : (x % 13) = 3 := by simpa using hs63
          refine wp_cond_true (show Act.eval _ _ = .bool true from (congrArg Value.bool hs63)) (wp_region_P [0] [.k 13 (.string ⟨#[]⟩)] [(13, 0, 1, 14)] hst62 fun W64 hst64 => ?_)
          refine then_normal ?_
          have hp65 := hst64.pick [0, 1, 2, 3, 4, 5, 6] (by decide) rfl
          exact ⟨(⟨#[]⟩ : ByteArray), [vi (x), vi (x % 13), .bool ((x % 13) == 3)], by rw [it1]; split <;> first | rfl | (exfalso; omega), rfl, hp65⟩
        have hs63p : (x % 13) ≠ 3 := by simpa using hs63
        refine wp_cond_false (show Act.eval _ _ = .bool false from (congrArg Value.bool hs63)) (wp_skip (then_normal ?_))
        have hp66 := hst62.pick [0, 1, 2, 3, 4, 5, 6] (by decide) rfl
        exact ⟨(txD (itV n x y z)), [vi (x), vi (x % 13), .bool ((x % 13) == 3)], by rw [it1]; split <;> first | rfl | (exfalso; omega), rfl, hp66⟩
      rintro a61 W61 ⟨s13, u61_, hs13, rfl, hst61⟩
      subst hs13
      refine wp_cut (fun az W => ∃ s13 : ByteArray, ∃ u67_ : List Value, s13 = it2 x (it1 x (txD (itV n x y z))) ∧ az = ⟨#[.slice LA s.length lc, undef, vp B2_1, vp B3_2, vi (((40 * n + (40 : Nat) : Nat) : Int)), vi ((n : Int)), vp B6_11, vi (((40 : Nat) : Int)), vp B8_26, vi ((i : Int)), vi (x), vi (y), vp B12_46, .string s13, (gu u40_ 4), .agg #[.slice none 0 0], vi ((n : Int)), .bool (decide ((n : Int) < 5)), (gu u7_ 11), (gu u7_ 12), .agg #[vi 0, vi 0, vi 0, vi 0, vi 0, vi 0, vi 0, vi 0, vi 0, vi 0, vi 0, vi 0, vi 0, vi 0, vi 0, vi 0, vi 0, vi 0, vi 0, vi 0, vi 0, vi 0, vi 0, vi 0, vi 0, vi 0, vi 0, vi 0, vi 0, vi 0, vi 0, vi 0, vi 0, vi 0, vi 0, vi 0, vi 0, vi 0, vi 0, vi 0], vi (((40 : Nat) : Int)), .bool (decide (((40 : Nat) : Int) < 40)), (gu u13_ 2), (gu u13_ 3), (gu u13_ 4), (gu u13_ 5), (gu u13_ 6), (gu u13_ 7), (gu u13_ 8), (gu u13_ 9), (gu u13_ 10), (gu u13_ 11), (gu u13_ 12), (gu u13_ 13), (gu u13_ 14), (gu u13_ 15), (gu u13_ 16), vp B6_11, vi (V.getD 0 0), .pointer (some ⟨B6_11, 1, none⟩), vi (V.getD 1 0), vi ((V.getD 1 0) % 2), vi (1 + ((V.getD 1 0) % 2)), .string (putS (1 + ((V.getD 1 0) % 2)) 2), .slice A45_26 1 1, .agg #[vi 1, vi (V.getD 0 0), .slice A45_26 1 1], (gu u27_ 0), (gu u27_ 1), (gu u27_ 2), (gu u27_ 3), (gu u27_ 4), (gu u27_ 5), (gu u27_ 6), (gu u27_ 7), (gu u33_ 0), (gu u33_ 1), (gu u33_ 2), (gu u33_ 3), (gu u33_ 4), (gu u33_ 5), (gu u33_ 6), vi ((i : Int)), .bool (decide ((i : Int) < 12)), .bool (decide ((i : Int) < 12)), mb (decide ((i : Int) < 12)) (vi ((i : Int))), mb (decide ((i : Int) < 12)) (vi (((3 * i : Nat) : Int))), mb (decide ((i : Int) < 12)) (vi (((3 * i + 2 : Nat) : Int))), mb (decide ((i : Int) < 12)) (.bool (decide (((3 * i + 2 : Nat) : Int) < 40))), .bool ((decide ((i : Int) < 12)) && (decide (((3 * i + 2 : Nat) : Int) < 40))), (gu u40_ 13), (gu u40_ 14), vi ((i : Int)), vi (((3 * i : Nat) : Int)), .pointer (some ⟨B6_11, ((3 * i : Nat)), none⟩), vi (x), vi ((i : Int)), vi (((3 * i : Nat) : Int)), vi (((3 * i + 1 : Nat) : Int)), .pointer (some ⟨B6_11, ((3 * i + 1 : Nat)), none⟩), vi (y), vi (x), vi (y), vi ((i : Int)), vi (((3 * i : Nat) : Int)), vi (((3 * i + 2 : Nat) : Int)), .pointer (some ⟨B6_11, ((3 * i + 2 : Nat)), none⟩), vi (V.getD ((3 * i + 2 : Nat)) 0), vi (x), vi (x % 2), vi (y), vi (x), .slice A92_46 6 6, .agg #[vi ((vminF (mdL x y z))), vi ((vmaxF (mdL x y z))), vi ((vpgF (mdL x y z))), vi ((vslF (mdL x y z))), .bool (vhotF (mdL x y z)), .slice A93_46 ((vrowF (mdL x y z)).length) c93_46], vi (x), vi (x % 59), vi (2 + (x % 59)), vp B12_46, (gu u48_ 0), (gu u48_ 1), (gu u48_ 2), (gu u48_ 3), (gu u48_ 4), (gu u48_ 5), (gu u48_ 6), (gu u54_ 0), (gu u54_ 1), (gu u54_ 2), (gu u54_ 3), (gu u54_ 4), (gu u54_ 5), (gu u54_ 6), (gu u54_ 7), (gu u54_ 8), .agg #[vi (2 + (x % 59)), vi (itV n x y z).2.1, vi (itV n x y z).2.2.1, vi (itV n x y z).2.2.2.1, .bool (vhotF (mdL x y z)), .slice A93_46 ((vrowF (mdL x y z)).length) c93_46], .string ((txD (itV n x y z))), (gu u61_ 0), (gu u61_ 1), (gu u61_ 2), (gu u67_ 0), (gu u67_ 1), (gu u67_ 2), (gu u40_ 65), (gu u40_ 66), (gu u40_ 67), (gu u40_ 68), (gu u40_ 69), (gu u40_ 70), (gu u40_ 71), (gu u40_ 72), (gu u40_ 73), (gu u40_ 74), (gu u40_ 75), (gu u40_ 76), (gu u40_ 77), (gu u40_ 78), (gu u40_ 79), (gu u7_ 130), (gu u7_ 131), (gu u7_ 132), (gu u7_ 133), (gu u7_ 134), (gu u7_ 135), undef], []⟩ ∧ St w [] [eB B2_1 30 #[.slice none 0 0], eB B3_2 30 #[.slice PA n PC], eO 86 3 (.slice PA n PC) n (Ps.flatMap pgC), ePs Ps, eB B6_11 128 (V.map (Value.int .i64)).toArray, eO 9 1 (.slice IA ((mdSs V n i).length) IC) ((mdSs V n i).length) ((mdSs V n i).map Value.string), eB B8_26 86 #[vi (mdK V), vi (V.getD 0 0), .slice IA ((mdSs V n i).length) IC]] W) ?_ ?_
      · skip
        refine wp_seq (wp_region_P [0, 1, 3] [.k 119 (vi (x)), tRe 120 .i64 x 17 (x % 17) (Int.tmod_eq_emod_of_nonneg (by omega)), .k 121 (.bool ((x % 17) == 5))] [(119, 0, 3, 122)] hst61 fun W68 hst68 => ?_)
        refine then_normal ?_
        rcases Bool.eq_false_or_eq_true ((x % 17) == 5) with hs69 | hs69
        · skip
          have hs69p : (x % 17) = 5 := by simpa using hs69
          refine wp_cond_true (show Act.eval _ _ = .bool true from (congrArg Value.bool hs69)) (wp_region_P [0] [.k 13 (.string ⟨#[111, 100, 100]⟩)] [(13, 0, 1, 14)] hst68 fun W70 hst70 => ?_)
          refine then_normal ?_
          have hp71 := hst70.pick [0, 1, 2, 3, 4, 5, 6] (by decide) rfl
          exact ⟨(⟨#[111, 100, 100]⟩ : ByteArray), [vi (x), vi (x % 17), .bool ((x % 17) == 5)], by rw [it2]; split <;> first | rfl | (exfalso; omega), rfl, hp71⟩
        have hs69p : (x % 17) ≠ 5 := by simpa using hs69
        refine wp_cond_false (show Act.eval _ _ = .bool false from (congrArg Value.bool hs69)) (wp_skip (then_normal ?_))
        have hp72 := hst68.pick [0, 1, 2, 3, 4, 5, 6] (by decide) rfl
        exact ⟨(it1 x (txD (itV n x y z))), [vi (x), vi (x % 17), .bool ((x % 17) == 5)], by rw [it2]; split <;> first | rfl | (exfalso; omega), rfl, hp72⟩
      rintro a67 W67 ⟨s13, u67_, hs13, rfl, hst67⟩
      subst hs13
      refine wp_cut (fun az W => ∃ s13 : ByteArray, ∃ u73_ : List Value, s13 = it3 x y (it2 x (it1 x (txD (itV n x y z)))) ∧ az = ⟨#[.slice LA s.length lc, undef, vp B2_1, vp B3_2, vi (((40 * n + (40 : Nat) : Nat) : Int)), vi ((n : Int)), vp B6_11, vi (((40 : Nat) : Int)), vp B8_26, vi ((i : Int)), vi (x), vi (y), vp B12_46, .string s13, (gu u40_ 4), .agg #[.slice none 0 0], vi ((n : Int)), .bool (decide ((n : Int) < 5)), (gu u7_ 11), (gu u7_ 12), .agg #[vi 0, vi 0, vi 0, vi 0, vi 0, vi 0, vi 0, vi 0, vi 0, vi 0, vi 0, vi 0, vi 0, vi 0, vi 0, vi 0, vi 0, vi 0, vi 0, vi 0, vi 0, vi 0, vi 0, vi 0, vi 0, vi 0, vi 0, vi 0, vi 0, vi 0, vi 0, vi 0, vi 0, vi 0, vi 0, vi 0, vi 0, vi 0, vi 0, vi 0], vi (((40 : Nat) : Int)), .bool (decide (((40 : Nat) : Int) < 40)), (gu u13_ 2), (gu u13_ 3), (gu u13_ 4), (gu u13_ 5), (gu u13_ 6), (gu u13_ 7), (gu u13_ 8), (gu u13_ 9), (gu u13_ 10), (gu u13_ 11), (gu u13_ 12), (gu u13_ 13), (gu u13_ 14), (gu u13_ 15), (gu u13_ 16), vp B6_11, vi (V.getD 0 0), .pointer (some ⟨B6_11, 1, none⟩), vi (V.getD 1 0), vi ((V.getD 1 0) % 2), vi (1 + ((V.getD 1 0) % 2)), .string (putS (1 + ((V.getD 1 0) % 2)) 2), .slice A45_26 1 1, .agg #[vi 1, vi (V.getD 0 0), .slice A45_26 1 1], (gu u27_ 0), (gu u27_ 1), (gu u27_ 2), (gu u27_ 3), (gu u27_ 4), (gu u27_ 5), (gu u27_ 6), (gu u27_ 7), (gu u33_ 0), (gu u33_ 1), (gu u33_ 2), (gu u33_ 3), (gu u33_ 4), (gu u33_ 5), (gu u33_ 6), vi ((i : Int)), .bool (decide ((i : Int) < 12)), .bool (decide ((i : Int) < 12)), mb (decide ((i : Int) < 12)) (vi ((i : Int))), mb (decide ((i : Int) < 12)) (vi (((3 * i : Nat) : Int))), mb (decide ((i : Int) < 12)) (vi (((3 * i + 2 : Nat) : Int))), mb (decide ((i : Int) < 12)) (.bool (decide (((3 * i + 2 : Nat) : Int) < 40))), .bool ((decide ((i : Int) < 12)) && (decide (((3 * i + 2 : Nat) : Int) < 40))), (gu u40_ 13), (gu u40_ 14), vi ((i : Int)), vi (((3 * i : Nat) : Int)), .pointer (some ⟨B6_11, ((3 * i : Nat)), none⟩), vi (x), vi ((i : Int)), vi (((3 * i : Nat) : Int)), vi (((3 * i + 1 : Nat) : Int)), .pointer (some ⟨B6_11, ((3 * i + 1 : Nat)), none⟩), vi (y), vi (x), vi (y), vi ((i : Int)), vi (((3 * i : Nat) : Int)), vi (((3 * i + 2 : Nat) : Int)), .pointer (some ⟨B6_11, ((3 * i + 2 : Nat)), none⟩), vi (V.getD ((3 * i + 2 : Nat)) 0), vi (x), vi (x % 2), vi (y), vi (x), .slice A92_46 6 6, .agg #[vi ((vminF (mdL x y z))), vi ((vmaxF (mdL x y z))), vi ((vpgF (mdL x y z))), vi ((vslF (mdL x y z))), .bool (vhotF (mdL x y z)), .slice A93_46 ((vrowF (mdL x y z)).length) c93_46], vi (x), vi (x % 59), vi (2 + (x % 59)), vp B12_46, (gu u48_ 0), (gu u48_ 1), (gu u48_ 2), (gu u48_ 3), (gu u48_ 4), (gu u48_ 5), (gu u48_ 6), (gu u54_ 0), (gu u54_ 1), (gu u54_ 2), (gu u54_ 3), (gu u54_ 4), (gu u54_ 5), (gu u54_ 6), (gu u54_ 7), (gu u54_ 8), .agg #[vi (2 + (x % 59)), vi (itV n x y z).2.1, vi (itV n x y z).2.2.1, vi (itV n x y z).2.2.2.1, .bool (vhotF (mdL x y z)), .slice A93_46 ((vrowF (mdL x y z)).length) c93_46], .string ((txD (itV n x y z))), (gu u61_ 0), (gu u61_ 1), (gu u61_ 2), (gu u67_ 0), (gu u67_ 1), (gu u67_ 2), (gu u73_ 0), (gu u73_ 1), (gu u73_ 2), (gu u73_ 3), (gu u73_ 4), (gu u73_ 5), (gu u40_ 71), (gu u40_ 72), (gu u40_ 73), (gu u40_ 74), (gu u40_ 75), (gu u40_ 76), (gu u40_ 77), (gu u40_ 78), (gu u40_ 79), (gu u7_ 130), (gu u7_ 131), (gu u7_ 132), (gu u7_ 133), (gu u7_ 134), (gu u7_ 135), undef], []⟩ ∧ St w [] [eB B2_1 30 #[.slice none 0 0], eB B3_2 30 #[.slice PA n PC], eO 86 3 (.slice PA n PC) n (Ps.flatMap pgC), ePs Ps, eB B6_11 128 (V.map (Value.int .i64)).toArray, eO 9 1 (.slice IA ((mdSs V n i).length) IC) ((mdSs V n i).length) ((mdSs V n i).map Value.string), eB B8_26 86 #[vi (mdK V), vi (V.getD 0 0), .slice IA ((mdSs V n i).length) IC]] W) ?_ ?_
      · skip
        refine wp_seq (wp_region_P [0, 1, 3] [.k 122 (vi (x)), tRe 123 .i64 x 10 (x % 10) (Int.tmod_eq_emod_of_nonneg (by omega)), .k 124 (.bool ((x % 10) == 7))] [(122, 0, 3, 125)] hst67 fun W74 hst74 => ?_)
        refine then_normal ?_
        rcases Bool.eq_false_or_eq_true ((x % 10) == 7) with hs75 | hs75
        · skip
          have hs75p : (x % 10) = 7 := by simpa using hs75
          refine wp_cond_true (show Act.eval _ _ = .bool true from (congrArg Value.bool hs75)) (wp_region_Z [0, 1, 3, 7] [] [.k 125 (vi (y)), tRe 126 .i64 y 13 (y % 13) (Int.tmod_eq_emod_of_nonneg (by omega)), .c 127 (.string (strOfNums [0, (y % 13)])), .k 13 (.string (strOfNums [0, (y % 13)]))] [0, 1, 2, 3, 4, 5, 6] [2] [(13, 3, 1, 14), (111, 0, 3, 114)] hst74 ?_ fun W76 hst76 => ?_)
          · refine ⟨?_, trivial⟩
            · exact xsc rfl id rfl rfl fun cx => ⟨_, rto_any (y % 13) _ (by omega), (map1 (cx.an 1))⟩
          refine then_normal ?_
          have hp77 := hst76.pick [0, 1, 2, 3, 4, 5, 6] (by decide) rfl
          exact ⟨strOfNums [0, (y % 13)], [vi (x), vi (x % 10), .bool ((x % 10) == 7), vi (y), vi (y % 13), .string (strOfNums [0, (y % 13)])], by rw [it3]; split <;> first | rfl | (exfalso; omega), rfl, hp77⟩
        have hs75p : (x % 10) ≠ 7 := by simpa using hs75
        refine wp_cond_false (show Act.eval _ _ = .bool false from (congrArg Value.bool hs75)) (wp_skip (then_normal ?_))
        have hp78 := hst74.pick [0, 1, 2, 3, 4, 5, 6] (by decide) rfl
        exact ⟨(it2 x (it1 x (txD (itV n x y z)))), [vi (x), vi (x % 10), .bool ((x % 10) == 7), (gu u40_ 68), (gu u40_ 69), (gu u40_ 70)], by rw [it3]; split <;> first | rfl | (exfalso; omega), rfl, hp78⟩
      rintro a73 W73 ⟨s13, u73_, hs13, rfl, hst73⟩
      subst hs13
      rw [show it3 x y (it2 x (it1 x (txD (itV n x y z)))) = mdI V n i by rw [mdI, hN_x, hN_y, hN_z, itS]]
      refine wp_seq ?_
      have hri : rightB (mdK V) (V.getD 0 0) (mdSs V n i) = true := by rw [← hV]; exact mdSs_right s n i
      have hsi : (mdI V n i).size ≤ 400 := by obtain ⟨o, ho⟩ := itS_desc n (V.getD (3 * i) 0) (V.getD (3 * i + 1) 0) (V.getD (3 * i + 2) 0) (by omega); have := ho.le; rw [mdI]; omega
      rcases Decidable.em (putErr (mdK V) (V.getD 0 0) (mdSs V n i) (i : Int) (mdI V n i) = 0) with hpe | hpe
      · skip
        refine wp_region_Y [0, 0, 0, 7, 0, 31] [[6], [], [], [5], [], [8]] [[], [], [], [7], [8], [9]] [[], [], [], [], [], [8]] [.c 128 (.agg #[vi (mdK V), vi (V.getD 0 0), .slice IA ((mdSs V n i).length) IC]), .k 129 (vi ((i : Int))), .k 130 (.string ((mdI V n i))), .a 131, .a 14, .n] (fun ix σ β X => match ix with | 0 => True | 1 => True | 2 => True | 3 => σ 131 = .agg #[vi ((mdK V)), vi ((V.getD 0 0)), .slice (sA (tg (β 131) 2)) ((mdSs V n (i + 1)).length) (sC (tg (β 131) 2)), vi 0] ∧ X 7 = eO 9 1 (.slice (sA (tg (β 131) 2)) ((mdSs V n (i + 1)).length) (sC (tg (β 131) 2))) ((mdSs V n (i + 1)).length) ((mdSs V n (i + 1)).map Value.string) | 4 => σ 14 = vp (pb (β 14)) ∧ X 8 = eB (pb (β 14)) 102 #[vi 0, vi 0, .slice none 0 0, vi 0] | 5 => X 9 = eB (pb (β 14)) 102 #[vi ((mdK V)), vi ((V.getD 0 0)), .slice (sA (tg (β 131) 2)) ((mdSs V n (i + 1)).length) (sC (tg (β 131) 2)), vi 0] | _ => True) [0, 1, 2, 3, 4, 5, 6, 7, 9] [0, 3, 4, 5] [(14, 4, 1, 15), (113, 0, 4, 117)] hst73 ?_ ?_ ?_
        · exact fun ix _ _ _ _ _ _ hs hb hx h => match ix, h with
          | 3, h => by dsimp only at h ⊢; rw [← hs 131 rfl, ← hb 131 rfl, ← hx 7 rfl]; exact h
          | 4, h => by dsimp only at h ⊢; rw [← hs 14 rfl, ← hb 14 rfl, ← hx 8 rfl]; exact h
          | 5, h => by dsimp only at h ⊢; rw [← hb 14 rfl, ← hb 131 rfl, ← hx 9 rfl]; exact h
          | 0, _ | 1, _ | 2, _ | _ + 6, _ => trivial
        · refine ⟨?_, ?_, ?_, ?_, trivial⟩
          · exact xs4 rfl id fun cx => run_loadB (n := 3) rfl (by kernel_rfl) (by kernel_rfl) (cx.ou 8) (cx.bi 6 rfl) (nle rfl) rfl
          · refine sv_any rfl rfl fun ρ β W X cx => ?_
            refine DoesU.call (run_callF (args := #[.agg #[vi (mdK V), vi (V.getD 0 0), .slice IA ((mdSs V n i).length) IC], vi ((i : Int)), .string ((mdI V n i))]) rfl cx.sees rfl (by kernel_rfl) (map3 (cx.an 0) (cx.an 1) (cx.an 2))) ?_
            refine (rput_md hri (At.of_own (cx.ri 5 rfl)) (by have := eown_cap (cx.ri 5 rfl); simpa using this) hsi (by omega) hpe).mono ?_
            rintro e W1 ⟨A4, c4, rfl, ho, hx⟩
            refine ⟨_, rfl, post_call [eO 9 1 (.slice A4 ((mdSs V n (i + 1)).length) c4) ((mdSs V n (i + 1)).length) ((mdSs V n (i + 1)).map Value.string)] rfl rfl hx (one_new (eO_new ho)) (List.pairwise_singleton _ _) (fun σ β' X' hs hb hv hN => ?_)⟩
            have hv1 := (hv 131 rfl).1; have hv2 := (hv 131 rfl).2
            exact ⟨hv1.trans (by rw [hv2]; rfl), (by rw [hv2]; exact (List.cons.inj hN).1)⟩
          · refine sv_any rfl rfl fun ρ β W X cx => ?_
            exact dv_alloc (cs := #[vi 0, vi 0, .slice none 0 0, vi 0]) rfl (by kernel_rfl) rfl rfl (fun σ β' X' hs hb hv hx => ⟨hv, hx⟩)
          · refine sv_any rfl rfl fun ρ β W X cx => ?_
            exact dv_store (n := 4) rfl (dTn (cx.an 4)).1 (dTn (cx.an 3)).1 (by kernel_rfl) (by kernel_rfl) (by kernel_rfl) cx (dTn (cx.an 4)).2 rfl (nle rfl) (by kernel_rfl) rfl rfl rfl (fun σ β' X' hs hb hx => by rw [hb 14, hb 131]; exact hx)
        intro σ β X W79 hD hst79 fr hfr
        obtain ⟨A131_79, hu_A131_79⟩ : ∃ z, sA (tg (β 131) 2) = z := ⟨_, rfl⟩
        obtain ⟨c131_79, hu_c131_79⟩ : ∃ z, sC (tg (β 131) 2) = z := ⟨_, rfl⟩
        obtain ⟨B14_79, hu_B14_79⟩ : ∃ z, pb (β 14) = z := ⟨_, rfl⟩
        simp only [exq 7 ((dTn (hD 3 lq)).2), exq 9 ((dTn (hD 5 lq))), hu_A131_79, hu_c131_79, hu_B14_79] at hst79
        simp only [ed 131 ((dTn (hD 3 lq)).1), ed 14 ((dTn (hD 4 lq)).1), hu_A131_79, hu_c131_79, hu_B14_79] at hfr
        clear hD hu_A131_79 hu_c131_79 hu_B14_79; subst hfr; clear σ β X
        refine then_normal (wp_seq (wp_region_Z [0, 1, 3] [[], [8]] [.k 132 (.pointer (some ⟨B14_79, 3, none⟩)), .c 133 (vi 0), .k 134 (.bool true)] [0, 1, 2, 3, 4, 5, 6, 7, 8] [1] [(132, 0, 3, 135)] hst79 ?_ fun W80 hst80 => ?_))
        · refine ⟨?_, trivial⟩
          · exact xs4 rfl id fun cx => run_load1 rfl (by kernel_rfl) (cx.an 0) ((cx.bi 8 rfl).cell 3)
        refine then_normal (wp_cond_true (show Act.eval _ _ = .bool true from rfl) (wp_region_Y [0, 1, 3] [[], [8], [6]] [[], [], [9]] [[], [], [6]] [.k 135 (vp B14_79), .c 136 (.agg #[vi ((mdK V)), vi ((V.getD 0 0)), .slice A131_79 ((mdSs V n (i + 1)).length) c131_79]), .n] (fun ix σ β X => match ix with | 0 => True | 1 => True | 2 => X 9 = eB B8_26 86 #[vi ((mdK V)), vi ((V.getD 0 0)), .slice A131_79 ((mdSs V n (i + 1)).length) c131_79] | _ => True) [0, 1, 2, 3, 4, 5, 7, 8, 9] [1, 2] [(135, 0, 2, 137)] hst80 ?_ ?_ ?_))
        · exact fun ix _ _ _ _ _ _ hs hb hx h => match ix, h with
          | 2, h => by dsimp only at h ⊢; rw [← hx 9 rfl]; exact h
          | 0, _ | 1, _ | _ + 3, _ => trivial
        · refine ⟨?_, ?_, trivial⟩
          · exact xs4 rfl id fun cx => run_loadB (n := 3) rfl (by kernel_rfl) (by kernel_rfl) (cx.an 0) (cx.bi 8 rfl) (nle rfl) rfl
          · refine sv_any rfl rfl fun ρ β W X cx => ?_
            exact dv_store (n := 3) rfl (cx.ou 8) (cx.an 1) (by kernel_rfl) (by kernel_rfl) (by kernel_rfl) cx (cx.init 6 _ rfl) rfl (nle rfl) (by kernel_rfl) rfl rfl rfl (fun σ β' X' hs hb hx => hx)
        intro σ β X W81 hD hst81 fr hfr
        simp only [exq 9 ((dTn (hD 2 lq)))] at hst81
        clear hD; subst hfr; clear σ β X
        refine blk_normal (then_normal (wp_region_P [0, 1, 3] [.k 70 (vi ((i : Int))), tI 71 ((i : Int) + 1) (by omega), .k 9 (vi ((i : Int) + 1))] [(9, 2, 1, 10), (60, 0, 2, 62)] hst81 fun W82 hst82 => ?_))
        refine then_normal ?_
        refine ⟨12 - ((i + 1)), by omega, ?_⟩
        have hp83 := hst82.pick [0, 1, 2, 3, 4, 6, 8] (by decide) rfl
        exact ⟨(i + 1), A131_79, c131_79, [vi (x), vi (y), vp B12_46, .string ((mdI V n i)), vp B14_79, vi ((i : Int)), .bool (decide ((i : Int) < 12)), .bool (decide ((i : Int) < 12)), mb (decide ((i : Int) < 12)) (vi ((i : Int))), mb (decide ((i : Int) < 12)) (vi (((3 * i : Nat) : Int))), mb (decide ((i : Int) < 12)) (vi (((3 * i + 2 : Nat) : Int))), mb (decide ((i : Int) < 12)) (.bool (decide (((3 * i + 2 : Nat) : Int) < 40))), .bool ((decide ((i : Int) < 12)) && (decide (((3 * i + 2 : Nat) : Int) < 40))), vi ((i : Int)), vi ((i : Int) + 1), vi ((i : Int)), vi (((3 * i : Nat) : Int)), .pointer (some ⟨B6_11, ((3 * i : Nat)), none⟩), vi (x), vi ((i : Int)), vi (((3 * i : Nat) : Int)), vi (((3 * i + 1 : Nat) : Int)), .pointer (some ⟨B6_11, ((3 * i + 1 : Nat)), none⟩), vi (y), vi (x), vi (y), vi ((i : Int)), vi (((3 * i : Nat) : Int)), vi (((3 * i + 2 : Nat) : Int)), .pointer (some ⟨B6_11, ((3 * i + 2 : Nat)), none⟩), vi (V.getD ((3 * i + 2 : Nat)) 0), vi (x), vi (x % 2), vi (y), vi (x), .slice A92_46 6 6, .agg #[vi ((vminF (mdL x y z))), vi ((vmaxF (mdL x y z))), vi ((vpgF (mdL x y z))), vi ((vslF (mdL x y z))), .bool (vhotF (mdL x y z)), .slice A93_46 ((vrowF (mdL x y z)).length) c93_46], vi (x), vi (x % 59), vi (2 + (x % 59)), vp B12_46, (gu u48_ 0), (gu u48_ 1), (gu u48_ 2), (gu u48_ 3), (gu u48_ 4), (gu u48_ 5), (gu u48_ 6), (gu u54_ 0), (gu u54_ 1), (gu u54_ 2), (gu u54_ 3), (gu u54_ 4), (gu u54_ 5), (gu u54_ 6), (gu u54_ 7), (gu u54_ 8), .agg #[vi (2 + (x % 59)), vi (itV n x y z).2.1, vi (itV n x y z).2.2.1, vi (itV n x y z).2.2.2.1, .bool (vhotF (mdL x y z)), .slice A93_46 ((vrowF (mdL x y z)).length) c93_46], .string ((txD (itV n x y z))), (gu u61_ 0), (gu u61_ 1), (gu u61_ 2), (gu u67_ 0), (gu u67_ 1), (gu u67_ 2), (gu u73_ 0), (gu u73_ 1), (gu u73_ 2), (gu u73_ 3), (gu u73_ 4), (gu u73_ 5), .agg #[vi (mdK V), vi (V.getD 0 0), .slice IA ((mdSs V n i).length) IC], vi ((i : Int)), .string ((mdI V n i)), .agg #[vi ((mdK V)), vi ((V.getD 0 0)), .slice A131_79 ((mdSs V n (i + 1)).length) c131_79, vi 0], .pointer (some ⟨B14_79, 3, none⟩), vi 0, .bool true, vp B14_79, .agg #[vi ((mdK V)), vi ((V.getD 0 0)), .slice A131_79 ((mdSs V n (i + 1)).length) c131_79]], by omega, by omega, rfl, rfl, hp83⟩
      · skip
        refine wp_region_Y [0, 0, 0, 7, 0, 31] [[6], [], [], [5], [], [8]] [[], [], [], [7], [8], [9]] [[], [], [], [], [], [8]] [.c 128 (.agg #[vi (mdK V), vi (V.getD 0 0), .slice IA ((mdSs V n i).length) IC]), .k 129 (vi ((i : Int))), .k 130 (.string ((mdI V n i))), .a 131, .a 14, .n] (fun ix σ β X => match ix with | 0 => True | 1 => True | 2 => True | 3 => σ 131 = .agg #[vi 0, vi 0, .slice (sA (tg (β 131) 2)) (([] : List ByteArray).length) (sC (tg (β 131) 2)), vi ((putErr (mdK V) (V.getD 0 0) (mdSs V n i) (i : Int) (mdI V n i)))] ∧ X 7 = eO 9 1 (.slice (sA (tg (β 131) 2)) (([] : List ByteArray).length) (sC (tg (β 131) 2))) (([] : List ByteArray).length) (([] : List ByteArray).map Value.string) | 4 => σ 14 = vp (pb (β 14)) ∧ X 8 = eB (pb (β 14)) 102 #[vi 0, vi 0, .slice none 0 0, vi 0] | 5 => X 9 = eB (pb (β 14)) 102 #[vi 0, vi 0, .slice (sA (tg (β 131) 2)) (([] : List ByteArray).length) (sC (tg (β 131) 2)), vi ((putErr (mdK V) (V.getD 0 0) (mdSs V n i) (i : Int) (mdI V n i)))] | _ => True) [0, 1, 2, 3, 4, 5, 6, 7, 9] [0, 3, 4, 5] [(14, 4, 1, 15), (113, 0, 4, 117)] hst73 ?_ ?_ ?_
        · exact fun ix _ _ _ _ _ _ hs hb hx h => match ix, h with
          | 3, h => by dsimp only at h ⊢; rw [← hs 131 rfl, ← hb 131 rfl, ← hx 7 rfl]; exact h
          | 4, h => by dsimp only at h ⊢; rw [← hs 14 rfl, ← hb 14 rfl, ← hx 8 rfl]; exact h
          | 5, h => by dsimp only at h ⊢; rw [← hb 14 rfl, ← hb 131 rfl, ← hx 9 rfl]; exact h
          | 0, _ | 1, _ | 2, _ | _ + 6, _ => trivial
        · refine ⟨?_, ?_, ?_, ?_, trivial⟩
          · exact xs4 rfl id fun cx => run_loadB (n := 3) rfl (by kernel_rfl) (by kernel_rfl) (cx.ou 8) (cx.bi 6 rfl) (nle rfl) rfl
          · refine sv_any rfl rfl fun ρ β W X cx => ?_
            refine DoesU.call (run_callF (args := #[.agg #[vi (mdK V), vi (V.getD 0 0), .slice IA ((mdSs V n i).length) IC], vi ((i : Int)), .string ((mdI V n i))]) rfl cx.sees rfl (by kernel_rfl) (map3 (cx.an 0) (cx.an 1) (cx.an 2))) ?_
            refine (rput_bad (At.of_own (cx.ri 5 rfl)) (right_small' hri) (by have := eown_cap (cx.ri 5 rfl); simpa using this) hsi hpe).mono ?_
            rintro e W1 ⟨A4, c4, rfl, ho, hx⟩
            refine ⟨_, rfl, post_call [eO 9 1 (.slice A4 (([] : List ByteArray).length) c4) (([] : List ByteArray).length) (([] : List ByteArray).map Value.string)] rfl rfl hx (one_new (eO_new ho)) (List.pairwise_singleton _ _) (fun σ β' X' hs hb hv hN => ?_)⟩
            have hv1 := (hv 131 rfl).1; have hv2 := (hv 131 rfl).2
            exact ⟨hv1.trans (by rw [hv2]; rfl), (by rw [hv2]; exact (List.cons.inj hN).1)⟩
          · refine sv_any rfl rfl fun ρ β W X cx => ?_
            exact dv_alloc (cs := #[vi 0, vi 0, .slice none 0 0, vi 0]) rfl (by kernel_rfl) rfl rfl (fun σ β' X' hs hb hv hx => ⟨hv, hx⟩)
          · refine sv_any rfl rfl fun ρ β W X cx => ?_
            exact dv_store (n := 4) rfl (dTn (cx.an 4)).1 (dTn (cx.an 3)).1 (by kernel_rfl) (by kernel_rfl) (by kernel_rfl) cx (dTn (cx.an 4)).2 rfl (nle rfl) (by kernel_rfl) rfl rfl rfl (fun σ β' X' hs hb hx => by rw [hb 14, hb 131]; exact hx)
        intro σ β X W84 hD hst84 fr hfr
        obtain ⟨A131_84, hu_A131_84⟩ : ∃ z, sA (tg (β 131) 2) = z := ⟨_, rfl⟩
        obtain ⟨c131_84, hu_c131_84⟩ : ∃ z, sC (tg (β 131) 2) = z := ⟨_, rfl⟩
        obtain ⟨B14_84, hu_B14_84⟩ : ∃ z, pb (β 14) = z := ⟨_, rfl⟩
        simp only [exq 7 ((dTn (hD 3 lq)).2), exq 9 ((dTn (hD 5 lq))), hu_A131_84, hu_c131_84, hu_B14_84] at hst84
        simp only [ed 131 ((dTn (hD 3 lq)).1), ed 14 ((dTn (hD 4 lq)).1), hu_A131_84, hu_c131_84, hu_B14_84] at hfr
        clear hD hu_A131_84 hu_c131_84 hu_B14_84; subst hfr; clear σ β X
        refine then_normal (wp_seq ?_)
        have hd86 : ((putErr (mdK V) (V.getD 0 0) (mdSs V n i) (i : Int) (mdI V n i)) == 0) = false := (by simpa using hpe)
        refine wp_region_Z [0, 1, 3] [[], [8]] [.k 132 (.pointer (some ⟨B14_84, 3, none⟩)), .c 133 (vi ((putErr (mdK V) (V.getD 0 0) (mdSs V n i) (i : Int) (mdI V n i)))), .e 134 (.bool ((putErr (mdK V) (V.getD 0 0) (mdSs V n i) (i : Int) (mdI V n i)) == 0)) (.bool false) (congrArg Value.bool hd86)] [0, 1, 2, 3, 4, 5, 6, 7, 8] [1] [(132, 0, 3, 135)] hst84 ?_ fun W85 hst85 => ?_
        · refine ⟨?_, trivial⟩
          · exact xs4 rfl id fun cx => run_load1 rfl (by kernel_rfl) (cx.an 0) ((cx.bi 8 rfl).cell 3)
        refine then_normal (wp_cond_false (show Act.eval _ _ = .bool false from rfl) (wp_skip (blk_normal (then_normal (wp_region_P [0, 1, 3] [.k 70 (vi ((i : Int))), tI 71 ((i : Int) + 1) (by omega), .k 9 (vi ((i : Int) + 1))] [(9, 2, 1, 10), (60, 0, 2, 62)] hst85 fun W87 hst87 => ?_)))))
        refine then_normal ?_
        rw [← mdSs_no (by omega) hpe] at hst87
        refine ⟨12 - ((i + 1)), by omega, ?_⟩
        have hp88 := hst87.pick [0, 1, 2, 3, 4, 5, 6] (by decide) rfl
        exact ⟨(i + 1), IA, IC, [vi (x), vi (y), vp B12_46, .string ((mdI V n i)), vp B14_84, vi ((i : Int)), .bool (decide ((i : Int) < 12)), .bool (decide ((i : Int) < 12)), mb (decide ((i : Int) < 12)) (vi ((i : Int))), mb (decide ((i : Int) < 12)) (vi (((3 * i : Nat) : Int))), mb (decide ((i : Int) < 12)) (vi (((3 * i + 2 : Nat) : Int))), mb (decide ((i : Int) < 12)) (.bool (decide (((3 * i + 2 : Nat) : Int) < 40))), .bool ((decide ((i : Int) < 12)) && (decide (((3 * i + 2 : Nat) : Int) < 40))), vi ((i : Int)), vi ((i : Int) + 1), vi ((i : Int)), vi (((3 * i : Nat) : Int)), .pointer (some ⟨B6_11, ((3 * i : Nat)), none⟩), vi (x), vi ((i : Int)), vi (((3 * i : Nat) : Int)), vi (((3 * i + 1 : Nat) : Int)), .pointer (some ⟨B6_11, ((3 * i + 1 : Nat)), none⟩), vi (y), vi (x), vi (y), vi ((i : Int)), vi (((3 * i : Nat) : Int)), vi (((3 * i + 2 : Nat) : Int)), .pointer (some ⟨B6_11, ((3 * i + 2 : Nat)), none⟩), vi (V.getD ((3 * i + 2 : Nat)) 0), vi (x), vi (x % 2), vi (y), vi (x), .slice A92_46 6 6, .agg #[vi ((vminF (mdL x y z))), vi ((vmaxF (mdL x y z))), vi ((vpgF (mdL x y z))), vi ((vslF (mdL x y z))), .bool (vhotF (mdL x y z)), .slice A93_46 ((vrowF (mdL x y z)).length) c93_46], vi (x), vi (x % 59), vi (2 + (x % 59)), vp B12_46, (gu u48_ 0), (gu u48_ 1), (gu u48_ 2), (gu u48_ 3), (gu u48_ 4), (gu u48_ 5), (gu u48_ 6), (gu u54_ 0), (gu u54_ 1), (gu u54_ 2), (gu u54_ 3), (gu u54_ 4), (gu u54_ 5), (gu u54_ 6), (gu u54_ 7), (gu u54_ 8), .agg #[vi (2 + (x % 59)), vi (itV n x y z).2.1, vi (itV n x y z).2.2.1, vi (itV n x y z).2.2.2.1, .bool (vhotF (mdL x y z)), .slice A93_46 ((vrowF (mdL x y z)).length) c93_46], .string ((txD (itV n x y z))), (gu u61_ 0), (gu u61_ 1), (gu u61_ 2), (gu u67_ 0), (gu u67_ 1), (gu u67_ 2), (gu u73_ 0), (gu u73_ 1), (gu u73_ 2), (gu u73_ 3), (gu u73_ 4), (gu u73_ 5), .agg #[vi (mdK V), vi (V.getD 0 0), .slice IA ((mdSs V n i).length) IC], vi ((i : Int)), .string ((mdI V n i)), .agg #[vi 0, vi 0, .slice A131_84 (([] : List ByteArray).length) c131_84, vi ((putErr (mdK V) (V.getD 0 0) (mdSs V n i) (i : Int) (mdI V n i)))], .pointer (some ⟨B14_84, 3, none⟩), vi ((putErr (mdK V) (V.getD 0 0) (mdSs V n i) (i : Int) (mdI V n i))), .bool false, (gu u40_ 78), (gu u40_ 79)], by omega, by omega, rfl, rfl, hp88⟩
    have hs43p := hs43
    simp only [zB] at hs43p
    refine wp_cond_false (show Act.eval _ _ = .bool false from (congrArg Value.bool hs43)) (wp_exit (then_exit (then_exit (blk_eq (then_normal ?_)))))
    obtain rfl : i = 12 := by omega
    obtain ⟨its, hits, hdes⟩ := its_of (hV ▸ mdSs_desc s n 12 (by omega) : ∀ x ∈ mdSs V n 12, ∃ o, Desc x o)
    rw [← hits, List.length_map, ← strs_map] at hst42
    refine wp_region_Y [0, 1, 0, 4, 15, 31, 63] [[], [1], [6], [], [7, 2], [], [1]] [[], [], [], [7], [8], [], [9]] [[], [], [], [], [2], [], [1]] [.k 137 (vp B3_2), .c 138 (.slice PA n PC), .c 139 (.agg #[vi (mdK V), vi (V.getD 0 0), .slice IA its.length IC]), .a 140, .a 141, .k 142 (vp B3_2), .n] (fun ix σ β X => match ix with | 0 => True | 1 => True | 2 => True | 3 => σ 140 = .slice ((some ⟨(pb' (β 140)), 0, none⟩)) 1 1 ∧ X 7 = eO 86 3 (.slice ((some ⟨(pb' (β 140)), 0, none⟩)) 1 1) 1 (pgC (PgD.mk (mdK V) (V.getD 0 0) IA IC its)) | 4 => σ 141 = .slice (sA (β 141)) (n + 1) (sC (β 141)) ∧ X 8 = eO 86 3 (.slice (sA (β 141)) (n + 1) (sC (β 141))) (n + 1) ((Ps ++ [(PgD.mk (mdK V) (V.getD 0 0) IA IC its)]).flatMap pgC) | 5 => True | 6 => X 9 = eB B3_2 30 #[.slice (sA (β 141)) (n + 1) (sC (β 141))] | _ => True) [0, 3, 4, 5, 6, 7, 8, 9] [1, 2, 3, 4, 6] [(137, 0, 6, 143)] hst42 ?_ ?_ ?_
    · exact fun ix _ _ _ _ _ _ hs hb hx h => match ix, h with
      | 3, h => by dsimp only at h ⊢; rw [← hs 140 rfl, ← hb 140 rfl, ← hx 7 rfl]; exact h
      | 4, h => by dsimp only at h ⊢; rw [← hs 141 rfl, ← hb 141 rfl, ← hx 8 rfl]; exact h
      | 6, h => by dsimp only at h ⊢; rw [← hb 141 rfl, ← hx 9 rfl]; exact h
      | 0, _ | 1, _ | 2, _ | 5, _ | _ + 7, _ => trivial
    · refine ⟨?_, ?_, ?_, ?_, ?_, trivial⟩
      · exact xs4 rfl id fun cx => run_load1 rfl (by kernel_rfl) (cx.an 0) ((cx.bi 1 rfl).cell 0)
      · exact xs4 rfl id fun cx => run_loadB (n := 3) rfl (by kernel_rfl) (by kernel_rfl) (cx.ou 8) (cx.bi 6 rfl) (nle rfl) rfl
      · refine sv_any rfl rfl fun ρ β W X cx => ?_
        have fF139 : ρ (.tmp 139) = .agg #[vi (mdK V), vi (V.getD 0 0), .slice IA its.length IC] := (cx.an 2)
        exact dv_litN (e := 86) (sz := 3) (xs := [vi (mdK V), vi (V.getD 0 0), .slice IA its.length IC]) rfl (by simp [go_sem, fF139]) rfl (by decide) rfl rfl (fun σ β' X' hs hb hv hx => ⟨hv, hx⟩)
      · refine sv_any rfl rfl fun ρ β W X cx => ?_
        obtain ⟨i0, hi0, hz0, hz1, hz2⟩ := info_parts Tryd.infoPage
        refine dv_appendN (n := n) (m := 1) (nm := n + 1) (sz := 3) (xs := Ps.flatMap pgC) (news := pgC (PgD.mk (mdK V) (V.getD 0 0) IA IC its)) (xs' := (Ps ++ [(PgD.mk (mdK V) (V.getD 0 0) IA IC its)]).flatMap pgC) rfl (ty := 28) rfl (by kernel_rfl) hi0 hz0 hz1 hz2 rfl (by decide) (cx.an 1) cx (cx.init 2 _ rfl) rfl (dTn (cx.an 3)).1 (by rfl) (At.of_ownN (cx.row (dTn (cx.an 3)).2 rfl)) (by simp [pgC, Value.oneCell']) (by simp only [maxLen]; omega) (by omega) rfl rfl rfl (by omega) (pgs_snoc _ _) (fun σ β' X' hs hb hv hx => ?_)
        exact ⟨hv, hx⟩
      · refine sv_any rfl rfl fun ρ β W X cx => ?_
        exact dv_store (n := 1) rfl (cx.an 5) (dTn (cx.an 4)).1 (by kernel_rfl) (by kernel_rfl) (by kernel_rfl) cx (cx.init 1 _ rfl) rfl (nle rfl) (by kernel_rfl) rfl rfl rfl (fun σ β' X' hs hb hx => by rw [hb 141]; exact hx)
    intro σ β X W89 hD hst89 fr hfr
    obtain ⟨B140_89, hu_B140_89⟩ : ∃ z, pb' (β 140) = z := ⟨_, rfl⟩
    obtain ⟨A141_89, hu_A141_89⟩ : ∃ z, sA (β 141) = z := ⟨_, rfl⟩
    obtain ⟨c141_89, hu_c141_89⟩ : ∃ z, sC (β 141) = z := ⟨_, rfl⟩
    simp only [exq 7 ((dTn (hD 3 lq)).2), exq 8 ((dTn (hD 4 lq)).2), exq 9 ((dTn (hD 6 lq))), hu_B140_89, hu_A141_89, hu_c141_89] at hst89
    simp only [ed 140 ((dTn (hD 3 lq)).1), ed 141 ((dTn (hD 4 lq)).1), hu_B140_89, hu_A141_89, hu_c141_89] at hfr
    clear hD hu_B140_89 hu_A141_89 hu_c141_89; subst hfr; clear σ β X
    refine blk_normal (then_normal (wp_region_P [0, 1, 3] [.k 18 (vi ((n : Int))), tI 19 ((n : Int) + 1) (by omega), .k 5 (vi ((n : Int) + 1))] [(5, 2, 1, 6), (12, 0, 2, 14)] hst89 fun W90 hst90 => ?_))
    refine then_normal ?_
    have hm91 := St.mergeP (Ps := Ps) (p := (PgD.mk (mdK V) (V.getD 0 0) IA IC its)) (L := [eB B2_1 30 #[.slice none 0 0], eB B6_11 128 (V.map (Value.int .i64)).toArray, eB B8_26 86 #[vi (mdK V), vi (V.getD 0 0), .slice IA its.length IC], eO 86 3 (.slice ((some ⟨B140_89, 0, none⟩)) 1 1) 1 (pgC (PgD.mk (mdK V) (V.getD 0 0) IA IC its)), eO 86 3 (.slice A141_89 (n + 1) c141_89) (n + 1) ((Ps ++ [(PgD.mk (mdK V) (V.getD 0 0) IA IC its)]).flatMap pgC), eB B3_2 30 #[.slice A141_89 (n + 1) c141_89]]) (hst90.pick [0, 2, 4, 5, 6, 7, 1, 3] (by decide) rfl)
    refine ⟨5 - ((n + 1)), by omega, ?_⟩
    have hp92 := hm91.pick [0, 5, 4, 6] (by decide) rfl
    exact ⟨(n + 1), A141_89, c141_89, (Ps ++ [(PgD.mk (mdK V) (V.getD 0 0) IA IC its)]), [vp B6_11, vi (((40 : Nat) : Int)), vp B8_26, vi (((12 : Nat) : Int)), (gu u40_ 0), (gu u40_ 1), (gu u40_ 2), (gu u40_ 3), (gu u40_ 4), vi ((n : Int)), .bool (decide ((n : Int) < 5)), vi ((n : Int)), vi ((n : Int) + 1), .agg #[vi 0, vi 0, vi 0, vi 0, vi 0, vi 0, vi 0, vi 0, vi 0, vi 0, vi 0, vi 0, vi 0, vi 0, vi 0, vi 0, vi 0, vi 0, vi 0, vi 0, vi 0, vi 0, vi 0, vi 0, vi 0, vi 0, vi 0, vi 0, vi 0, vi 0, vi 0, vi 0, vi 0, vi 0, vi 0, vi 0, vi 0, vi 0, vi 0, vi 0], vi (((40 : Nat) : Int)), .bool (decide (((40 : Nat) : Int) < 40)), (gu u13_ 2), (gu u13_ 3), (gu u13_ 4), (gu u13_ 5), (gu u13_ 6), (gu u13_ 7), (gu u13_ 8), (gu u13_ 9), (gu u13_ 10), (gu u13_ 11), (gu u13_ 12), (gu u13_ 13), (gu u13_ 14), (gu u13_ 15), (gu u13_ 16), vp B6_11, vi (V.getD 0 0), .pointer (some ⟨B6_11, 1, none⟩), vi (V.getD 1 0), vi ((V.getD 1 0) % 2), vi (1 + ((V.getD 1 0) % 2)), .string (putS (1 + ((V.getD 1 0) % 2)) 2), .slice A45_26 1 1, .agg #[vi 1, vi (V.getD 0 0), .slice A45_26 1 1], (gu u27_ 0), (gu u27_ 1), (gu u27_ 2), (gu u27_ 3), (gu u27_ 4), (gu u27_ 5), (gu u27_ 6), (gu u27_ 7), (gu u33_ 0), (gu u33_ 1), (gu u33_ 2), (gu u33_ 3), (gu u33_ 4), (gu u33_ 5), (gu u33_ 6), vi (((12 : Nat) : Int)), .bool (decide (((12 : Nat) : Int) < 12)), .bool (decide (((12 : Nat) : Int) < 12)), mb (decide (((12 : Nat) : Int) < 12)) (vi (((12 : Nat) : Int))), mb (decide (((12 : Nat) : Int) < 12)) (vi (((3 * (12 : Nat) : Nat) : Int))), mb (decide (((12 : Nat) : Int) < 12)) (vi (((3 * (12 : Nat) + 2 : Nat) : Int))), mb (decide (((12 : Nat) : Int) < 12)) (.bool (decide (((3 * (12 : Nat) + 2 : Nat) : Int) < 40))), .bool ((decide (((12 : Nat) : Int) < 12)) && (decide (((3 * (12 : Nat) + 2 : Nat) : Int) < 40))), (gu u40_ 13), (gu u40_ 14), (gu u40_ 15), (gu u40_ 16), (gu u40_ 17), (gu u40_ 18), (gu u40_ 19), (gu u40_ 20), (gu u40_ 21), (gu u40_ 22), (gu u40_ 23), (gu u40_ 24), (gu u40_ 25), (gu u40_ 26), (gu u40_ 27), (gu u40_ 28), (gu u40_ 29), (gu u40_ 30), (gu u40_ 31), (gu u40_ 32), (gu u40_ 33), (gu u40_ 34), (gu u40_ 35), (gu u40_ 36), (gu u40_ 37), (gu u40_ 38), (gu u40_ 39), (gu u40_ 40), (gu u40_ 41), (gu u40_ 42), (gu u40_ 43), (gu u40_ 44), (gu u40_ 45), (gu u40_ 46), (gu u40_ 47), (gu u40_ 48), (gu u40_ 49), (gu u40_ 50), (gu u40_ 51), (gu u40_ 52), (gu u40_ 53), (gu u40_ 54), (gu u40_ 55), (gu u40_ 56), (gu u40_ 57), (gu u40_ 58), (gu u40_ 59), (gu u40_ 60), (gu u40_ 61), (gu u40_ 62), (gu u40_ 63), (gu u40_ 64), (gu u40_ 65), (gu u40_ 66), (gu u40_ 67), (gu u40_ 68), (gu u40_ 69), (gu u40_ 70), (gu u40_ 71), (gu u40_ 72), (gu u40_ 73), (gu u40_ 74), (gu u40_ 75), (gu u40_ 76), (gu u40_ 77), (gu u40_ 78), (gu u40_ 79), vp B3_2, .slice PA n PC, .agg #[vi (mdK V), vi (V.getD 0 0), .slice IA its.length IC], .slice ((some ⟨B140_89, 0, none⟩)) 1 1, .slice A141_89 (n + 1) c141_89, vp B3_2], by omega, by rw [List.length_append, hPl]; rfl, md_snoc hPl hM ⟨by rw [hV], by rw [hV], by rw [hV]; exact hits, hdes⟩, rfl, rfl, hp92⟩
  have hs10p : ¬ ((n : Int) < 5) := by simpa using hs10
  refine wp_cond_false (show Act.eval _ _ = .bool false from (congrArg Value.bool hs10)) (wp_exit (then_exit (then_exit (blk_eq (then_normal (wp_seq (wp_region_Y [0, 1] [[1], [0]] [[], [4]] [[], [0]] [.c 143 (.agg #[.slice PA n PC]), .n] (fun ix σ β X => match ix with | 0 => True | 1 => X 4 = eB B2_1 30 #[.slice PA n PC] | _ => True) [1, 2, 3, 4] [0, 1] [(143, 0, 1, 144)] hst9 ?_ ?_ ?_)))))))
  · exact fun ix _ _ _ _ _ _ hs hb hx h => match ix, h with
    | 1, h => by dsimp only at h ⊢; rw [← hx 4 rfl]; exact h
    | 0, _ | _ + 2, _ => trivial
  · refine ⟨?_, ?_, trivial⟩
    · exact xs4 rfl id fun cx => run_loadB (n := 1) rfl (by kernel_rfl) (by kernel_rfl) (cx.ou 3) (cx.bi 1 rfl) (nle rfl) rfl
    · refine sv_any rfl rfl fun ρ β W X cx => ?_
      exact dv_store (n := 1) rfl (cx.ou 2) (cx.an 0) (by kernel_rfl) (by kernel_rfl) (by kernel_rfl) cx (cx.init 0 _ rfl) rfl (nle rfl) (by kernel_rfl) rfl rfl rfl (fun σ β' X' hs hb hx => hx)
  intro σ β X W93 hD hst93 fr hfr
  simp only [exq 4 ((dTn (hD 1 lq)))] at hst93
  clear hD; subst hfr; clear σ β X
  refine then_normal (wp_ret ?_)
  refine bodyPost_ret (v := .agg #[.slice PA n PC]) (results_cell (n := 1) Tryd.results26 rfl (by kernel_rfl) (by kernel_rfl) (hst93.blk 3 rfl) rfl) rfl ?_
  exact St.made (by omega) hPl hM (hst93.pick [2, 1] (by decide) rfl)
end
end Go.Proofs.YtjnplglnnamfdaaDoor
namespace Go.Proofs.YtjnplglnnamfdaaDoor
section
open Go.RowKit
set_option linter.unusedVariables false
set_option linter.unusedSimpArgs false
def putL (xs : List Value) (off : Nat) : List Value → List Value
  | [] => xs
  | v :: l => putL (xs.set off v) (off + 1) l
theorem putL_mid : ∀ (vs A B C : List Value), B.length = vs.length → putL (A ++ (B ++ C)) A.length vs = A ++ (vs ++ C)
  | [], A, B, C, h => by
    obtain rfl : B = [] := List.eq_nil_of_length_eq_zero h
    rfl
  | v :: vs, A, [], C, h => by simp at h
  | v :: vs, A, b :: B, C, h => by
    rw [putL]
    have e : (A ++ (b :: B ++ C)).set A.length v = (A ++ [v]) ++ (B ++ C) := by simp
    have e2 : A.length + 1 = (A ++ [v]).length := by simp
    rw [e, e2, putL_mid vs (A ++ [v]) B C (by simpa using h)]
    simp
theorem putL_flat {T : Type} {f : T → List Value} {sz : Nat} (hf : ∀ t, (f t).length = sz) {ts : List T} {m : Nat} (h : m < ts.length) (t : T) : putL (ts.flatMap f) (m * sz) (f t) = (ts.set m t).flatMap f := by
  have hl : ∀ l : List T, (l.flatMap f).length = l.length * sz := fun l => by
    induction l with
    | nil => simp
    | cons a l ih => rw [List.flatMap_cons, List.length_append, ih, hf, List.length_cons, Nat.add_mul]; omega
  have e : ts = ts.take m ++ (ts[m] :: ts.drop (m + 1)) := by rw [← List.drop_eq_getElem_cons h, List.take_append_drop]
  have e2 : ts.set m t = ts.take m ++ (t :: ts.drop (m + 1)) := by rw [List.set_eq_take_append_cons_drop, if_pos h]
  have e3 : m * sz = ((ts.take m).flatMap f).length := by rw [hl, List.length_take, Nat.min_eq_left (by omega)]
  have e4 : ts.flatMap f = (ts.take m).flatMap f ++ (f ts[m] ++ (ts.drop (m + 1)).flatMap f) := by
    conv => lhs; rw [e]
    rw [List.flatMap_append, List.flatMap_cons]
  rw [e2, e4, List.flatMap_append, List.flatMap_cons, e3, putL_mid _ _ _ _ (by rw [hf, hf])]
section
variable {P : Program} {ops : Array Oper} {L : List Nat} {a0 : Act} {w0 : World} {bor : List Nat} {X0 : List Ent} {us cr kl : List (List Nat)}
  {D : Nat → (Tmp → Value) → (Tmp → Value) → (Nat → Ent) → Prop} {i : Nat} {o : Oper} {ρ : Operand → Value} {β : Tmp → Value} {W : World} {X : Nat → Ent}
theorem run_storeRowCells {g e sz n c : Nat} : ∀ (vs : List Value) (m i : Nat) (xs : List Value) (W : World), W.ownsRow 0 e sz (.slice (some ⟨g, 0, none⟩) n c) n xs → m + i + vs.length ≤ n * sz → (∀ v ∈ vs, v.oneCell' = true) →
    ∃ W', (storeCells ⟨g, m, none⟩ vs i).run P W = .ok () W' ∧ Upd [g] W W' ∧ W'.ownsRow 0 e sz (.slice (some ⟨g, 0, none⟩) n c) n (putL xs (m + i) vs) := by
  intro vs
  induction vs with
  | nil => intro m i xs W hb _ _; exact ⟨W, rfl, Upd.refl _ _, hb⟩
  | cons v vs ih =>
    intro m i xs W hown hle h1
    simp only [List.length_cons] at hle
    have hlen : xs.length = n * sz := hown.1
    have hcell : W.cell? ⟨g, m + i, none⟩ = some (xs[m + i]'(by omega)) := by
      rw [hown.cellAt (m + i) (by omega)]
      exact List.getElem?_eq_getElem (by omega)
    have hfz := hown.frozenAt (m + i)
    have hst := (hown.stored (m + i) v).1
    obtain ⟨W', h2, h3, h4⟩ := ih m (i + 1) (xs.set (m + i) v) (W.setCell ⟨g, m + i, none⟩ v) hst (by omega) (fun x hx => h1 x (by simp [hx]))
    refine ⟨W', ?_, ((Upd.refl [g] W).set (.inl (by simp)) v).trans h3, h4⟩
    unfold storeCells
    have hv := h1 v (by simp)
    have hs1 : (store ((⟨g, m, none⟩ : Addr).add i) v).run P W = .ok () (W.setCell ⟨g, m + i, none⟩ v) := by
      rw [Addr.add_lit]
      unfold store
      cases v <;> first | (simp [Value.oneCell'] at hv; done) | (simp [Sem.run, hcell, hfz])
    simp only [Sem.run_bind, hs1, Result.andThen_ok, h2]
theorem dv_storeElt {t e sz k : Nat} {x y : Operand} {A : Option Addr} {n c m q q' : Nat} {v : Value} {xs : List Value} (h : o.op = .store t x y) (hx : ρ x = .pointer (some ((ad A).add m))) (hy : ρ y = v) (hz : szP P t = some k) (hn : v.cells.size = k)
    (h1 : v.cells.toList.all Value.oneCell' = true) (cx : CtxV ops L a0 w0 bor X0 us D i ρ β W X) (hX : X q = eO e sz (.slice A n c) n xs) (hu : (atV us i).contains q = true) (hm : m + k ≤ n * sz) (hk0 : 0 < k) (hd : o.dst = none) {xs' : List Value} (hxs : putL xs m v.cells.toList = xs')
    (hc : atV cr i = [q']) (hk : atV kl i = [q]) (hD : ∀ (σ β' : Tmp → Value) (X' : Nat → Ent), (∀ t, σ t = ρ (.tmp t)) → (∀ t, β' t = β t) → X' q' = eO e sz (.slice A n c) n xs' → D i σ β' X') : DoesU P o ρ W (PostV cr kl D i o.dst ρ β W X) := by
  subst hxs
  have hok := cx.ok q hu
  rw [hX] at hok
  have hown : W.ownsRow 0 e sz (.slice A n c) n xs := hok.holds
  obtain ⟨g, rfl⟩ : ∃ g, A = some ⟨g, 0, none⟩ := by
    rcases hown.2 with ⟨hv, hm0⟩ | ⟨g, cap, cur, hv, _⟩
    · subst hm0; rw [Nat.zero_mul] at hm; omega
    · injection hv with h1 h2 h3; exact ⟨g, h1⟩
  have hadd : (ad (some ⟨g, 0, none⟩)).add m = ⟨g, m, none⟩ := by rw [ad, Option.getD_some, Addr.add_lit, Nat.zero_add]
  obtain ⟨W', h2, h3, h4⟩ := run_storeRowCells (P := P) v.cells.toList m 0 xs W hown (by simp [hn]; exact hm) (fun u hu => List.all_eq_true.1 h1 u hu)
  have hrun : (execOp ρ o).run P W = .ok .skip W' := by
    unfold execOp; rw [h]
    simp only [hx, hy, hadd, Instr.storeAt, Instr.sureAddr, storeVar, Sem.run_bind, Sem.run_pure, Result.andThen_ok, run_size hz, hn, ne_eq, not_true_eq_false, if_false]
    rw [h2]
    rfl
  rw [Nat.add_zero] at h4
  refine DoesU.skip hrun ⟨[eO e sz (.slice (some ⟨g, 0, none⟩) n c) n (putL xs m v.cells.toList)], by rw [hc]; rfl, ⟨?_, fun e' he => ?_, List.pairwise_singleton _ _⟩, fun σ β' X' hs hv hb' hbv hx' hN => hD σ β' X' (fun t => hs t (by rw [hd]; simp)) (fun t => hb' t (by rw [hd]; simp)) ?_⟩
  · rw [hk]
    simp only [List.flatMap_cons, List.flatMap_nil, List.append_nil, hX]
    exact h3.mono (fun k _ hk' => by simp at hk'; subst hk'; simp [eO, Value.ownBlock])
  · rw [List.mem_singleton] at he
    subst he
    refine ⟨h4, eO_loc _ _ _ _ _, fun k hk' => ?_⟩
    have hkg : k = g := by simpa [eO, Value.ownBlock] using hk'
    subst hkg
    refine ⟨.inl ?_, own0_block h4 k (by simp [Value.ownBlock])⟩
    rw [hk]
    simp [hX, eO, Value.ownBlock]
  · rw [hc] at hN
    exact (List.cons.inj hN).1
end
end
end Go.Proofs.YtjnplglnnamfdaaDoor
namespace Go.Proofs.YtjnplglnnamfdaaDoor
section
open Go.RowKit
set_option linter.unusedVariables false
set_option linter.unusedSimpArgs false
def GotI (k l : Int) (its : List Itm) (w : World) (e : Ending) (w' : World) : Prop := ∃ A c, e = .returned (.agg #[.int .i64 k, .int .i64 l, .slice A its.length c, .int .i64 0]) ∧
  w'.ownsRow w.heap.size 9 1 (.slice A its.length c) its.length (strs its) ∧ Ext w w'
theorem rput_i {k l : Int} {A : Option Addr} {c : Nat} {its : List Itm} {slot : Int} {i : Itm} {w : World} (hA : At w A (strs its)) (hr : rightB k l (fstI its) = true) (hc : its.length ≤ c) (hss : i.1.size ≤ 400) (h : putErr k l (fstI its) slot i.1 = 0) :
    Calls Tryd.prog 55 #[.agg #[.int .i64 k, .int .i64 l, .slice A its.length c], .int .i64 slot, .string i.1] w (GotI k l (putI its slot.toNat i) w) := by
  rw [strs_map] at hA
  have h2 := rput_ok (c := c) hA (right_small' hr) (by rw [List.length_map]; exact hc) hss h
  rw [List.length_map] at h2
  refine h2.mono fun e w' hp => ?_
  obtain ⟨A', c', he, ho, hx⟩ := hp
  have e1 : plainL (withL (its.map Prod.fst) slot.toNat i.1) = (putI its slot.toNat i).map Prod.fst := (putI_fst its slot.toNat i).symm
  rw [e1, List.length_map] at he ho
  exact ⟨A', c', he, by rw [strs_map]; exact ho, hx⟩
theorem rright_i {k l : Int} {A : Option Addr} {c : Nat} {its : List Itm} {w : World} (hA : At w A (strs its)) (hr : rightB k l (fstI its) = true) (hc : its.length ≤ c) :
    Calls Tryd.prog 68 #[.agg #[.int .i64 k, .int .i64 l, .slice A its.length c]] w (Ret (.bool true) w) := by
  rw [strs_map] at hA
  have h2 := rright_any k l A its.length c (fstI its) w (fstI_len its).symm hA (right_small' hr) hc
  rw [hr] at h2
  exact h2
/-- the pages that Do leaves: of the old ones and of new ones Qs -/
def eDo (Ps : List PgD) (H : List PgI) (n : Nat) (A : Option Addr) (fp : List Nat) : Ent := ⟨fp, fun W => ∃ (c : Nat) (Cs Qs : List PgD), Cs.map absP = H ∧ (∀ p ∈ Cs, p ∈ Ps ∨ p ∈ Qs) ∧ fp = (eM (Qs.map entP ++ [eO 86 3 (.slice A n c) n (Cs.flatMap pgC)])).fp ∧ (eM (Qs.map entP ++ [eO 86 3 (.slice A n c) n (Cs.flatMap pgC)])).holds W⟩
theorem eDo_loc (Ps : List PgD) (H : List PgI) (n : Nat) (A : Option Addr) (fp : List Nat) : (eDo Ps H n A fp).loc := fun W W' hk h => by
  obtain ⟨c, Cs, Qs, h1, h2, h3, h4⟩ := h
  exact ⟨c, Cs, Qs, h1, h2, h3, eM_loc _ W W' (fun k hk' => hk k (by rw [eDo, h3]; exact hk')) h4⟩
theorem eDo_self {e : Ent} {Ps : List PgD} {H : List PgI} {n : Nat} {A : Option Addr} {fp : List Nat} (h : e = eDo Ps H n A fp) : e = eDo Ps H n A e.fp := by subst h; rfl
theorem ePs_at {Qs : List PgD} {W : World} (h : (ePs Qs).holds W) : ∀ p ∈ Qs, At W p.A (strs p.its) ∧ p.its.length ≤ p.c := fun p hp => by
  have h5 := (h (entP p) (List.mem_map.2 ⟨_, hp, rfl⟩)).1
  exact ⟨At.of_own h5, eown_cap h5⟩
theorem eDo_at {Ps : List PgD} {H : List PgI} {n : Nat} {A A0 : Option Addr} {fp : List Nat} {W : World} (h : (eDo Ps H n A fp).holds W) (hP : PgsAt W A0 Ps) (hH : okH H) (hl : H.length ≤ 1000) : ∃ Ps', Ps'.map absP = H ∧ PgsAt W A Ps' := by
  obtain ⟨c, Cs, Qs, h1, h2, h3, h4⟩ := h
  refine ⟨Cs, h1, ?_, by rw [← h1, List.length_map] at hl; exact hl, fun p hp => ?_⟩
  · have h5 := (h4 _ (List.mem_append_right _ (List.mem_singleton.2 rfl))).1
    exact At.of_ownN h5
  · rcases h2 p hp with h6 | h6
    · exact hP.its p h6
    · have h7 := ePs_at (W := W) (Qs := Qs) (fun e he => h4 e (List.mem_append_left _ he)) p h6
      have h8 : okP (absP p) := hH _ (by rw [← h1]; exact List.mem_map.2 ⟨_, hp, rfl⟩)
      exact ⟨h7.1, h8.its, h7.2, h8.2⟩
def DoPost (Ps : List PgD) (H : List PgI) (n : Nat) (w : World) (e : Ending) (w' : World) : Prop := ∃ A c fp, e = .returned (.tuple #[.agg #[.slice A n c], .bool true]) ∧ St w [] [eDo Ps H n A fp] w'
theorem St.done {w0 W : World} {Ps Cs Qs : List PgD} {H : List PgI} {A : Option Addr} {c n : Nat} (h1 : Cs.map absP = H) (h2 : ∀ p ∈ Cs, p ∈ Ps ∨ p ∈ Qs) (h : St w0 [] [ePs Qs, eO 86 3 (.slice A n c) n (Cs.flatMap pgC)] W) : DoPost Ps H n w0 (.returned (.tuple #[.agg #[.slice A n c], .bool true])) W := by
  have h3 := St.merge (L := []) h
  exact ⟨A, c, _, rfl, St.repl (L1 := []) (L2 := []) h3 rfl (fun hh => ⟨c, Cs, Qs, h1, h2, rfl, hh⟩) (eDo_loc _ _ _ _ _)⟩
theorem mem_set_new {Ps Cs Qs : List PgD} (hC : ∀ p ∈ Cs, p ∈ Ps ∨ p ∈ Qs) (n : Nat) (q : PgD) : ∀ p ∈ Cs.set n q, p ∈ Ps ∨ p ∈ Qs ++ [q] := fun p hp => by
  rcases List.mem_or_eq_of_mem_set hp with h | rfl
  · exact (hC p h).imp id (List.mem_append_left _)
  · exact .inr (by simp)
theorem map_set' (Cs : List PgD) (n : Nat) (q : PgD) : (Cs.set n q).map absP = (Cs.map absP).set n (absP q) := List.map_set
set_option maxRecDepth 100000 in
set_option maxHeartbeats 2000000 in
theorem rdo3_kind (k l : Int) (A : Option Addr) (c : Nat) (its : List Itm) (pg lsn : Int) (w : World) (hA : At w A (strs its)) (hr : rightB k l (fstI its) = true) (hc : its.length ≤ c) (hl : 0 ≤ lsn ∧ lsn ≤ 2147483647) :
    Calls Tryd.prog 34 #[.agg #[.int .i64 k, .int .i64 l, .slice A its.length c], .agg #[.int .i64 pg, .int .i64 (-1), .string ((⟨#[1]⟩ : ByteArray))], .int .i64 lsn] w (GotI 1 lsn [] w) := by
  go_enter Tryd.func34, Tryd.ntmps34
  have hst0 := St.start w
  refine wp_seq (wp_region_Y [0, 0, 0] [] [[0], [1], [2]] [] [.a 3, .a 4, .a 6] (fun ix σ β X => match ix with | 0 => σ 3 = vp (pb (β 3)) ∧ X 0 = eB (pb (β 3)) 86 #[vi k, vi l, .slice A its.length c] | 1 => σ 4 = vp (pb (β 4)) ∧ X 1 = eB (pb (β 4)) 99 #[vi pg, vi (-1), .string ((⟨#[1]⟩ : ByteArray))] | 2 => σ 6 = vp (pb (β 6)) ∧ X 2 = eB (pb (β 6)) 102 #[vi 0, vi 0, .slice none 0 0, vi 0] | _ => True) [0, 1, 2] [0, 1, 2] [(3, 0, 2, 5), (1, 2, 1, 2)] hst0 ?_ ?_ ?_)
  · exact fun ix _ _ _ _ _ _ hs hb hx h => match ix, h with
    | 0, h => by dsimp only at h ⊢; rw [← hs 3 rfl, ← hb 3 rfl, ← hx 0 rfl]; exact h
    | 1, h => by dsimp only at h ⊢; rw [← hs 4 rfl, ← hb 4 rfl, ← hx 1 rfl]; exact h
    | 2, h => by dsimp only at h ⊢; rw [← hs 6 rfl, ← hb 6 rfl, ← hx 2 rfl]; exact h
    | _ + 3, _ => trivial
  · refine ⟨?_, ?_, ?_, trivial⟩
    · refine sv_any rfl rfl fun ρ β W X cx => ?_
      exact dv_box (cs := #[vi k, vi l, .slice A its.length c]) rfl (cx.ou 0) rfl rfl rfl (fun σ β' X' hs hb hv hx => ⟨hv, hx⟩)
    · refine sv_any rfl rfl fun ρ β W X cx => ?_
      exact dv_box (cs := #[vi pg, vi (-1), .string ((⟨#[1]⟩ : ByteArray))]) rfl (cx.ou 1) rfl rfl rfl (fun σ β' X' hs hb hv hx => ⟨hv, hx⟩)
    · refine sv_any rfl rfl fun ρ β W X cx => ?_
      exact dv_alloc (cs := #[vi 0, vi 0, .slice none 0 0, vi 0]) rfl (by kernel_rfl) rfl rfl (fun σ β' X' hs hb hv hx => ⟨hv, hx⟩)
  intro σ β X W1 hD hst1 fr hfr
  obtain ⟨B3_1, hu_B3_1⟩ : ∃ z, pb (β 3) = z := ⟨_, rfl⟩
  obtain ⟨B4_1, hu_B4_1⟩ : ∃ z, pb (β 4) = z := ⟨_, rfl⟩
  obtain ⟨B6_1, hu_B6_1⟩ : ∃ z, pb (β 6) = z := ⟨_, rfl⟩
  simp only [exq 0 ((dTn (hD 0 lq)).2), exq 1 ((dTn (hD 1 lq)).2), exq 2 ((dTn (hD 2 lq)).2), hu_B3_1, hu_B4_1, hu_B6_1] at hst1
  simp only [ed 3 ((dTn (hD 0 lq)).1), ed 4 ((dTn (hD 1 lq)).1), ed 6 ((dTn (hD 2 lq)).1), hu_B3_1, hu_B4_1, hu_B6_1] at hfr
  clear hD hu_B3_1 hu_B4_1 hu_B6_1; subst hfr; clear σ β X
  refine then_normal (wp_seq (wp_seq (wp_region_Z [0, 1, 3] [[0]] [.c 8 (.agg #[vi k, vi l, .slice A its.length c]), .c 9 (.bool true), .k 10 (.bool false)] [0, 1, 2] [0, 1] [(8, 0, 3, 11)] hst1 ?_ fun W2 hst2 => ?_)))
  · refine ⟨?_, ?_, trivial⟩
    · exact xs4 rfl id fun cx => run_loadB (n := 3) rfl (by kernel_rfl) (by kernel_rfl) (cx.ou 3) (cx.bi 0 rfl) (nle rfl) rfl
    · exact xsc rfl id rfl rfl fun cx => ⟨_, rright_i (hA.ext cx.upd.to_ext) hr hc, (map1 (cx.an 0))⟩
  refine then_normal (wp_cond_false (show Act.eval _ _ = .bool false from rfl) (wp_skip (then_normal (wp_seq (wp_seq ?_)))))
  have hd4 : ((decide (lsn < 0)) || (decide (2147483647 < lsn))) = false := (by rw [Bool.or_eq_false_iff, decide_eq_false_iff_not, decide_eq_false_iff_not]; omega)
  refine wp_region_P [0, 1, 3, 7, 15, 31] [.k 12 (vi lsn), .k 13 (.bool (decide (lsn < 0))), .k 14 (.bool (decide (lsn < 0))), .z 15 (!(decide (lsn < 0))) (vi lsn), .z 16 (!(decide (lsn < 0))) (.bool (decide (2147483647 < lsn))), tOk' 17 (decide (lsn < 0)) (decide (2147483647 < lsn)) false hd4] [(12, 0, 6, 18)] hst2 fun W3 hst3 => ?_
  refine then_normal (wp_cond_false (show Act.eval _ _ = .bool false from rfl) (wp_skip (then_normal (wp_seq (wp_seq (wp_region_Z [0, 1, 3] [[], [1]] [.k 19 (.pointer (some ⟨B4_1, 1, none⟩)), .c 20 (vi (-1)), .k 21 (.bool true)] [0, 1, 2] [1] [(19, 0, 3, 22)] hst3 ?_ fun W5 hst5 => ?_))))))
  · refine ⟨?_, trivial⟩
    · exact xs4 rfl id fun cx => run_load1 rfl (by kernel_rfl) (cx.an 0) ((cx.bi 1 rfl).cell 1)
  refine then_normal (wp_cond_true (show Act.eval _ _ = .bool true from rfl) (wp_seq (wp_seq (wp_region_Z [0, 1, 3, 7, 15, 31, 63, 127, 255, 511] [[], [1], [], [], [], [], [1]] [.k 22 (.pointer (some ⟨B4_1, 2, none⟩)), .c 23 (.string ((⟨#[1]⟩ : ByteArray))), .k 24 (vi 1), .k 25 (.bool false), .k 26 (.bool false), .k 27 (.pointer (some ⟨B4_1, 2, none⟩)), .c 28 (.string ((⟨#[1]⟩ : ByteArray))), .c 29 (.int .u8 1), .k 30 (.bool false), .k 31 (.bool false)] [0, 1, 2] [1, 6, 7] [(22, 0, 10, 32)] hst5 ?_ fun W6 hst6 => ?_))))
  · refine ⟨?_, ?_, ?_, trivial⟩
    · exact xs4 rfl id fun cx => run_load1 rfl (by kernel_rfl) (cx.an 0) ((cx.bi 1 rfl).cell 2)
    · exact xs5 rfl id (fun cx => (cx.an 4)) fun cx => run_load1 rfl (by kernel_rfl) (cx.an 5) ((cx.bi 1 rfl).cell 2)
    · exact xs5 rfl id (fun cx => (cx.an 4)) fun cx => run_indexStr (l := [1]) (m := 0) rfl (by kernel_rfl) (cx.an 6) (cx.co _) rfl (by decide)
  refine then_normal (wp_cond_false (show Act.eval _ _ = .bool false from rfl) (wp_skip (then_normal (wp_seq (wp_region_Y [0, 1, 3, 7, 0, 31, 63, 127] [[], [1], [], [], [], [], [], [2]] [[], [], [], [], [], [], [], [3]] [[], [], [], [], [], [], [], [2]] [.k 33 (.pointer (some ⟨B4_1, 2, none⟩)), .c 34 (.string ((⟨#[1]⟩ : ByteArray))), .c 35 (.int .u8 1), tW 36 .i64 1 1 (by decide), .k 37 (vi lsn), .k 38 (.agg #[vi 1, vi lsn, .slice none 0 0]), .k 39 (.agg #[vi 1, vi lsn, .slice none 0 0, vi 0]), .n] (fun ix σ β X => match ix with | 0 => True | 1 => True | 2 => True | 3 => True | 4 => True | 5 => True | 6 => True | 7 => X 3 = eB B6_1 102 #[vi 1, vi lsn, .slice none 0 0, vi 0] | _ => True) [0, 1, 3] [1, 2, 7] [(33, 0, 7, 40)] hst6 ?_ ?_ ?_)))))
  · exact fun ix _ _ _ _ _ _ hs hb hx h => match ix, h with
    | 7, h => by dsimp only at h ⊢; rw [← hx 3 rfl]; exact h
    | 0, _ | 1, _ | 2, _ | 3, _ | 4, _ | 5, _ | 6, _ | _ + 8, _ => trivial
  · refine ⟨?_, ?_, ?_, trivial⟩
    · exact xs4 rfl id fun cx => run_load1 rfl (by kernel_rfl) (cx.an 0) ((cx.bi 1 rfl).cell 2)
    · exact xs4 rfl id fun cx => run_indexStr (l := [1]) (m := 0) rfl (by kernel_rfl) (cx.an 1) (cx.co _) rfl (by decide)
    · refine sv_any rfl rfl fun ρ β W X cx => ?_
      exact dv_store (n := 4) rfl (cx.ou 6) (cx.an 6) (by kernel_rfl) (by kernel_rfl) (by kernel_rfl) cx (cx.init 2 _ rfl) rfl (nle rfl) (by kernel_rfl) rfl rfl rfl (fun σ β' X' hs hb hx => hx)
  intro σ β X W7 hD hst7 fr hfr
  simp only [exq 3 ((dTn (hD 7 lq)))] at hst7
  clear hD; subst hfr; clear σ β X
  refine then_normal (wp_ret (then_ret ?_))
  refine bodyPost_ret (v := .agg #[vi 1, vi lsn, .slice none 0 0, vi 0]) (results_cell (n := 4) Tryd.results34 rfl (by kernel_rfl) (by kernel_rfl) (hst7.blk 2 rfl) rfl) rfl ?_
  exact ⟨none, 0, rfl, World.ownsRow_nil _ _ _ _, hst7.ext⟩
set_option maxRecDepth 100000 in
set_option maxHeartbeats 2000000 in
theorem rdo3_put (k l : Int) (A : Option Addr) (c : Nat) (its : List Itm) (pg slot : Int) (s : ByteArray) (od : Option VerD) (lsn : Int) (w : World) (hA : At w A (strs its)) (hr : rightB k l (fstI its) = true) (hc : its.length ≤ c) (hl : 0 ≤ lsn ∧ lsn ≤ 2147483647) (hs : s.size ≤ 400) (hp : putErr k l (fstI its) slot s = 0) (hn1 : slot ≠ -1) :
    Calls Tryd.prog 34 #[.agg #[.int .i64 k, .int .i64 l, .slice A its.length c], .agg #[.int .i64 pg, .int .i64 slot, .string s], .int .i64 lsn] w (GotI k lsn (putI its slot.toNat (s, od)) w) := by
  go_enter Tryd.func34, Tryd.ntmps34
  have hst0 := St.start w
  refine wp_seq (wp_region_Y [0, 0, 0] [] [[0], [1], [2]] [] [.a 3, .a 4, .a 6] (fun ix σ β X => match ix with | 0 => σ 3 = vp (pb (β 3)) ∧ X 0 = eB (pb (β 3)) 86 #[vi k, vi l, .slice A its.length c] | 1 => σ 4 = vp (pb (β 4)) ∧ X 1 = eB (pb (β 4)) 99 #[vi pg, vi slot, .string s] | 2 => σ 6 = vp (pb (β 6)) ∧ X 2 = eB (pb (β 6)) 102 #[vi 0, vi 0, .slice none 0 0, vi 0] | _ => True) [0, 1, 2] [0, 1, 2] [(3, 0, 2, 5), (1, 2, 1, 2)] hst0 ?_ ?_ ?_)
  · exact fun ix _ _ _ _ _ _ hs hb hx h => match ix, h with
    | 0, h => by dsimp only at h ⊢; rw [← hs 3 rfl, ← hb 3 rfl, ← hx 0 rfl]; exact h
    | 1, h => by dsimp only at h ⊢; rw [← hs 4 rfl, ← hb 4 rfl, ← hx 1 rfl]; exact h
    | 2, h => by dsimp only at h ⊢; rw [← hs 6 rfl, ← hb 6 rfl, ← hx 2 rfl]; exact h
    | _ + 3, _ => trivial
  · refine ⟨?_, ?_, ?_, trivial⟩
    · refine sv_any rfl rfl fun ρ β W X cx => ?_
      exact dv_box (cs := #[vi k, vi l, .slice A its.length c]) rfl (cx.ou 0) rfl rfl rfl (fun σ β' X' hs hb hv hx => ⟨hv, hx⟩)
    · refine sv_any rfl rfl fun ρ β W X cx => ?_
      exact dv_box (cs := #[vi pg, vi slot, .string s]) rfl (cx.ou 1) rfl rfl rfl (fun σ β' X' hs hb hv hx => ⟨hv, hx⟩)
    · refine sv_any rfl rfl fun ρ β W X cx => ?_
      exact dv_alloc (cs := #[vi 0, vi 0, .slice none 0 0, vi 0]) rfl (by kernel_rfl) rfl rfl (fun σ β' X' hs hb hv hx => ⟨hv, hx⟩)
  intro σ β X W1 hD hst1 fr hfr
  obtain ⟨B3_1, hu_B3_1⟩ : ∃ z, pb (β 3) = z := ⟨_, rfl⟩
  obtain ⟨B4_1, hu_B4_1⟩ : ∃ z, pb (β 4) = z := ⟨_, rfl⟩
  obtain ⟨B6_1, hu_B6_1⟩ : ∃ z, pb (β 6) = z := ⟨_, rfl⟩
  simp only [exq 0 ((dTn (hD 0 lq)).2), exq 1 ((dTn (hD 1 lq)).2), exq 2 ((dTn (hD 2 lq)).2), hu_B3_1, hu_B4_1, hu_B6_1] at hst1
  simp only [ed 3 ((dTn (hD 0 lq)).1), ed 4 ((dTn (hD 1 lq)).1), ed 6 ((dTn (hD 2 lq)).1), hu_B3_1, hu_B4_1, hu_B6_1] at hfr
  clear hD hu_B3_1 hu_B4_1 hu_B6_1; subst hfr; clear σ β X
  refine then_normal (wp_seq (wp_seq (wp_region_Z [0, 1, 3] [[0]] [.c 8 (.agg #[vi k, vi l, .slice A its.length c]), .c 9 (.bool true), .k 10 (.bool false)] [0, 1, 2] [0, 1] [(8, 0, 3, 11)] hst1 ?_ fun W2 hst2 => ?_)))
  · refine ⟨?_, ?_, trivial⟩
    · exact xs4 rfl id fun cx => run_loadB (n := 3) rfl (by kernel_rfl) (by kernel_rfl) (cx.ou 3) (cx.bi 0 rfl) (nle rfl) rfl
    · exact xsc rfl id rfl rfl fun cx => ⟨_, rright_i (hA.ext cx.upd.to_ext) hr hc, (map1 (cx.an 0))⟩
  refine then_normal (wp_cond_false (show Act.eval _ _ = .bool false from rfl) (wp_skip (then_normal (wp_seq (wp_seq ?_)))))
  have hd4 : ((decide (lsn < 0)) || (decide (2147483647 < lsn))) = false := (by rw [Bool.or_eq_false_iff, decide_eq_false_iff_not, decide_eq_false_iff_not]; omega)
  refine wp_region_P [0, 1, 3, 7, 15, 31] [.k 12 (vi lsn), .k 13 (.bool (decide (lsn < 0))), .k 14 (.bool (decide (lsn < 0))), .z 15 (!(decide (lsn < 0))) (vi lsn), .z 16 (!(decide (lsn < 0))) (.bool (decide (2147483647 < lsn))), tOk' 17 (decide (lsn < 0)) (decide (2147483647 < lsn)) false hd4] [(12, 0, 6, 18)] hst2 fun W3 hst3 => ?_
  refine then_normal (wp_cond_false (show Act.eval _ _ = .bool false from rfl) (wp_skip (then_normal (wp_seq (wp_seq ?_)))))
  have hd6 : (slot == (-1)) = false := (by simpa using hn1)
  refine wp_region_Z [0, 1, 3] [[], [1]] [.k 19 (.pointer (some ⟨B4_1, 1, none⟩)), .c 20 (vi slot), .e 21 (.bool (slot == (-1))) (.bool false) (congrArg Value.bool hd6)] [0, 1, 2] [1] [(19, 0, 3, 22)] hst3 ?_ fun W5 hst5 => ?_
  · refine ⟨?_, trivial⟩
    · exact xs4 rfl id fun cx => run_load1 rfl (by kernel_rfl) (cx.an 0) ((cx.bi 1 rfl).cell 1)
  refine then_normal (wp_cond_false (show Act.eval _ _ = .bool false from rfl) (wp_skip (then_normal (wp_seq (wp_region_Y [0, 0, 2, 0, 8, 31, 0, 127] [[0], [], [1], [], [1], [], [], [4]] [[], [], [], [], [], [3], [4], [5]] [[], [], [], [], [], [], [], [4]] [.c 40 (.agg #[vi k, vi l, .slice A its.length c]), .k 41 (.pointer (some ⟨B4_1, 1, none⟩)), .c 42 (vi slot), .k 43 (.pointer (some ⟨B4_1, 2, none⟩)), .c 44 (.string s), .a 45, .a 7, .n] (fun ix σ β X => match ix with | 0 => True | 1 => True | 2 => True | 3 => True | 4 => True | 5 => σ 45 = .agg #[vi k, vi l, .slice (sA (tg (β 45) 2)) ((putI its slot.toNat (s, od)).length) (sC (tg (β 45) 2)), vi 0] ∧ X 3 = eO 9 1 (.slice (sA (tg (β 45) 2)) ((putI its slot.toNat (s, od)).length) (sC (tg (β 45) 2))) ((putI its slot.toNat (s, od)).length) (strs (putI its slot.toNat (s, od))) | 6 => σ 7 = vp (pb (β 7)) ∧ X 4 = eB (pb (β 7)) 102 #[vi 0, vi 0, .slice none 0 0, vi 0] | 7 => X 5 = eB (pb (β 7)) 102 #[vi k, vi l, .slice (sA (tg (β 45) 2)) ((putI its slot.toNat (s, od)).length) (sC (tg (β 45) 2)), vi 0] | _ => True) [0, 1, 2, 3, 5] [0, 2, 4, 5, 6, 7] [(7, 6, 1, 8), (32, 0, 6, 38)] hst5 ?_ ?_ ?_)))))
  · exact fun ix _ _ _ _ _ _ hs hb hx h => match ix, h with
    | 5, h => by dsimp only at h ⊢; rw [← hs 45 rfl, ← hb 45 rfl, ← hx 3 rfl]; exact h
    | 6, h => by dsimp only at h ⊢; rw [← hs 7 rfl, ← hb 7 rfl, ← hx 4 rfl]; exact h
    | 7, h => by dsimp only at h ⊢; rw [← hb 7 rfl, ← hb 45 rfl, ← hx 5 rfl]; exact h
    | 0, _ | 1, _ | 2, _ | 3, _ | 4, _ | _ + 8, _ => trivial
  · refine ⟨?_, ?_, ?_, ?_, ?_, ?_, trivial⟩
    · exact xs4 rfl id fun cx => run_loadB (n := 3) rfl (by kernel_rfl) (by kernel_rfl) (cx.ou 3) (cx.bi 0 rfl) (nle rfl) rfl
    · exact xs4 rfl id fun cx => run_load1 rfl (by kernel_rfl) (cx.an 1) ((cx.bi 1 rfl).cell 1)
    · exact xs4 rfl id fun cx => run_load1 rfl (by kernel_rfl) (cx.an 3) ((cx.bi 1 rfl).cell 2)
    · refine sv_any rfl rfl fun ρ β W X cx => ?_
      refine DoesU.call (run_callF (args := #[.agg #[vi k, vi l, .slice A its.length c], vi slot, .string s]) rfl cx.sees rfl (by kernel_rfl) (map3 (cx.an 0) (cx.an 2) (cx.an 4))) ?_
      refine (rput_i (i := (s, od)) (hA.ext cx.upd.to_ext) hr hc hs hp).mono ?_
      rintro e W1 ⟨A4, c4, rfl, ho, hx⟩
      refine ⟨_, rfl, post_call [eO 9 1 (.slice A4 (putI its slot.toNat (s, od)).length c4) (putI its slot.toNat (s, od)).length (strs (putI its slot.toNat (s, od)))] rfl rfl hx (one_new (eO_new ho)) (List.pairwise_singleton _ _) (fun σ β' X' hs hb hv hN => ?_)⟩
      have hv1 := (hv 45 rfl).1; have hv2 := (hv 45 rfl).2
      exact ⟨hv1.trans (by rw [hv2]; rfl), (by rw [hv2]; exact (List.cons.inj hN).1)⟩
    · refine sv_any rfl rfl fun ρ β W X cx => ?_
      exact dv_alloc (cs := #[vi 0, vi 0, .slice none 0 0, vi 0]) rfl (by kernel_rfl) rfl rfl (fun σ β' X' hs hb hv hx => ⟨hv, hx⟩)
    · refine sv_any rfl rfl fun ρ β W X cx => ?_
      exact dv_store (n := 4) rfl (dTn (cx.an 6)).1 (dTn (cx.an 5)).1 (by kernel_rfl) (by kernel_rfl) (by kernel_rfl) cx (dTn (cx.an 6)).2 rfl (nle rfl) (by kernel_rfl) rfl rfl rfl (fun σ β' X' hs hb hx => by rw [hb 7, hb 45]; exact hx)
  intro σ β X W7 hD hst7 fr hfr
  obtain ⟨A45_7, hu_A45_7⟩ : ∃ z, sA (tg (β 45) 2) = z := ⟨_, rfl⟩
  obtain ⟨c45_7, hu_c45_7⟩ : ∃ z, sC (tg (β 45) 2) = z := ⟨_, rfl⟩
  obtain ⟨B7_7, hu_B7_7⟩ : ∃ z, pb (β 7) = z := ⟨_, rfl⟩
  simp only [exq 3 ((dTn (hD 5 lq)).2), exq 5 ((dTn (hD 7 lq))), hu_A45_7, hu_c45_7, hu_B7_7] at hst7
  simp only [ed 45 ((dTn (hD 5 lq)).1), ed 7 ((dTn (hD 6 lq)).1), hu_A45_7, hu_c45_7, hu_B7_7] at hfr
  clear hD hu_A45_7 hu_c45_7 hu_B7_7; subst hfr; clear σ β X
  refine then_normal (wp_seq (wp_seq (wp_region_Z [0, 1, 3] [[], [4]] [.k 46 (.pointer (some ⟨B7_7, 3, none⟩)), .c 47 (vi 0), .k 48 (.bool true)] [0, 1, 2, 3, 4] [1] [(46, 0, 3, 49)] hst7 ?_ fun W8 hst8 => ?_)))
  · refine ⟨?_, trivial⟩
    · exact xs4 rfl id fun cx => run_load1 rfl (by kernel_rfl) (cx.an 0) ((cx.bi 4 rfl).cell 3)
  refine then_normal (wp_cond_true (show Act.eval _ _ = .bool true from rfl) (wp_region_Y [0, 1, 3, 7] [[], [], [], [4]] [[], [], [], [5]] [[], [], [], [4]] [.k 49 (vi lsn), .k 50 (vp B7_7), .k 51 (.pointer (some ⟨B7_7, 1, none⟩)), .n] (fun ix σ β X => match ix with | 0 => True | 1 => True | 2 => True | 3 => X 5 = eB B7_7 102 #[vi k, vi lsn, .slice A45_7 ((putI its slot.toNat (s, od)).length) c45_7, vi 0] | _ => True) [0, 1, 2, 3, 5] [3] [(49, 0, 3, 52)] hst8 ?_ ?_ ?_))
  · exact fun ix _ _ _ _ _ _ hs hb hx h => match ix, h with
    | 3, h => by dsimp only at h ⊢; rw [← hx 5 rfl]; exact h
    | 0, _ | 1, _ | 2, _ | _ + 4, _ => trivial
  · refine ⟨?_, trivial⟩
    · refine sv_any rfl rfl fun ρ β W X cx => ?_
      exact dv_store (n := 1) rfl (cx.an 2) (cx.an 0) (by kernel_rfl) (by kernel_rfl) (by kernel_rfl) cx (cx.init 4 _ rfl) rfl (nle rfl) (by kernel_rfl) rfl rfl rfl (fun σ β' X' hs hb hx => hx)
  intro σ β X W9 hD hst9 fr hfr
  simp only [exq 5 ((dTn (hD 3 lq)))] at hst9
  clear hD; subst hfr; clear σ β X
  refine then_normal (wp_seq (wp_region_Y [0, 1] [[4], [2]] [[], [5]] [[], [2]] [.c 52 (.agg #[vi k, vi lsn, .slice A45_7 ((putI its slot.toNat (s, od)).length) c45_7, vi 0]), .n] (fun ix σ β X => match ix with | 0 => True | 1 => X 5 = eB B6_1 102 #[vi k, vi lsn, .slice A45_7 ((putI its slot.toNat (s, od)).length) c45_7, vi 0] | _ => True) [0, 1, 3, 4, 5] [0, 1] [(52, 0, 1, 53)] hst9 ?_ ?_ ?_))
  · exact fun ix _ _ _ _ _ _ hs hb hx h => match ix, h with
    | 1, h => by dsimp only at h ⊢; rw [← hx 5 rfl]; exact h
    | 0, _ | _ + 2, _ => trivial
  · refine ⟨?_, ?_, trivial⟩
    · exact xs4 rfl id fun cx => run_loadB (n := 4) rfl (by kernel_rfl) (by kernel_rfl) (cx.ou 7) (cx.bi 4 rfl) (nle rfl) rfl
    · refine sv_any rfl rfl fun ρ β W X cx => ?_
      exact dv_store (n := 4) rfl (cx.ou 6) (cx.an 0) (by kernel_rfl) (by kernel_rfl) (by kernel_rfl) cx (cx.init 2 _ rfl) rfl (nle rfl) (by kernel_rfl) rfl rfl rfl (fun σ β' X' hs hb hx => hx)
  intro σ β X W10 hD hst10 fr hfr
  simp only [exq 5 ((dTn (hD 1 lq)))] at hst10
  clear hD; subst hfr; clear σ β X
  refine then_normal (wp_ret ?_)
  refine bodyPost_ret (v := .agg #[vi k, vi lsn, .slice A45_7 ((putI its slot.toNat (s, od)).length) c45_7, vi 0]) (results_cell (n := 4) Tryd.results34 rfl (by kernel_rfl) (by kernel_rfl) (hst10.blk 4 rfl) rfl) rfl ?_
  exact ⟨_, _, rfl, hst10.own' 2 rfl, hst10.ext⟩
end
end Go.Proofs.YtjnplglnnamfdaaDoor
namespace Go.Proofs.YtjnplglnnamfdaaDoor
section
open Go.RowKit Go.Maps Go.ChangeMaps
set_option linter.unusedVariables false
set_option linter.unusedSimpArgs false
/-- how an element lies in a map and how it reads -/
structure Cod (E : Type) where
  enc : E → Value
  dat : E → DataW Unit
  R : Value → Option (DataW Unit × List MemPlace)
  e0 : E
  read : ∀ e, R (enc e) = some (dat e, [])
  back : ∀ v d ps e, R v = some (d, ps) → d = dat e → v = enc e
section
variable {E : Type} {C : Cod E}
variable {P : Program} {o : Oper} {ρ : Operand → Value} {W : World} {k e b n : Nat} {m : Int → Option E}
end
section
variable {E : Type} {C : Cod E} {P : Program} {ops : Array Oper} {L : List Nat} {a0 : Act} {w0 : World} {bor : List Nat} {X0 : List Ent} {us cr kl : List (List Nat)}
  {D : Nat → (Tmp → Value) → (Tmp → Value) → (Nat → Ent) → Prop} {i : Nat} {o : Oper} {ρ : Operand → Value} {β : Tmp → Value} {W : World} {X : Nat → Ent}
end
theorem CtxV.holdE {ops : Array Oper} {L : List Nat} {a0 : Act} {w0 : World} {bor : List Nat} {X0 : List Ent} {us : List (List Nat)} {D : Nat → (Tmp → Value) → (Tmp → Value) → (Nat → Ent) → Prop} {i : Nat} {ρ : Operand → Value} {β : Tmp → Value} {W : World} {X : Nat → Ent} {q : Nat} {E : Ent} (cx : CtxV ops L a0 w0 bor X0 us D i ρ β W X) (hX : X q = E) (hu : (atV us i).contains q = true) : E.holds W := by
  have h := (cx.ok q hu).holds
  rw [hX] at h; exact h
end
end Go.Proofs.YtjnplglnnamfdaaDoor
namespace Go.Proofs.YtjnplglnnamfdaaDoor
section
open Go.RowKit
set_option linter.unusedVariables false
set_option linter.unusedSimpArgs false
theorem rdo3_kind' {k l : Int} {A : Option Addr} {c : Nat} {its : List Itm} {pg slot lsn : Int} {s : ByteArray} {w : World} (h1 : slot = -1) (h2 : s = (⟨#[1]⟩ : ByteArray)) (hA : At w A (strs its)) (hr : rightB k l (fstI its) = true) (hc : its.length ≤ c) (hl : 0 ≤ lsn ∧ lsn ≤ 2147483647) :
    Calls Tryd.prog 34 #[.agg #[.int .i64 k, .int .i64 l, .slice A its.length c], .agg #[.int .i64 pg, .int .i64 slot, .string s], .int .i64 lsn] w (GotI 1 lsn [] w) := by
  subst h1 h2
  exact rdo3_kind k l A c its pg lsn w hA hr hc hl
theorem do1_cases {lsn : Int} {p p' : PgI} {e : EdI} (h : do1 lsn p e = some p') : (e.2.1 = -1 ∧ e.2.2.1 = (⟨#[1]⟩ : ByteArray) ∧ p' = (1, lsn, [])) ∨ (e.2.1 ≠ -1 ∧ putErr p.1 p.2.1 (fstI p.2.2) e.2.1 e.2.2.1 = 0 ∧ p' = (p.1, lsn, putI p.2.2 e.2.1.toNat e.2.2)) := by
  rw [do1] at h
  split at h
  · rename_i h1
    split at h
    · rename_i h2
      exact .inl ⟨h1, h2, (Option.some.inj h).symm⟩
    · cases h
  · rename_i h1
    split at h
    · rename_i h2
      exact .inr ⟨h1, h2, (Option.some.inj h).symm⟩
    · cases h
theorem pgC_flat (Ps : List PgD) : (Ps.flatMap pgC).length = Ps.length * 3 := by
  induction Ps with
  | nil => rfl
  | cons p Ps ih => rw [List.flatMap_cons, List.length_append, ih, pgC_len, List.length_cons]; omega
theorem pgC_one (Ps : List PgD) : ∀ u ∈ Ps.flatMap pgC, Value.oneCell' u = true := fun u hu => by
  obtain ⟨p, _, hp⟩ := List.mem_flatMap.1 hu
  simp only [pgC, List.mem_cons, List.not_mem_nil, or_false] at hp
  rcases hp with rfl | rfl | rfl <;> rfl
theorem mem_getD {T : Type} {l : List T} {n : Nat} {d p : T} (h : n < l.length) (hp : l.getD n d = p) : l[n]? = some p ∧ p ∈ l := by
  rw [← hp, List.getD_eq_getElem?_getD, List.getElem?_eq_getElem h]
  exact ⟨rfl, List.getElem_mem _⟩
theorem pgm_its {Ps Cs Qs : List PgD} {W : World} {A0 : Option Addr} (hP : PgsAt W A0 Ps) (hQ : (ePs Qs).holds W) (hC : ∀ p ∈ Cs, p ∈ Ps ∨ p ∈ Qs) {p : PgD} (hm : p ∈ Cs) : At W p.A (strs p.its) := by
  rcases hC _ hm with h | h
  · exact (hP.its _ h).1
  · exact (ePs_at hQ _ h).1
theorem pgm_cap {Ps Cs Qs : List PgD} {W : World} {A0 : Option Addr} (hP : PgsAt W A0 Ps) (hQ : (ePs Qs).holds W) (hC : ∀ p ∈ Cs, p ∈ Ps ∨ p ∈ Qs) {p : PgD} (hm : p ∈ Cs) : p.its.length ≤ p.c := by
  rcases hC _ hm with h | h
  · exact (hP.its _ h).2.2.1
  · exact (ePs_at hQ _ h).2
set_option maxRecDepth 100000 in
set_option maxHeartbeats 8000000 in
theorem rdo9_any (pa : Addr) (pc : Nat) (Ps : List PgD) (LA : Option Addr) (lc : Nat) (es : List EdI) (lsn : Int) (H' : List PgI) (w : World) (hP : PgsAt w (some pa) Ps) (hL : At w LA (es.flatMap cellsI)) (hel : es.length ≤ 100000) (hed : ∀ e ∈ es, Desc e.2.2.1 e.2.2.2) (hl : 0 ≤ lsn ∧ lsn ≤ 2147483647) (hok : okH (Ps.map absP)) (hdo : doL lsn (Ps.map absP) es = some H') :
    Calls Tryd.prog 10 #[.agg #[.slice ((some pa)) Ps.length pc], .slice LA es.length lc, .int .i64 lsn] w (DoPost Ps H' Ps.length w) := by
  have hPl := hP.len
  go_enter Tryd.func10, Tryd.ntmps10
  have hst0 := St.start w
  refine wp_seq (wp_region_Y [0, 0, 0] [] [[0], [1]] [] [.a 3, .a 6, .k 7 (.bool false)] (fun ix σ β X => match ix with | 0 => σ 3 = vp (pb (β 3)) ∧ X 0 = eB (pb (β 3)) 30 #[.slice ((some pa)) Ps.length pc] | 1 => σ 6 = vp (pb (β 6)) ∧ X 1 = eB (pb (β 6)) 30 #[.slice none 0 0] | _ => True) [0, 1] [0, 1] [(3, 0, 1, 4), (2, 1, 2, 4)] hst0 ?_ ?_ ?_)
  · exact fun ix _ _ _ _ _ _ hs hb hx h => match ix, h with
    | 0, h => by dsimp only at h ⊢; rw [← hs 3 rfl, ← hb 3 rfl, ← hx 0 rfl]; exact h
    | 1, h => by dsimp only at h ⊢; rw [← hs 6 rfl, ← hb 6 rfl, ← hx 1 rfl]; exact h
    | _ + 2, _ => trivial
  · refine ⟨?_, ?_, trivial⟩
    · refine sv_any rfl rfl fun ρ β W X cx => ?_
      exact dv_box (cs := #[.slice ((some pa)) Ps.length pc]) rfl (cx.ou 0) rfl rfl rfl (fun σ β' X' hs hb hv hx => ⟨hv, hx⟩)
    · refine sv_any rfl rfl fun ρ β W X cx => ?_
      exact dv_alloc (cs := #[.slice none 0 0]) rfl (by kernel_rfl) rfl rfl (fun σ β' X' hs hb hv hx => ⟨hv, hx⟩)
  intro σ β X W1 hD hst1 fr hfr
  obtain ⟨B3_1, hu_B3_1⟩ : ∃ z, pb (β 3) = z := ⟨_, rfl⟩
  obtain ⟨B6_1, hu_B6_1⟩ : ∃ z, pb (β 6) = z := ⟨_, rfl⟩
  simp only [exq 0 ((dTn (hD 0 lq)).2), exq 1 ((dTn (hD 1 lq)).2), hu_B3_1, hu_B6_1] at hst1
  simp only [ed 3 ((dTn (hD 0 lq)).1), ed 6 ((dTn (hD 1 lq)).1), hu_B3_1, hu_B6_1] at hfr
  clear hD hu_B3_1 hu_B6_1; subst hfr; clear σ β X
  refine then_normal (wp_seq (wp_region_Y [0, 0, 2, 7, 15, 0, 63] [[], [], [0], [2], [], [], [4]] [[2], [], [], [3], [], [4], [5]] [[], [], [], [2], [], [], [4]] [.a 11, .k 12 (vp B3_1), .c 13 (.slice ((some pa)) Ps.length pc), .a 14, .a 15, .a 8, .n] (fun ix σ β X => match ix with | 0 => σ 11 = .slice ((some ⟨(pb' (β 11)), 0, none⟩)) 0 0 ∧ X 2 = eO 86 3 (.slice ((some ⟨(pb' (β 11)), 0, none⟩)) 0 0) 0 ([]) | 1 => True | 2 => True | 3 => σ 14 = .slice (sA (β 14)) Ps.length (sC (β 14)) ∧ X 3 = eO 86 3 (.slice (sA (β 14)) Ps.length (sC (β 14))) Ps.length (Ps.flatMap pgC) | 4 => σ 15 = .agg #[.slice (sA (β 14)) Ps.length (sC (β 14))] | 5 => σ 8 = vp (pb (β 8)) ∧ X 4 = eB (pb (β 8)) 30 #[.slice none 0 0] | 6 => X 5 = eB (pb (β 8)) 30 #[.slice (sA (β 14)) Ps.length (sC (β 14))] | _ => True) [0, 1, 3, 5] [0, 2, 3, 4, 5, 6] [(8, 5, 1, 9), (2, 0, 5, 7)] hst1 ?_ ?_ ?_))
  · exact fun ix _ _ _ _ _ _ hs hb hx h => match ix, h with
    | 0, h => by dsimp only at h ⊢; rw [← hs 11 rfl, ← hb 11 rfl, ← hx 2 rfl]; exact h
    | 3, h => by dsimp only at h ⊢; rw [← hs 14 rfl, ← hb 14 rfl, ← hx 3 rfl]; exact h
    | 4, h => by dsimp only at h ⊢; rw [← hs 15 rfl, ← hb 14 rfl]; exact h
    | 5, h => by dsimp only at h ⊢; rw [← hs 8 rfl, ← hb 8 rfl, ← hx 4 rfl]; exact h
    | 6, h => by dsimp only at h ⊢; rw [← hb 8 rfl, ← hb 14 rfl, ← hx 5 rfl]; exact h
    | 1, _ | 2, _ | _ + 7, _ => trivial
  · refine ⟨?_, ?_, ?_, ?_, ?_, ?_, trivial⟩
    · refine sv_any rfl rfl fun ρ β W X cx => ?_
      exact dv_litN (e := 86) (sz := 3) (xs := []) rfl (by simp [go_sem]) rfl (by decide) rfl rfl (fun σ β' X' hs hb hv hx => ⟨hv, hx⟩)
    · exact xs4 rfl id fun cx => run_load1 rfl (by kernel_rfl) (cx.an 1) ((cx.bi 0 rfl).cell 0)
    · refine sv_any rfl rfl fun ρ β W X cx => ?_
      obtain ⟨i0, hi0, hz0, hz1, hz2⟩ := info_parts Tryd.infoPage
      refine dv_appendN (n := 0) (m := Ps.length) (nm := Ps.length) (sz := 3) (xs := []) (news := Ps.flatMap pgC) (xs' := Ps.flatMap pgC) rfl (ty := 28) rfl (by kernel_rfl) hi0 hz0 hz1 hz2 rfl (by decide) (dTn (cx.an 0)).1 cx (dTn (cx.an 0)).2 rfl (cx.an 2) (pgC_flat _) (hP.at_.ext cx.upd.to_ext) (pgC_one _) (by simp only [maxLen]; omega) (by omega) rfl rfl rfl (by omega) (rfl) (fun σ β' X' hs hb hv hx => ?_)
      exact ⟨hv, hx⟩
    · exact sv rfl rfl rfl rfl rfl _ (fun _ _ _ h => h) (fun β β' h => by rw [h 14 (by decide)]) fun ρ β W X cx => run_buildL rfl (pmc (dTn (cx.an 3)).1 pmn) (by kernel_rfl)
    · refine sv_any rfl rfl fun ρ β W X cx => ?_
      exact dv_alloc (cs := #[.slice none 0 0]) rfl (by kernel_rfl) rfl rfl (fun σ β' X' hs hb hv hx => ⟨hv, hx⟩)
    · refine sv_any rfl rfl fun ρ β W X cx => ?_
      exact dv_store (n := 1) rfl (dTn (cx.an 5)).1 (dTn (cx.an 4)) (by kernel_rfl) (by kernel_rfl) (by kernel_rfl) cx (dTn (cx.an 5)).2 rfl (nle rfl) (by kernel_rfl) rfl rfl rfl (fun σ β' X' hs hb hx => by rw [hb 8, hb 14]; exact hx)
  intro σ β X W2 hD hst2 fr hfr
  obtain ⟨B11_2, hu_B11_2⟩ : ∃ z, pb' (β 11) = z := ⟨_, rfl⟩
  obtain ⟨A14_2, hu_A14_2⟩ : ∃ z, sA (β 14) = z := ⟨_, rfl⟩
  obtain ⟨c14_2, hu_c14_2⟩ : ∃ z, sC (β 14) = z := ⟨_, rfl⟩
  obtain ⟨B8_2, hu_B8_2⟩ : ∃ z, pb (β 8) = z := ⟨_, rfl⟩
  simp only [exq 3 ((dTn (hD 3 lq)).2), exq 5 ((dTn (hD 6 lq))), hu_B11_2, hu_A14_2, hu_c14_2, hu_B8_2] at hst2
  simp only [ed 11 ((dTn (hD 0 lq)).1), ed 14 ((dTn (hD 3 lq)).1), ed 15 ((dTn (hD 4 lq))), ed 8 ((dTn (hD 5 lq)).1), hu_B11_2, hu_A14_2, hu_c14_2, hu_B8_2] at hfr
  clear hD hu_B11_2 hu_A14_2 hu_c14_2 hu_B8_2; subst hfr; clear σ β X
  refine then_normal (wp_seq (wp_seq (wp_region_P [0] [.k 9 (vi 0)] [(9, 0, 1, 10)] hst2 fun W3 hst3 => ?_)))
  refine then_normal (wp_block ?_)
  have hn_4 : St _ _ (_ ++ [ePs []]) _ := St.emNil hst3
  refine wp_loopN (fun mz az W => ∃ j : Nat, ∃ Cs : List PgD, ∃ Qs : List PgD, ∃ OA : Option Addr, ∃ OC : Nat, ∃ u5_ : List Value, j ≤ es.length ∧ Cs.length = Ps.length ∧ (∀ p ∈ Cs, p ∈ Ps ∨ p ∈ Qs) ∧ doL lsn (Cs.map absP) (es.drop j) = some H' ∧ okH (Cs.map absP) ∧ mz = es.length - j ∧ az = ⟨#[.agg #[.slice ((some pa)) Ps.length pc], .slice LA es.length lc, vi lsn, vp B3_1, undef, undef, vp B6_1, (gu u5_ 0), vp B8_2, vi ((j : Int)), (gu u5_ 1), .slice ((some ⟨B11_2, 0, none⟩)) 0 0, vp B3_1, .slice ((some pa)) Ps.length pc, .slice A14_2 Ps.length c14_2, .agg #[.slice A14_2 Ps.length c14_2], (gu u5_ 2), (gu u5_ 3), (gu u5_ 4), (gu u5_ 5), (gu u5_ 6), (gu u5_ 7), (gu u5_ 8), (gu u5_ 9), (gu u5_ 10), (gu u5_ 11), (gu u5_ 12), (gu u5_ 13), (gu u5_ 14), (gu u5_ 15), (gu u5_ 16), (gu u5_ 17), (gu u5_ 18), (gu u5_ 19), (gu u5_ 20), (gu u5_ 21), (gu u5_ 22), (gu u5_ 23), (gu u5_ 24), (gu u5_ 25), (gu u5_ 26), (gu u5_ 27), (gu u5_ 28), (gu u5_ 29), (gu u5_ 30), (gu u5_ 31), (gu u5_ 32), (gu u5_ 33), (gu u5_ 34), (gu u5_ 35), (gu u5_ 36), (gu u5_ 37), (gu u5_ 38), (gu u5_ 39), (gu u5_ 40), (gu u5_ 41), (gu u5_ 42), (gu u5_ 43), (gu u5_ 44), (gu u5_ 45), (gu u5_ 46), (gu u5_ 47), (gu u5_ 48), (gu u5_ 49), (gu u5_ 50), (gu u5_ 51), (gu u5_ 52), (gu u5_ 53), (gu u5_ 54), undef], []⟩ ∧ St w [] [eB B3_1 30 #[.slice ((some pa)) Ps.length pc], eB B6_1 30 #[.slice none 0 0], eB B8_2 30 #[.slice OA Ps.length OC], eO 86 3 (.slice OA Ps.length OC) Ps.length (Cs.flatMap pgC), ePs Qs] W) (es.length - 0) ?_ ?_
  · -- the loop begins
    have hp6 := hn_4.pick [0, 1, 3, 2, 4] (by decide) rfl
    exact ⟨0, Ps, [], A14_2, c14_2, [.bool false, undef, undef, undef, undef, undef, undef, undef, undef, undef, undef, undef, undef, undef, undef, undef, undef, undef, undef, undef, undef, undef, undef, undef, undef, undef, undef, undef, undef, undef, undef, undef, undef, undef, undef, undef, undef, undef, undef, undef, undef, undef, undef, undef, undef, undef, undef, undef, undef, undef, undef, undef, undef, undef, undef], Nat.zero_le _, rfl, fun p hp => .inl hp, hdo, hok, rfl, rfl, hp6⟩
  rintro n5 a5 W5 ⟨j, Cs, Qs, OA, OC, u5_, hj, hCl, hCs, hdj, hokC, rfl, rfl, hst5⟩
  refine wp_seq (wp_seq (wp_region_P [0, 0, 2, 7] [.k 16 (vi ((j : Int))), .k 17 (.slice LA es.length lc), .k 18 (vi ((es.length : Int))), .k 19 (.bool (decide ((j : Int) < (es.length : Int))))] [(16, 0, 4, 20)] hst5 fun W7 hst7 => ?_))
  refine then_normal ?_
  rcases Bool.eq_false_or_eq_true (decide ((j : Int) < (es.length : Int))) with hs8 | hs8
  · skip
    have hs8p : (j : Int) < (es.length : Int) := by simpa using hs8
    refine wp_cond_true (show Act.eval _ _ = .bool true from (congrArg Value.bool hs8)) (wp_skip (then_normal (wp_seq (wp_block (wp_seq (wp_seq ?_))))))
    obtain ⟨hN5, p5, hd5, hr5⟩ := doL_step (by omega) hdj
    obtain ⟨dd, hN_dd⟩ : ∃ z, es.getD j ei0 = z := ⟨_, rfl⟩
    rw [hN_dd] at hN5 hd5 hr5
    rw [List.length_map, hCl] at hN5
    have hmdd := mem_getD (by omega) hN_dd
    obtain ⟨pg, hN_pg⟩ : ∃ z, Cs.getD (dd.1).toNat p0 = z := ⟨_, rfl⟩
    have hmpg := mem_getD (by omega) hN_pg
    rw [absP_get, hN_pg] at hd5
    have hpok : okP (absP pg) := hokC _ (List.mem_map.2 ⟨_, hmpg.2, rfl⟩)
    have hdes := hed _ hmdd.2
    have h5ok := hpok.do hl hdes hd5
    have hdle := hdes.le
    have hd10 : ((decide (dd.1 < 0)) || (decide ((Ps.length : Int) ≤ dd.1))) = false := (by rw [Bool.or_eq_false_iff, decide_eq_false_iff_not, decide_eq_false_iff_not]; omega)
    refine wp_region_Z [0, 0, 3, 7, 15, 31, 63, 127, 127, 511, 1023, 2047, 127, 4223, 12415, 32767, 65535] [[], [], [], [], [], [], [], [], [], [], [], [], [], [2]] [.k 22 (.slice LA es.length lc), .k 23 (vi ((j : Int))), .c 24 (.pointer (some ((ad LA).add (j * 3)))), .c 25 (.pointer (some ((ad LA).add (j * 3 + 0)))), .c 26 (vi dd.1), .k 27 (.bool (decide (dd.1 < 0))), .k 28 (.bool (decide (dd.1 < 0))), .z 29 (!(decide (dd.1 < 0))) (.slice LA es.length lc), .z 30 (!(decide (dd.1 < 0))) (vi ((j : Int))), .y 31 (!(decide (dd.1 < 0))) (.pointer (some ((ad LA).add (j * 3)))), .y 32 (!(decide (dd.1 < 0))) (.pointer (some ((ad LA).add (j * 3 + 0)))), .y 33 (!(decide (dd.1 < 0))) (vi dd.1), .z 34 (!(decide (dd.1 < 0))) (vp B8_2), .y 35 (!(decide (dd.1 < 0))) (.slice OA Ps.length OC), .z 36 (!(decide (dd.1 < 0))) (vi ((Ps.length : Int))), .z 37 (!(decide (dd.1 < 0))) (.bool (decide ((Ps.length : Int) ≤ dd.1))), tOk' 38 (decide (dd.1 < 0)) (decide ((Ps.length : Int) ≤ dd.1)) false hd10] [0, 1, 2, 3, 4] [2, 3, 4, 9, 10, 11, 13] [(22, 0, 17, 39)] hst7 ?_ fun W9 hst9 => ?_
    · refine ⟨?_, ?_, ?_, ?_, ?_, ?_, ?_, trivial⟩
      · exact xs4 rfl id fun cx => run_indexSlM (e := 99) (m := j) (sz := 3) rfl (by kernel_rfl) (by kernel_rfl) (cx.an 0) (cx.an 1) (by omega) (by omega) (hL.ext cx.upd.to_ext) (by have h_ := flatLen (f := cellsI) (sz := 3) cellsI_len es; show 0 < (List.flatMap cellsI es).length; omega)
      · exact xs4 rfl id fun cx => run_fieldAd rfl (by kernel_rfl) (cx.an 2)
      · exact xs4 rfl id fun cx => run_load1 rfl (by kernel_rfl) (cx.an 3) (At.eltc (f := cellsI) (k := 0) cellsI_len (hL.ext cx.upd.to_ext) hmdd.1 rfl)
      · exact m2 rfl (fun _ _ _ h => h) (fun cx => (cx.an 6)) fun cx hq => run_indexSlM (e := 99) (m := j) (sz := 3) rfl (by kernel_rfl) (by kernel_rfl) (mbv (cx.an 7) hq) (mbv (cx.an 8) hq) (by have hq_ := hq; simp only [zB] at hq_; omega) (by have hq_ := hq; simp only [zB] at hq_; omega) (hL.ext cx.upd.to_ext) (by have h_ := flatLen (f := cellsI) (sz := 3) cellsI_len es; show 0 < (List.flatMap cellsI es).length; omega)
      · exact m2 rfl (fun _ _ _ h => h) (fun cx => (cx.an 6)) fun cx hq => run_fieldAd rfl (by kernel_rfl) (mbv (cx.an 9) hq)
      · exact m2 rfl (fun _ _ _ h => h) (fun cx => (cx.an 6)) fun cx hq => run_load1 rfl (by kernel_rfl) (mbv (cx.an 10) hq) (At.eltc (f := cellsI) (k := 0) cellsI_len (hL.ext cx.upd.to_ext) hmdd.1 rfl)
      · exact m2 rfl (fun _ _ _ h => h) (fun cx => (cx.an 6)) fun cx hq => run_load1 rfl (by kernel_rfl) (mbv (cx.an 12) hq) ((cx.bi 2 rfl).cell 0)
    refine then_normal (wp_cond_false (show Act.eval _ _ = .bool false from rfl) (wp_skip (then_normal (wp_seq ?_))))
    rcases do1_cases hd5 with ⟨hs1, hs2, rfl⟩ | ⟨hs1, hs2, rfl⟩
    · skip
      refine wp_region_Y [0, 1, 0, 0, 12, 28, 60, 127, 255, 0, 0, 1536, 3584, 0, 16383, 0, 65535] [[], [2], [], [], [], [], [], [3], [3], [], [], [], [], [], [4], [], [6]] [[], [], [], [], [], [], [], [], [], [], [], [], [], [], [5], [6], [7]] [[], [], [], [], [], [], [], [], [], [], [], [], [], [], [], [], [6]] [.k 40 (vp B8_2), .c 41 (.slice OA Ps.length OC), .k 42 (.slice LA es.length lc), .k 43 (vi ((j : Int))), .c 44 (.pointer (some ((ad LA).add (j * 3)))), .c 45 (.pointer (some ((ad LA).add (j * 3 + 0)))), .c 46 (vi dd.1), .c 47 (.pointer (some ((ad OA).add (((dd.1).toNat) * 3)))), .c 48 (.agg #[vi pg.k, vi pg.l, .slice pg.A pg.its.length pg.c]), .k 49 (.slice LA es.length lc), .k 50 (vi ((j : Int))), .c 51 (.pointer (some ((ad LA).add (j * 3)))), .c 52 (.agg #[vi dd.1, vi dd.2.1, .string dd.2.2.1]), .k 53 (vi lsn), .a 54, .a 10, .n] (fun ix σ β X => match ix with | 0 => True | 1 => True | 2 => True | 3 => True | 4 => True | 5 => True | 6 => True | 7 => True | 8 => True | 9 => True | 10 => True | 11 => True | 12 => True | 13 => True | 14 => σ 54 = .agg #[vi 1, vi lsn, .slice (sA (tg (β 54) 2)) (([] : List Itm).length) (sC (tg (β 54) 2)), vi 0] ∧ X 5 = eO 9 1 (.slice (sA (tg (β 54) 2)) (([] : List Itm).length) (sC (tg (β 54) 2))) (([] : List Itm).length) (strs ([] : List Itm)) | 15 => σ 10 = vp (pb (β 10)) ∧ X 6 = eB (pb (β 10)) 102 #[vi 0, vi 0, .slice none 0 0, vi 0] | 16 => X 7 = eB (pb (β 10)) 102 #[vi 1, vi lsn, .slice (sA (tg (β 54) 2)) (([] : List Itm).length) (sC (tg (β 54) 2)), vi 0] | _ => True) [0, 1, 2, 3, 4, 5, 7] [1, 4, 5, 6, 7, 8, 11, 12, 14, 15, 16] [(10, 15, 1, 11), (29, 0, 15, 44)] hst9 ?_ ?_ ?_
      · exact fun ix _ _ _ _ _ _ hs hb hx h => match ix, h with
        | 14, h => by dsimp only at h ⊢; rw [← hs 54 rfl, ← hb 54 rfl, ← hx 5 rfl]; exact h
        | 15, h => by dsimp only at h ⊢; rw [← hs 10 rfl, ← hb 10 rfl, ← hx 6 rfl]; exact h
        | 16, h => by dsimp only at h ⊢; rw [← hb 10 rfl, ← hb 54 rfl, ← hx 7 rfl]; exact h
        | 0, _ | 1, _ | 2, _ | 3, _ | 4, _ | 5, _ | 6, _ | 7, _ | 8, _ | 9, _ | 10, _ | 11, _ | 12, _ | 13, _ | _ + 17, _ => trivial
      · refine ⟨?_, ?_, ?_, ?_, ?_, ?_, ?_, ?_, ?_, ?_, ?_, trivial⟩
        · exact xs4 rfl id fun cx => run_load1 rfl (by kernel_rfl) (cx.an 0) ((cx.bi 2 rfl).cell 0)
        · exact xs4 rfl id fun cx => run_indexSlM (e := 99) (m := j) (sz := 3) rfl (by kernel_rfl) (by kernel_rfl) (cx.an 2) (cx.an 3) (by omega) (by omega) (hL.ext cx.upd.to_ext) (by have h_ := flatLen (f := cellsI) (sz := 3) cellsI_len es; show 0 < (List.flatMap cellsI es).length; omega)
        · exact xs4 rfl id fun cx => run_fieldAd rfl (by kernel_rfl) (cx.an 4)
        · exact xs4 rfl id fun cx => run_load1 rfl (by kernel_rfl) (cx.an 5) (At.eltc (f := cellsI) (k := 0) cellsI_len (hL.ext cx.upd.to_ext) hmdd.1 rfl)
        · exact xs4 rfl id fun cx => run_indexSlM (e := 86) (m := (dd.1).toNat) (sz := 3) rfl (by kernel_rfl) (by kernel_rfl) (cx.an 1) (cx.an 6) (by omega) (by omega) (At.of_ownN (cx.ri 3 rfl)) (by have h_ := flatLen (f := pgC) (sz := 3) pgC_len Cs; show 0 < (List.flatMap pgC Cs).length; omega)
        · exact xs4 rfl id fun cx => run_loadElt (f := pgC) (m := ((dd.1).toNat)) (sz := 3) (off := 0) (n := 3) rfl (by kernel_rfl) (by kernel_rfl) (cx.an 7) rfl pgC_len (At.of_ownN (cx.ri 3 rfl)) hmpg.1 (fun k hk => match k, hk with | 0, _ => rfl | 1, _ => rfl | 2, _ => rfl | k + 3, hk => absurd hk (by omega))
        · exact xs4 rfl id fun cx => run_indexSlM (e := 99) (m := j) (sz := 3) rfl (by kernel_rfl) (by kernel_rfl) (cx.an 9) (cx.an 10) (by omega) (by omega) (hL.ext cx.upd.to_ext) (by have h_ := flatLen (f := cellsI) (sz := 3) cellsI_len es; show 0 < (List.flatMap cellsI es).length; omega)
        · exact xs4 rfl id fun cx => run_loadElt (f := cellsI) (m := j) (sz := 3) (off := 0) (n := 3) rfl (by kernel_rfl) (by kernel_rfl) (cx.an 11) rfl cellsI_len (hL.ext cx.upd.to_ext) hmdd.1 (fun k hk => match k, hk with | 0, _ => rfl | 1, _ => rfl | 2, _ => rfl | k + 3, hk => absurd hk (by omega))
        · refine sv_any rfl rfl fun ρ β W X cx => ?_
          refine DoesU.call (run_callF (args := #[.agg #[vi pg.k, vi pg.l, .slice pg.A pg.its.length pg.c], .agg #[vi dd.1, vi dd.2.1, .string dd.2.2.1], vi lsn]) rfl cx.sees rfl (by kernel_rfl) (map3 (cx.an 8) (cx.an 12) (cx.an 13))) ?_
          refine (rdo3_kind' hs1 hs2 (pgm_its (hP.ext cx.upd.to_ext) (CtxV.holdE cx (cx.init 4 _ rfl) rfl) hCs hmpg.2) hpok.1 (pgm_cap (hP.ext cx.upd.to_ext) (CtxV.holdE cx (cx.init 4 _ rfl) rfl) hCs hmpg.2) hl).mono ?_
          rintro e W1 ⟨A4, c4, rfl, ho, hx⟩
          refine ⟨_, rfl, post_call [eO 9 1 (.slice A4 (([] : List Itm).length) c4) (([] : List Itm).length) (strs ([] : List Itm))] rfl rfl hx (one_new (eO_new ho)) (List.pairwise_singleton _ _) (fun σ β' X' hs hb hv hN => ?_)⟩
          have hv1 := (hv 54 rfl).1; have hv2 := (hv 54 rfl).2
          exact ⟨hv1.trans (by rw [hv2]; rfl), (by rw [hv2]; exact (List.cons.inj hN).1)⟩
        · refine sv_any rfl rfl fun ρ β W X cx => ?_
          exact dv_alloc (cs := #[vi 0, vi 0, .slice none 0 0, vi 0]) rfl (by kernel_rfl) rfl rfl (fun σ β' X' hs hb hv hx => ⟨hv, hx⟩)
        · refine sv_any rfl rfl fun ρ β W X cx => ?_
          exact dv_store (n := 4) rfl (dTn (cx.an 15)).1 (dTn (cx.an 14)).1 (by kernel_rfl) (by kernel_rfl) (by kernel_rfl) cx (dTn (cx.an 15)).2 rfl (nle rfl) (by kernel_rfl) rfl rfl rfl (fun σ β' X' hs hb hx => by rw [hb 10, hb 54]; exact hx)
      intro σ β X W11 hD hst11 fr hfr
      obtain ⟨A54_11, hu_A54_11⟩ : ∃ z, sA (tg (β 54) 2) = z := ⟨_, rfl⟩
      obtain ⟨c54_11, hu_c54_11⟩ : ∃ z, sC (tg (β 54) 2) = z := ⟨_, rfl⟩
      obtain ⟨B10_11, hu_B10_11⟩ : ∃ z, pb (β 10) = z := ⟨_, rfl⟩
      simp only [exq 5 ((dTn (hD 14 lq)).2), exq 7 ((dTn (hD 16 lq))), hu_A54_11, hu_c54_11, hu_B10_11] at hst11
      simp only [ed 54 ((dTn (hD 14 lq)).1), ed 10 ((dTn (hD 15 lq)).1), hu_A54_11, hu_c54_11, hu_B10_11] at hfr
      clear hD hu_A54_11 hu_c54_11 hu_B10_11; subst hfr; clear σ β X
      refine then_normal (wp_seq (wp_seq (wp_region_Z [0, 1, 3] [[], [6]] [.k 55 (.pointer (some ⟨B10_11, 3, none⟩)), .c 56 (vi 0), .k 57 (.bool false)] [0, 1, 2, 3, 4, 5, 6] [1] [(55, 0, 3, 58)] hst11 ?_ fun W12 hst12 => ?_)))
      · refine ⟨?_, trivial⟩
        · exact xs4 rfl id fun cx => run_load1 rfl (by kernel_rfl) (cx.an 0) ((cx.bi 6 rfl).cell 3)
      refine then_normal (wp_cond_false (show Act.eval _ _ = .bool false from rfl) (wp_skip (then_normal (wp_region_Y [0, 1, 0, 0, 12, 28, 60, 0, 128, 511, 1023] [[], [2], [], [], [], [], [], [], [6], [3], [3]] [[], [], [], [], [], [], [], [], [], [], [7]] [[], [], [], [], [], [], [], [], [], [], [3]] [.k 59 (vp B8_2), .c 60 (.slice OA Ps.length OC), .k 61 (.slice LA es.length lc), .k 62 (vi ((j : Int))), .c 63 (.pointer (some ((ad LA).add (j * 3)))), .c 64 (.pointer (some ((ad LA).add (j * 3 + 0)))), .c 65 (vi dd.1), .k 66 (vp B10_11), .c 67 (.agg #[vi 1, vi lsn, .slice A54_11 (([] : List Itm).length) c54_11]), .c 68 (.pointer (some ((ad OA).add (((dd.1).toNat) * 3)))), .n] (fun ix σ β X => match ix with | 0 => True | 1 => True | 2 => True | 3 => True | 4 => True | 5 => True | 6 => True | 7 => True | 8 => True | 9 => True | 10 => X 7 = eO 86 3 (.slice OA Ps.length OC) Ps.length ((Cs.set (dd.1).toNat (PgD.mk 1 lsn A54_11 c54_11 ([] : List Itm))).flatMap pgC) | _ => True) [0, 1, 2, 4, 5, 6, 7] [1, 4, 5, 6, 8, 9, 10] [(59, 0, 10, 69)] hst12 ?_ ?_ ?_))))
      · exact fun ix _ _ _ _ _ _ hs hb hx h => match ix, h with
        | 10, h => by dsimp only at h ⊢; rw [← hx 7 rfl]; exact h
        | 0, _ | 1, _ | 2, _ | 3, _ | 4, _ | 5, _ | 6, _ | 7, _ | 8, _ | 9, _ | _ + 11, _ => trivial
      · refine ⟨?_, ?_, ?_, ?_, ?_, ?_, ?_, trivial⟩
        · exact xs4 rfl id fun cx => run_load1 rfl (by kernel_rfl) (cx.an 0) ((cx.bi 2 rfl).cell 0)
        · exact xs4 rfl id fun cx => run_indexSlM (e := 99) (m := j) (sz := 3) rfl (by kernel_rfl) (by kernel_rfl) (cx.an 2) (cx.an 3) (by omega) (by omega) (hL.ext cx.upd.to_ext) (by have h_ := flatLen (f := cellsI) (sz := 3) cellsI_len es; show 0 < (List.flatMap cellsI es).length; omega)
        · exact xs4 rfl id fun cx => run_fieldAd rfl (by kernel_rfl) (cx.an 4)
        · exact xs4 rfl id fun cx => run_load1 rfl (by kernel_rfl) (cx.an 5) (At.eltc (f := cellsI) (k := 0) cellsI_len (hL.ext cx.upd.to_ext) hmdd.1 rfl)
        · exact xs4 rfl id fun cx => run_loadB (n := 3) rfl (by kernel_rfl) (by kernel_rfl) (cx.an 7) (cx.bi 6 rfl) (nle rfl) rfl
        · exact xs4 rfl id fun cx => run_indexSlM (e := 86) (m := (dd.1).toNat) (sz := 3) rfl (by kernel_rfl) (by kernel_rfl) (cx.an 1) (cx.an 6) (by omega) (by omega) (At.of_ownN (cx.ri 3 rfl)) (by have h_ := flatLen (f := pgC) (sz := 3) pgC_len Cs; show 0 < (List.flatMap pgC Cs).length; omega)
        · refine sv_any rfl rfl fun ρ β W X cx => ?_
          exact dv_storeElt (m := ((dd.1).toNat) * 3) (n := Ps.length) (sz := 3) (k := 3) rfl (cx.an 9) (cx.an 8) (by kernel_rfl) (by kernel_rfl) (by kernel_rfl) cx (cx.init 3 _ rfl) rfl (by omega) (by decide) rfl (putL_flat pgC_len (by omega) (PgD.mk 1 lsn A54_11 c54_11 ([] : List Itm))) rfl rfl (fun σ β' X' hs hb hx => hx)
      intro σ β X W13 hD hst13 fr hfr
      simp only [exq 7 ((dTn (hD 10 lq)))] at hst13
      clear hD; subst hfr; clear σ β X
      refine blk_normal (then_normal (wp_region_P [0, 1, 3] [.k 20 (vi ((j : Int))), tI 21 ((j : Int) + 1) (by omega), .k 9 (vi ((j : Int) + 1))] [(9, 2, 1, 10), (10, 0, 2, 12)] hst13 fun W14 hst14 => ?_))
      refine then_normal ?_
      have hm15 := St.mergeP (Ps := Qs) (p := (PgD.mk 1 lsn A54_11 c54_11 ([] : List Itm))) (L := [eB B3_1 30 #[.slice ((some pa)) Ps.length pc], eB B6_1 30 #[.slice none 0 0], eB B8_2 30 #[.slice OA Ps.length OC], eB B10_11 102 #[vi 1, vi lsn, .slice A54_11 (([] : List Itm).length) c54_11, vi 0], eO 86 3 (.slice OA Ps.length OC) Ps.length ((Cs.set (dd.1).toNat (PgD.mk 1 lsn A54_11 c54_11 ([] : List Itm))).flatMap pgC)]) (hst14.pick [0, 1, 2, 5, 6, 3, 4] (by decide) rfl)
      refine ⟨es.length - ((j + 1)), by omega, ?_⟩
      have hp16 := hm15.pick [0, 1, 2, 4, 5] (by decide) rfl
      exact ⟨(j + 1), (Cs.set (dd.1).toNat (PgD.mk 1 lsn A54_11 c54_11 ([] : List Itm))), (Qs ++ [(PgD.mk 1 lsn A54_11 c54_11 ([] : List Itm))]), OA, OC, [(gu u5_ 0), vp B10_11, vi ((j : Int)), .slice LA es.length lc, vi ((es.length : Int)), .bool (decide ((j : Int) < (es.length : Int))), vi ((j : Int)), vi ((j : Int) + 1), .slice LA es.length lc, vi ((j : Int)), .pointer (some ((ad LA).add (j * 3))), .pointer (some ((ad LA).add (j * 3 + 0))), vi dd.1, .bool (decide (dd.1 < 0)), .bool (decide (dd.1 < 0)), mb (!(decide (dd.1 < 0))) (.slice LA es.length lc), mb (!(decide (dd.1 < 0))) (vi ((j : Int))), mb (!(decide (dd.1 < 0))) (.pointer (some ((ad LA).add (j * 3)))), mb (!(decide (dd.1 < 0))) (.pointer (some ((ad LA).add (j * 3 + 0)))), mb (!(decide (dd.1 < 0))) (vi dd.1), mb (!(decide (dd.1 < 0))) (vp B8_2), mb (!(decide (dd.1 < 0))) (.slice OA Ps.length OC), mb (!(decide (dd.1 < 0))) (vi ((Ps.length : Int))), mb (!(decide (dd.1 < 0))) (.bool (decide ((Ps.length : Int) ≤ dd.1))), .bool false, (gu u5_ 25), vp B8_2, .slice OA Ps.length OC, .slice LA es.length lc, vi ((j : Int)), .pointer (some ((ad LA).add (j * 3))), .pointer (some ((ad LA).add (j * 3 + 0))), vi dd.1, .pointer (some ((ad OA).add (((dd.1).toNat) * 3))), .agg #[vi pg.k, vi pg.l, .slice pg.A pg.its.length pg.c], .slice LA es.length lc, vi ((j : Int)), .pointer (some ((ad LA).add (j * 3))), .agg #[vi dd.1, vi dd.2.1, .string dd.2.2.1], vi lsn, .agg #[vi 1, vi lsn, .slice A54_11 (([] : List Itm).length) c54_11, vi 0], .pointer (some ⟨B10_11, 3, none⟩), vi 0, .bool false, (gu u5_ 44), vp B8_2, .slice OA Ps.length OC, .slice LA es.length lc, vi ((j : Int)), .pointer (some ((ad LA).add (j * 3))), .pointer (some ((ad LA).add (j * 3 + 0))), vi dd.1, vp B10_11, .agg #[vi 1, vi lsn, .slice A54_11 (([] : List Itm).length) c54_11], .pointer (some ((ad OA).add (((dd.1).toNat) * 3)))], by omega, by rw [List.length_set]; exact hCl, mem_set_new hCs _ _, by rw [map_set']; exact hr5, by rw [map_set']; exact hokC.set h5ok, rfl, rfl, hp16⟩
    · skip
      refine wp_region_Y [0, 1, 0, 0, 12, 28, 60, 127, 255, 0, 0, 1536, 3584, 0, 16383, 0, 65535] [[], [2], [], [], [], [], [], [3], [3], [], [], [], [], [], [4], [], [6]] [[], [], [], [], [], [], [], [], [], [], [], [], [], [], [5], [6], [7]] [[], [], [], [], [], [], [], [], [], [], [], [], [], [], [], [], [6]] [.k 40 (vp B8_2), .c 41 (.slice OA Ps.length OC), .k 42 (.slice LA es.length lc), .k 43 (vi ((j : Int))), .c 44 (.pointer (some ((ad LA).add (j * 3)))), .c 45 (.pointer (some ((ad LA).add (j * 3 + 0)))), .c 46 (vi dd.1), .c 47 (.pointer (some ((ad OA).add (((dd.1).toNat) * 3)))), .c 48 (.agg #[vi pg.k, vi pg.l, .slice pg.A pg.its.length pg.c]), .k 49 (.slice LA es.length lc), .k 50 (vi ((j : Int))), .c 51 (.pointer (some ((ad LA).add (j * 3)))), .c 52 (.agg #[vi dd.1, vi dd.2.1, .string dd.2.2.1]), .k 53 (vi lsn), .a 54, .a 10, .n] (fun ix σ β X => match ix with | 0 => True | 1 => True | 2 => True | 3 => True | 4 => True | 5 => True | 6 => True | 7 => True | 8 => True | 9 => True | 10 => True | 11 => True | 12 => True | 13 => True | 14 => σ 54 = .agg #[vi pg.k, vi lsn, .slice (sA (tg (β 54) 2)) ((putI pg.its dd.2.1.toNat dd.2.2).length) (sC (tg (β 54) 2)), vi 0] ∧ X 5 = eO 9 1 (.slice (sA (tg (β 54) 2)) ((putI pg.its dd.2.1.toNat dd.2.2).length) (sC (tg (β 54) 2))) ((putI pg.its dd.2.1.toNat dd.2.2).length) (strs (putI pg.its dd.2.1.toNat dd.2.2)) | 15 => σ 10 = vp (pb (β 10)) ∧ X 6 = eB (pb (β 10)) 102 #[vi 0, vi 0, .slice none 0 0, vi 0] | 16 => X 7 = eB (pb (β 10)) 102 #[vi pg.k, vi lsn, .slice (sA (tg (β 54) 2)) ((putI pg.its dd.2.1.toNat dd.2.2).length) (sC (tg (β 54) 2)), vi 0] | _ => True) [0, 1, 2, 3, 4, 5, 7] [1, 4, 5, 6, 7, 8, 11, 12, 14, 15, 16] [(10, 15, 1, 11), (29, 0, 15, 44)] hst9 ?_ ?_ ?_
      · exact fun ix _ _ _ _ _ _ hs hb hx h => match ix, h with
        | 14, h => by dsimp only at h ⊢; rw [← hs 54 rfl, ← hb 54 rfl, ← hx 5 rfl]; exact h
        | 15, h => by dsimp only at h ⊢; rw [← hs 10 rfl, ← hb 10 rfl, ← hx 6 rfl]; exact h
        | 16, h => by dsimp only at h ⊢; rw [← hb 10 rfl, ← hb 54 rfl, ← hx 7 rfl]; exact h
        | 0, _ | 1, _ | 2, _ | 3, _ | 4, _ | 5, _ | 6, _ | 7, _ | 8, _ | 9, _ | 10, _ | 11, _ | 12, _ | 13, _ | _ + 17, _ => trivial
      · refine ⟨?_, ?_, ?_, ?_, ?_, ?_, ?_, ?_, ?_, ?_, ?_, trivial⟩
        · exact xs4 rfl id fun cx => run_load1 rfl (by kernel_rfl) (cx.an 0) ((cx.bi 2 rfl).cell 0)
        · exact xs4 rfl id fun cx => run_indexSlM (e := 99) (m := j) (sz := 3) rfl (by kernel_rfl) (by kernel_rfl) (cx.an 2) (cx.an 3) (by omega) (by omega) (hL.ext cx.upd.to_ext) (by have h_ := flatLen (f := cellsI) (sz := 3) cellsI_len es; show 0 < (List.flatMap cellsI es).length; omega)
        · exact xs4 rfl id fun cx => run_fieldAd rfl (by kernel_rfl) (cx.an 4)
        · exact xs4 rfl id fun cx => run_load1 rfl (by kernel_rfl) (cx.an 5) (At.eltc (f := cellsI) (k := 0) cellsI_len (hL.ext cx.upd.to_ext) hmdd.1 rfl)
        · exact xs4 rfl id fun cx => run_indexSlM (e := 86) (m := (dd.1).toNat) (sz := 3) rfl (by kernel_rfl) (by kernel_rfl) (cx.an 1) (cx.an 6) (by omega) (by omega) (At.of_ownN (cx.ri 3 rfl)) (by have h_ := flatLen (f := pgC) (sz := 3) pgC_len Cs; show 0 < (List.flatMap pgC Cs).length; omega)
        · exact xs4 rfl id fun cx => run_loadElt (f := pgC) (m := ((dd.1).toNat)) (sz := 3) (off := 0) (n := 3) rfl (by kernel_rfl) (by kernel_rfl) (cx.an 7) rfl pgC_len (At.of_ownN (cx.ri 3 rfl)) hmpg.1 (fun k hk => match k, hk with | 0, _ => rfl | 1, _ => rfl | 2, _ => rfl | k + 3, hk => absurd hk (by omega))
        · exact xs4 rfl id fun cx => run_indexSlM (e := 99) (m := j) (sz := 3) rfl (by kernel_rfl) (by kernel_rfl) (cx.an 9) (cx.an 10) (by omega) (by omega) (hL.ext cx.upd.to_ext) (by have h_ := flatLen (f := cellsI) (sz := 3) cellsI_len es; show 0 < (List.flatMap cellsI es).length; omega)
        · exact xs4 rfl id fun cx => run_loadElt (f := cellsI) (m := j) (sz := 3) (off := 0) (n := 3) rfl (by kernel_rfl) (by kernel_rfl) (cx.an 11) rfl cellsI_len (hL.ext cx.upd.to_ext) hmdd.1 (fun k hk => match k, hk with | 0, _ => rfl | 1, _ => rfl | 2, _ => rfl | k + 3, hk => absurd hk (by omega))
        · refine sv_any rfl rfl fun ρ β W X cx => ?_
          refine DoesU.call (run_callF (args := #[.agg #[vi pg.k, vi pg.l, .slice pg.A pg.its.length pg.c], .agg #[vi dd.1, vi dd.2.1, .string dd.2.2.1], vi lsn]) rfl cx.sees rfl (by kernel_rfl) (map3 (cx.an 8) (cx.an 12) (cx.an 13))) ?_
          refine (rdo3_put _ _ _ _ _ _ dd.2.1 dd.2.2.1 dd.2.2.2 _ _ (pgm_its (hP.ext cx.upd.to_ext) (CtxV.holdE cx (cx.init 4 _ rfl) rfl) hCs hmpg.2) hpok.1 (pgm_cap (hP.ext cx.upd.to_ext) (CtxV.holdE cx (cx.init 4 _ rfl) rfl) hCs hmpg.2) hl (by omega) hs2 hs1).mono ?_
          rintro e W1 ⟨A4, c4, rfl, ho, hx⟩
          refine ⟨_, rfl, post_call [eO 9 1 (.slice A4 ((putI pg.its dd.2.1.toNat dd.2.2).length) c4) ((putI pg.its dd.2.1.toNat dd.2.2).length) (strs (putI pg.its dd.2.1.toNat dd.2.2))] rfl rfl hx (one_new (eO_new ho)) (List.pairwise_singleton _ _) (fun σ β' X' hs hb hv hN => ?_)⟩
          have hv1 := (hv 54 rfl).1; have hv2 := (hv 54 rfl).2
          exact ⟨hv1.trans (by rw [hv2]; rfl), (by rw [hv2]; exact (List.cons.inj hN).1)⟩
        · refine sv_any rfl rfl fun ρ β W X cx => ?_
          exact dv_alloc (cs := #[vi 0, vi 0, .slice none 0 0, vi 0]) rfl (by kernel_rfl) rfl rfl (fun σ β' X' hs hb hv hx => ⟨hv, hx⟩)
        · refine sv_any rfl rfl fun ρ β W X cx => ?_
          exact dv_store (n := 4) rfl (dTn (cx.an 15)).1 (dTn (cx.an 14)).1 (by kernel_rfl) (by kernel_rfl) (by kernel_rfl) cx (dTn (cx.an 15)).2 rfl (nle rfl) (by kernel_rfl) rfl rfl rfl (fun σ β' X' hs hb hx => by rw [hb 10, hb 54]; exact hx)
      intro σ β X W17 hD hst17 fr hfr
      obtain ⟨A54_17, hu_A54_17⟩ : ∃ z, sA (tg (β 54) 2) = z := ⟨_, rfl⟩
      obtain ⟨c54_17, hu_c54_17⟩ : ∃ z, sC (tg (β 54) 2) = z := ⟨_, rfl⟩
      obtain ⟨B10_17, hu_B10_17⟩ : ∃ z, pb (β 10) = z := ⟨_, rfl⟩
      simp only [exq 5 ((dTn (hD 14 lq)).2), exq 7 ((dTn (hD 16 lq))), hu_A54_17, hu_c54_17, hu_B10_17] at hst17
      simp only [ed 54 ((dTn (hD 14 lq)).1), ed 10 ((dTn (hD 15 lq)).1), hu_A54_17, hu_c54_17, hu_B10_17] at hfr
      clear hD hu_A54_17 hu_c54_17 hu_B10_17; subst hfr; clear σ β X
      refine then_normal (wp_seq (wp_seq (wp_region_Z [0, 1, 3] [[], [6]] [.k 55 (.pointer (some ⟨B10_17, 3, none⟩)), .c 56 (vi 0), .k 57 (.bool false)] [0, 1, 2, 3, 4, 5, 6] [1] [(55, 0, 3, 58)] hst17 ?_ fun W18 hst18 => ?_)))
      · refine ⟨?_, trivial⟩
        · exact xs4 rfl id fun cx => run_load1 rfl (by kernel_rfl) (cx.an 0) ((cx.bi 6 rfl).cell 3)
      refine then_normal (wp_cond_false (show Act.eval _ _ = .bool false from rfl) (wp_skip (then_normal (wp_region_Y [0, 1, 0, 0, 12, 28, 60, 0, 128, 511, 1023] [[], [2], [], [], [], [], [], [], [6], [3], [3]] [[], [], [], [], [], [], [], [], [], [], [7]] [[], [], [], [], [], [], [], [], [], [], [3]] [.k 59 (vp B8_2), .c 60 (.slice OA Ps.length OC), .k 61 (.slice LA es.length lc), .k 62 (vi ((j : Int))), .c 63 (.pointer (some ((ad LA).add (j * 3)))), .c 64 (.pointer (some ((ad LA).add (j * 3 + 0)))), .c 65 (vi dd.1), .k 66 (vp B10_17), .c 67 (.agg #[vi pg.k, vi lsn, .slice A54_17 ((putI pg.its dd.2.1.toNat dd.2.2).length) c54_17]), .c 68 (.pointer (some ((ad OA).add (((dd.1).toNat) * 3)))), .n] (fun ix σ β X => match ix with | 0 => True | 1 => True | 2 => True | 3 => True | 4 => True | 5 => True | 6 => True | 7 => True | 8 => True | 9 => True | 10 => X 7 = eO 86 3 (.slice OA Ps.length OC) Ps.length ((Cs.set (dd.1).toNat (PgD.mk pg.k lsn A54_17 c54_17 (putI pg.its dd.2.1.toNat dd.2.2))).flatMap pgC) | _ => True) [0, 1, 2, 4, 5, 6, 7] [1, 4, 5, 6, 8, 9, 10] [(59, 0, 10, 69)] hst18 ?_ ?_ ?_))))
      · exact fun ix _ _ _ _ _ _ hs hb hx h => match ix, h with
        | 10, h => by dsimp only at h ⊢; rw [← hx 7 rfl]; exact h
        | 0, _ | 1, _ | 2, _ | 3, _ | 4, _ | 5, _ | 6, _ | 7, _ | 8, _ | 9, _ | _ + 11, _ => trivial
      · refine ⟨?_, ?_, ?_, ?_, ?_, ?_, ?_, trivial⟩
        · exact xs4 rfl id fun cx => run_load1 rfl (by kernel_rfl) (cx.an 0) ((cx.bi 2 rfl).cell 0)
        · exact xs4 rfl id fun cx => run_indexSlM (e := 99) (m := j) (sz := 3) rfl (by kernel_rfl) (by kernel_rfl) (cx.an 2) (cx.an 3) (by omega) (by omega) (hL.ext cx.upd.to_ext) (by have h_ := flatLen (f := cellsI) (sz := 3) cellsI_len es; show 0 < (List.flatMap cellsI es).length; omega)
        · exact xs4 rfl id fun cx => run_fieldAd rfl (by kernel_rfl) (cx.an 4)
        · exact xs4 rfl id fun cx => run_load1 rfl (by kernel_rfl) (cx.an 5) (At.eltc (f := cellsI) (k := 0) cellsI_len (hL.ext cx.upd.to_ext) hmdd.1 rfl)
        · exact xs4 rfl id fun cx => run_loadB (n := 3) rfl (by kernel_rfl) (by kernel_rfl) (cx.an 7) (cx.bi 6 rfl) (nle rfl) rfl
        · exact xs4 rfl id fun cx => run_indexSlM (e := 86) (m := (dd.1).toNat) (sz := 3) rfl (by kernel_rfl) (by kernel_rfl) (cx.an 1) (cx.an 6) (by omega) (by omega) (At.of_ownN (cx.ri 3 rfl)) (by have h_ := flatLen (f := pgC) (sz := 3) pgC_len Cs; show 0 < (List.flatMap pgC Cs).length; omega)
        · refine sv_any rfl rfl fun ρ β W X cx => ?_
          exact dv_storeElt (m := ((dd.1).toNat) * 3) (n := Ps.length) (sz := 3) (k := 3) rfl (cx.an 9) (cx.an 8) (by kernel_rfl) (by kernel_rfl) (by kernel_rfl) cx (cx.init 3 _ rfl) rfl (by omega) (by decide) rfl (putL_flat pgC_len (by omega) (PgD.mk pg.k lsn A54_17 c54_17 (putI pg.its dd.2.1.toNat dd.2.2))) rfl rfl (fun σ β' X' hs hb hx => hx)
      intro σ β X W19 hD hst19 fr hfr
      simp only [exq 7 ((dTn (hD 10 lq)))] at hst19
      clear hD; subst hfr; clear σ β X
      refine blk_normal (then_normal (wp_region_P [0, 1, 3] [.k 20 (vi ((j : Int))), tI 21 ((j : Int) + 1) (by omega), .k 9 (vi ((j : Int) + 1))] [(9, 2, 1, 10), (10, 0, 2, 12)] hst19 fun W20 hst20 => ?_))
      refine then_normal ?_
      have hm21 := St.mergeP (Ps := Qs) (p := (PgD.mk pg.k lsn A54_17 c54_17 (putI pg.its dd.2.1.toNat dd.2.2))) (L := [eB B3_1 30 #[.slice ((some pa)) Ps.length pc], eB B6_1 30 #[.slice none 0 0], eB B8_2 30 #[.slice OA Ps.length OC], eB B10_17 102 #[vi pg.k, vi lsn, .slice A54_17 ((putI pg.its dd.2.1.toNat dd.2.2).length) c54_17, vi 0], eO 86 3 (.slice OA Ps.length OC) Ps.length ((Cs.set (dd.1).toNat (PgD.mk pg.k lsn A54_17 c54_17 (putI pg.its dd.2.1.toNat dd.2.2))).flatMap pgC)]) (hst20.pick [0, 1, 2, 5, 6, 3, 4] (by decide) rfl)
      refine ⟨es.length - ((j + 1)), by omega, ?_⟩
      have hp22 := hm21.pick [0, 1, 2, 4, 5] (by decide) rfl
      exact ⟨(j + 1), (Cs.set (dd.1).toNat (PgD.mk pg.k lsn A54_17 c54_17 (putI pg.its dd.2.1.toNat dd.2.2))), (Qs ++ [(PgD.mk pg.k lsn A54_17 c54_17 (putI pg.its dd.2.1.toNat dd.2.2))]), OA, OC, [(gu u5_ 0), vp B10_17, vi ((j : Int)), .slice LA es.length lc, vi ((es.length : Int)), .bool (decide ((j : Int) < (es.length : Int))), vi ((j : Int)), vi ((j : Int) + 1), .slice LA es.length lc, vi ((j : Int)), .pointer (some ((ad LA).add (j * 3))), .pointer (some ((ad LA).add (j * 3 + 0))), vi dd.1, .bool (decide (dd.1 < 0)), .bool (decide (dd.1 < 0)), mb (!(decide (dd.1 < 0))) (.slice LA es.length lc), mb (!(decide (dd.1 < 0))) (vi ((j : Int))), mb (!(decide (dd.1 < 0))) (.pointer (some ((ad LA).add (j * 3)))), mb (!(decide (dd.1 < 0))) (.pointer (some ((ad LA).add (j * 3 + 0)))), mb (!(decide (dd.1 < 0))) (vi dd.1), mb (!(decide (dd.1 < 0))) (vp B8_2), mb (!(decide (dd.1 < 0))) (.slice OA Ps.length OC), mb (!(decide (dd.1 < 0))) (vi ((Ps.length : Int))), mb (!(decide (dd.1 < 0))) (.bool (decide ((Ps.length : Int) ≤ dd.1))), .bool false, (gu u5_ 25), vp B8_2, .slice OA Ps.length OC, .slice LA es.length lc, vi ((j : Int)), .pointer (some ((ad LA).add (j * 3))), .pointer (some ((ad LA).add (j * 3 + 0))), vi dd.1, .pointer (some ((ad OA).add (((dd.1).toNat) * 3))), .agg #[vi pg.k, vi pg.l, .slice pg.A pg.its.length pg.c], .slice LA es.length lc, vi ((j : Int)), .pointer (some ((ad LA).add (j * 3))), .agg #[vi dd.1, vi dd.2.1, .string dd.2.2.1], vi lsn, .agg #[vi pg.k, vi lsn, .slice A54_17 ((putI pg.its dd.2.1.toNat dd.2.2).length) c54_17, vi 0], .pointer (some ⟨B10_17, 3, none⟩), vi 0, .bool false, (gu u5_ 44), vp B8_2, .slice OA Ps.length OC, .slice LA es.length lc, vi ((j : Int)), .pointer (some ((ad LA).add (j * 3))), .pointer (some ((ad LA).add (j * 3 + 0))), vi dd.1, vp B10_17, .agg #[vi pg.k, vi lsn, .slice A54_17 ((putI pg.its dd.2.1.toNat dd.2.2).length) c54_17], .pointer (some ((ad OA).add (((dd.1).toNat) * 3)))], by omega, by rw [List.length_set]; exact hCl, mem_set_new hCs _ _, by rw [map_set']; exact hr5, by rw [map_set']; exact hokC.set h5ok, rfl, rfl, hp22⟩
  have hs8p : ¬ ((j : Int) < (es.length : Int)) := by simpa using hs8
  refine wp_cond_false (show Act.eval _ _ = .bool false from (congrArg Value.bool hs8)) (wp_exit (then_exit (then_exit (blk_eq (then_normal (wp_seq (wp_region_Y [0, 1, 3] [[2], [1]] [[], [5]] [[], [1]] [.c 69 (.agg #[.slice OA Ps.length OC]), .n, .k 7 (.bool true)] (fun ix σ β X => match ix with | 0 => True | 1 => X 5 = eB B6_1 30 #[.slice OA Ps.length OC] | _ => True) [0, 2, 3, 4, 5] [0, 1] [(7, 2, 1, 8), (61, 0, 1, 62)] hst7 ?_ ?_ ?_)))))))
  · exact fun ix _ _ _ _ _ _ hs hb hx h => match ix, h with
    | 1, h => by dsimp only at h ⊢; rw [← hx 5 rfl]; exact h
    | 0, _ | _ + 2, _ => trivial
  · refine ⟨?_, ?_, trivial⟩
    · exact xs4 rfl id fun cx => run_loadB (n := 1) rfl (by kernel_rfl) (by kernel_rfl) (cx.ou 8) (cx.bi 2 rfl) (nle rfl) rfl
    · refine sv_any rfl rfl fun ρ β W X cx => ?_
      exact dv_store (n := 1) rfl (cx.ou 6) (cx.an 0) (by kernel_rfl) (by kernel_rfl) (by kernel_rfl) cx (cx.init 1 _ rfl) rfl (nle rfl) (by kernel_rfl) rfl rfl rfl (fun σ β' X' hs hb hx => hx)
  intro σ β X W23 hD hst23 fr hfr
  simp only [exq 5 ((dTn (hD 1 lq)))] at hst23
  clear hD; subst hfr; clear σ β X
  refine then_normal (wp_ret ?_)
  have hr24 : W23.cell? ⟨B6_1, 0, none⟩ = some (.slice OA Ps.length OC) := (hst23.blk 4 rfl).cell 0
  refine bodyPost_ret (v := .tuple #[.agg #[.slice OA Ps.length OC], .bool true]) (by simp [results, Tryd.results10, go_sem, hr24]) rfl ?_
  exact St.done (by rw [List.drop_of_length_le (by omega)] at hdj; exact Option.some.inj hdj) hCs (hst23.pick [3, 2] (by decide) rfl)
theorem PgsAt.some {w : World} {A : Option Addr} {Ps : List PgD} (h : PgsAt w A Ps) (h0 : 0 < Ps.length) : ∃ a, A = some a := by
  have hl := pgC_flat Ps
  obtain ⟨a, ha, _⟩ := h.at_ 0 _ (List.getElem?_eq_getElem (by omega : 0 < (Ps.flatMap pgC).length))
  exact ⟨a, ha⟩
/-- Do, the edits with what they say -/
theorem rdo9_n {PA LA : Option Addr} {pc lc n m : Nat} {Ps : List PgD} {es : List EdI} {lsn : Int} {H' : List PgI} {w : World} (hn : Ps.length = n) (hm : es.length = m) (h0 : 0 < n) (hP : PgsAt w PA Ps) (hL : At w LA (es.flatMap cellsI)) (hel : m ≤ 100000) (hed : ∀ e ∈ es, Desc e.2.2.1 e.2.2.2) (hl : 0 ≤ lsn ∧ lsn ≤ 2147483647) (hok : okH (Ps.map absP)) (hdo : doL lsn (Ps.map absP) es = some H') :
    Calls Tryd.prog 10 #[.agg #[.slice PA n pc], .slice LA m lc, .int .i64 lsn] w (DoPost Ps H' n w) := by
  subst hn hm
  obtain ⟨a, rfl⟩ := hP.some h0
  exact rdo9_any a pc Ps LA lc es lsn H' w hP hL hel hed hl hok hdo
end
end Go.Proofs.YtjnplglnnamfdaaDoor
namespace Go.Proofs.YtjnplglnnamfdaaDoor
section
open Go.RowKit
set_option linter.unusedVariables false
set_option linter.unusedSimpArgs false
theorem madeCells_cons (z : Array Value) (hz : 0 < z.size) (n : Nat) : (madeCells z ((n + 1) * z.size)).toList = z.toList ++ (madeCells z (n * z.size)).toList := by
  apply List.ext_getElem?
  intro j
  have e : ∀ m j, (madeCells z m).toList[j]? = if j < m then some (z[j % z.size]!) else none := fun m j => by
    by_cases h : j < m
    · rw [if_pos h]; simp [madeCells, h]
    · rw [if_neg h]; simp [madeCells, h]
  have hm : (n + 1) * z.size = z.size + n * z.size := by rw [Nat.add_mul]; omega
  rw [e, hm]
  by_cases h : j < z.size
  · rw [if_pos (by omega), List.getElem?_append_left (by simpa using h), Nat.mod_eq_of_lt h]
    simp [h]
  · rw [List.getElem?_append_right (by simpa using h), Array.length_toList, e]
    by_cases h2 : j < z.size + n * z.size
    · rw [if_pos h2, if_pos (by omega), Nat.mod_eq_sub_mod (by omega)]
    · rw [if_neg h2, if_neg (by omega)]
theorem madeCells_flat {T : Type} (f : T → List Value) (t : T) (z : Array Value) (hz : z.toList = f t) (h0 : 0 < z.size) (n : Nat) : (madeCells z (n * z.size)).toList = (List.replicate n t).flatMap f := by
  induction n with
  | zero =>
    rw [Nat.zero_mul]
    have : (madeCells z 0).toList.length = 0 := by rw [Array.length_toList, size_madeCells]
    rw [List.eq_nil_of_length_eq_zero this]; rfl
  | succ n ih => rw [madeCells_cons z h0, ih, List.replicate_succ, List.flatMap_cons, hz]
section
variable {P : Program} {ops : Array Oper} {L : List Nat} {a0 : Act} {w0 : World} {bor : List Nat} {X0 : List Ent} {us cr kl : List (List Nat)}
  {D : Nat → (Tmp → Value) → (Tmp → Value) → (Nat → Ent) → Prop} {i : Nat} {o : Oper} {ρ : Operand → Value} {β : Tmp → Value} {W : World} {X : Nat → Ent}
theorem dv_makeN {t e : TypeId} {x y : Operand} {k k' : IntKind} {n sz : Nat} {j j' : Int} {d : Tmp} {q : Nat} {inf : TypeInfo} {z : Value} {bytes : Nat} {xs : List Value} (h : o.op = .makeSlice t x y) (ht : P.underlying t = some (.slice e)) (hi : P.info? e = some inf) (hz : inf.zero = some z) (hsize : inf.size = sz) (hby : inf.bytes = bytes)
    (hx : ρ x = .int k j) (hy : ρ y = .int k' j') (hj : j = (n : Int)) (hj' : j' = (n : Int)) (hn : n * sz ≤ 16777216) (hb : bytes * n ≤ 281474976710656) (hml : n ≤ maxLen) (hxs : (madeCells z.cells (n * sz)).toList = xs) (hd : o.dst = some d) (hc : atV cr i = [q])
    (hD : ∀ (σ β' : Tmp → Value) (X' : Nat → Ent), (∀ t, t ≠ d → σ t = ρ (.tmp t)) → (∀ t, t ≠ d → β' t = β t) → σ d = .slice (sA (β' d)) n n → X' q = eO e sz (.slice (sA (β' d)) n n) n xs → D i σ β' X') :
    DoesU P o ρ W (PostV cr kl D i o.dst ρ β W X) := by
  subst hj; subst hj'; subst hby; subst hsize; subst hxs
  obtain ⟨W', hrun, ho, hg⟩ := run_makeSlice_full (P := P) W W.heap.size t e inf z inf.size ht hi hz rfl k k' n hn hb hml (Nat.le_refl _)
  have hr : (execOp ρ o).run P W = .ok (.value (.slice (some ⟨W.heap.size, 0, none⟩) n n)) W' := by
    unfold execOp; rw [h]
    simp only [hx, hy, Sem.run_bind, hrun, Result.andThen_ok, Sem.run_pure]
  refine DoesU.value hr ⟨[eO e inf.size (.slice (some ⟨W.heap.size, 0, none⟩) n n) n (madeCells z.cells (n * inf.size)).toList], by rw [hc]; rfl, ⟨(Upd.refl _ W).grown hg (fun k hk => by cases hk), fun e' he => ?_, List.pairwise_singleton _ _⟩, fun σ β' X' hs' hv hb hbv hx' hN => hD σ β' X' (fun t ht => hs' t (by rw [hd]; simpa using ht.symm)) (fun t ht => hb t (by rw [hd]; simpa using ht.symm)) ?_ ?_⟩
  · rw [List.mem_singleton] at he
    subst he
    obtain ⟨h1, h2, h3⟩ := eO_new ho
    exact ⟨h1, h2, fun k hk => ⟨.inr (h3 k hk).1, (h3 k hk).2⟩⟩
  · rw [hv d hd, hbv d hd]; rfl
  · rw [hbv d hd]
    rw [hc] at hN
    exact (List.cons.inj hN).1
end
theorem pg_zero (n : Nat) : (madeCells (Value.agg #[.int .i64 0, .int .i64 0, .slice none 0 0]).cells (n * 3)).toList = (List.replicate n p0).flatMap pgC := madeCells_flat pgC p0 #[.int .i64 0, .int .i64 0, .slice none 0 0] rfl (by decide) n
def FreePost (n : Nat) (w : World) (e : Ending) (w' : World) : Prop := ∃ A, e = .returned (.agg #[.slice A n n]) ∧ w'.ownsRow w.heap.size 86 3 (.slice A n n) n ((List.replicate n p0).flatMap pgC) ∧ Ext w w'
theorem free_at {W : World} {A : Option Addr} {n : Nat} (h : At W A ((List.replicate n p0).flatMap pgC)) (hn : n ≤ 1000) : PgsAt W A (List.replicate n p0) :=
  ⟨h, by rw [List.length_replicate]; exact hn, fun p hp => by
    obtain ⟨_, rfl⟩ := List.mem_replicate.1 hp
    exact ⟨At.nil _ _, Nat.zero_le _, Nat.zero_le _, fun i hi => by cases hi⟩⟩
theorem free_ok (n : Nat) : okH ((List.replicate n p0).map absP) := fun p hp => by
  rw [List.map_replicate] at hp
  obtain ⟨_, rfl⟩ := List.mem_replicate.1 hp
  exact ⟨by decide, fun i hi => by cases hi⟩
set_option maxRecDepth 100000 in
set_option maxHeartbeats 2000000 in
theorem free09_any (n : Nat) (w : World) (hn : n ≤ 1000) :
    Calls Tryd.prog 16 #[.int .i64 ((n : Int))] w (FreePost n w) := by
  go_enter Tryd.func16, Tryd.ntmps16
  have hst0 := St.start w
  refine wp_seq (wp_region_Y [0] [] [[0]] [] [.a 2] (fun ix σ β X => match ix with | 0 => σ 2 = vp (pb (β 2)) ∧ X 0 = eB (pb (β 2)) 30 #[.slice none 0 0] | _ => True) [0] [0] [(2, 0, 1, 3)] hst0 ?_ ?_ ?_)
  · exact fun ix _ _ _ _ _ _ hs hb hx h => match ix, h with
    | 0, h => by dsimp only at h ⊢; rw [← hs 2 rfl, ← hb 2 rfl, ← hx 0 rfl]; exact h
    | _ + 1, _ => trivial
  · refine ⟨?_, trivial⟩
    · refine sv_any rfl rfl fun ρ β W X cx => ?_
      exact dv_alloc (cs := #[.slice none 0 0]) rfl (by kernel_rfl) rfl rfl (fun σ β' X' hs hb hv hx => ⟨hv, hx⟩)
  intro σ β X W1 hD hst1 fr hfr
  obtain ⟨B2_1, hu_B2_1⟩ : ∃ z, pb (β 2) = z := ⟨_, rfl⟩
  simp only [exq 0 ((dTn (hD 0 lq)).2), hu_B2_1] at hst1
  simp only [ed 2 ((dTn (hD 0 lq)).1), hu_B2_1] at hfr
  clear hD hu_B2_1; subst hfr; clear σ β X
  refine then_normal (wp_seq (wp_region_Y [0, 1, 3, 7] [[], [], [], [0]] [[], [1], [], [2]] [[], [], [], [0]] [.k 3 (vi ((n : Int))), .a 4, .a 5, .n] (fun ix σ β X => match ix with | 0 => True | 1 => σ 4 = .slice (sA (β 4)) n n ∧ X 1 = eO 86 3 (.slice (sA (β 4)) n n) n ((List.replicate n p0).flatMap pgC) | 2 => σ 5 = .agg #[.slice (sA (β 4)) n n] | 3 => X 2 = eB B2_1 30 #[.slice (sA (β 4)) n n] | _ => True) [1, 2] [1, 2, 3] [(3, 0, 3, 6)] hst1 ?_ ?_ ?_))
  · exact fun ix _ _ _ _ _ _ hs hb hx h => match ix, h with
    | 1, h => by dsimp only at h ⊢; rw [← hs 4 rfl, ← hb 4 rfl, ← hx 1 rfl]; exact h
    | 2, h => by dsimp only at h ⊢; rw [← hs 5 rfl, ← hb 4 rfl]; exact h
    | 3, h => by dsimp only at h ⊢; rw [← hb 4 rfl, ← hx 2 rfl]; exact h
    | 0, _ | _ + 4, _ => trivial
  · refine ⟨?_, ?_, ?_, trivial⟩
    · refine sv_any rfl rfl fun ρ β W X cx => ?_
      obtain ⟨i0, hi0, hz0, hz1, hz2⟩ := info_parts Tryd.infoPage
      exact dv_makeN (n := n) (sz := 3) rfl (by kernel_rfl) hi0 hz0 hz1 hz2 (cx.an 0) (cx.an 0) (by omega) (by omega) (by omega) (by omega) (by simp only [maxLen]; omega) (pg_zero n) rfl rfl (fun σ β' X' hs hb hv hx => ⟨hv, hx⟩)
    · exact sv rfl rfl rfl rfl rfl _ (fun _ _ _ h => h) (fun β β' h => by rw [h 4 (by decide)]) fun ρ β W X cx => run_buildL rfl (pmc (dTn (cx.an 1)).1 pmn) (by kernel_rfl)
    · refine sv_any rfl rfl fun ρ β W X cx => ?_
      exact dv_store (n := 1) rfl (cx.ou 2) (dTn (cx.an 2)) (by kernel_rfl) (by kernel_rfl) (by kernel_rfl) cx (cx.init 0 _ rfl) rfl (nle rfl) (by kernel_rfl) rfl rfl rfl (fun σ β' X' hs hb hx => by rw [hb 4]; exact hx)
  intro σ β X W2 hD hst2 fr hfr
  obtain ⟨A4_2, hu_A4_2⟩ : ∃ z, sA (β 4) = z := ⟨_, rfl⟩
  simp only [exq 1 ((dTn (hD 1 lq)).2), exq 2 ((dTn (hD 3 lq))), hu_A4_2] at hst2
  simp only [ed 4 ((dTn (hD 1 lq)).1), ed 5 ((dTn (hD 2 lq))), hu_A4_2] at hfr
  clear hD hu_A4_2; subst hfr; clear σ β X
  refine then_normal (wp_ret ?_)
  refine bodyPost_ret (v := .agg #[.slice A4_2 n n]) (results_cell (n := 1) Tryd.results16 rfl (by kernel_rfl) (by kernel_rfl) (hst2.blk 1 rfl) rfl) rfl ?_
  exact ⟨_, rfl, hst2.own' 0 rfl, hst2.ext⟩
def WholePost (x : Int) (w : World) (e : Ending) (w' : World) : Prop := ∃ A, e = .returned (.slice A 1 1) ∧ w'.ownsRow w.heap.size 82 3 (.slice A 1 1) 1 (flatR [(1, x, ByteArray.empty)]) ∧ Ext w w'
set_option maxRecDepth 100000 in
set_option maxHeartbeats 2000000 in
theorem whole09_any (x : Int) (w : World) :
    Calls Tryd.prog 18 #[.int .i64 x] w (WholePost x w) := by
  go_enter Tryd.func18, Tryd.ntmps18
  have hst0 := St.start w
  refine wp_seq (wp_region_P [0] [.k 2 (.slice none 0 0)] [(2, 0, 1, 3)] hst0 fun W1 hst1 => ?_)
  refine then_normal (wp_seq (wp_region_Y [0, 1, 3, 7] [] [[], [], [0]] [] [.k 3 (vi x), .k 4 (.agg #[vi 1, vi x, .string ByteArray.empty]), .a 5, .a 2] (fun ix σ β X => match ix with | 0 => True | 1 => True | 2 => σ 5 = .slice ((some ⟨(pb' (β 5)), 0, none⟩)) 1 1 ∧ X 0 = eO 82 3 (.slice ((some ⟨(pb' (β 5)), 0, none⟩)) 1 1) 1 ([vi 1, vi x, .string ByteArray.empty]) | 3 => σ 2 = .slice ((some ⟨(pb' (β 5)), 0, none⟩)) 1 1 | _ => True) [0] [2, 3] [(2, 3, 1, 3), (0, 0, 3, 3)] hst1 ?_ ?_ ?_))
  · exact fun ix _ _ _ _ _ _ hs hb hx h => match ix, h with
    | 2, h => by dsimp only at h ⊢; rw [← hs 5 rfl, ← hb 5 rfl, ← hx 0 rfl]; exact h
    | 3, h => by dsimp only at h ⊢; rw [← hs 2 rfl, ← hb 5 rfl]; exact h
    | 0, _ | 1, _ | _ + 4, _ => trivial
  · refine ⟨?_, ?_, trivial⟩
    · refine sv_any rfl rfl fun ρ β W X cx => ?_
      have fF4 : ρ (.tmp 4) = .agg #[vi 1, vi x, .string ByteArray.empty] := (cx.an 1)
      exact dv_litN (e := 82) (sz := 3) (xs := [vi 1, vi x, .string ByteArray.empty]) rfl (by simp [go_sem, fF4]) rfl (by decide) rfl rfl (fun σ β' X' hs hb hv hx => ⟨hv, hx⟩)
    · exact sv rfl rfl rfl rfl rfl _ (fun _ _ _ h => h) (fun β β' h => by rw [h 5 (by decide)]) fun ρ β W X cx => run_assign' rfl (dTn (cx.an 2)).1
  intro σ β X W2 hD hst2 fr hfr
  obtain ⟨B5_2, hu_B5_2⟩ : ∃ z, pb' (β 5) = z := ⟨_, rfl⟩
  simp only [exq 0 ((dTn (hD 2 lq)).2), hu_B5_2] at hst2
  simp only [ed 5 ((dTn (hD 2 lq)).1), ed 2 ((dTn (hD 3 lq))), hu_B5_2] at hfr
  clear hD hu_B5_2; subst hfr; clear σ β X
  refine then_normal (wp_ret ?_)
  refine bodyPost_ret (v := .slice ((some ⟨B5_2, 0, none⟩)) 1 1) (results_tmp Tryd.results18 rfl) rfl ?_
  exact ⟨_, rfl, hst2.own' 0 rfl, hst2.ext⟩
end
end Go.Proofs.YtjnplglnnamfdaaDoor
namespace Go.Proofs.YtjnplglnnamfdaaDoor
section
open Go.RowKit
set_option linter.unusedVariables false
set_option linter.unusedSimpArgs false
/-- the page that a fresh insert leaves -/
def freshP (lsn tb : Int) (v : VerD) : PgI := (1, lsn, putI (putI [] 0 (putS tb 2, none)) 1 (txD v, some v))
theorem fresh_do {H : List PgI} {lsn f tb : Int} {v : VerD} (hl : 0 ≤ lsn ∧ lsn ≤ 2147483647) (hf : 0 ≤ f ∧ f < H.length) (hv : okD v) (hH : okH H) (htb : 0 ≤ tb ∧ tb < 65536) :
    doL lsn H [(f, -1, ((⟨#[1]⟩ : ByteArray), none)), (f, 0, (putS tb 2, none)), (f, 1, (txD v, some v))] = some (H.set f.toNat (freshP lsn tb v)) ∧ okP (freshP lsn tb v) := by
  obtain ⟨H', h1, h2, _⟩ := put_fresh (f := f) hH hl hf hv htb
  have hr1 := right_kind hl
  have hs2 := putS2_size tb
  have hsv : (txD v).size ≤ 309 := (show Desc (txD v) (some v) from ⟨hv, rfl⟩).le
  obtain ⟨c1, p1, d1, e1⟩ := doL_cons h1
  obtain ⟨c2, p2, d2, e2⟩ := doL_cons e1
  obtain ⟨c3, p3, d3, e3⟩ := doL_cons e2
  have hp1 : p1 = (1, lsn, []) := by
    rw [do1, if_pos rfl, if_pos rfl] at d1; exact (Option.some.inj d1).symm
  subst hp1
  have hp2 : p2 = (1, lsn, putI [] 0 (putS tb 2, none)) := by
    dsimp only at d2
    rw [getD_set' hf, do1, if_neg (show ¬ (0 : Int) = -1 by decide)] at d2
    split at d2
    · exact (Option.some.inj d2).symm
    · cases d2
  subst hp2
  have hp3 : p3 = freshP lsn tb v := by
    dsimp only at d3
    rw [getD_set' (by rw [List.length_set]; exact hf), do1, if_neg (show ¬ (1 : Int) = -1 by decide)] at d3
    split at d3
    · exact (Option.some.inj d3).symm
    · cases d3
  subst hp3
  have e4 : H' = H.set f.toNat (freshP lsn tb v) := by
    have := Option.some.inj e3
    dsimp only at this
    rw [List.set_set, List.set_set] at this
    exact this.symm
  refine ⟨by rw [h1, e4], h2 _ ?_⟩
  rw [e4]
  have hlt : f.toNat < (H.set f.toNat (freshP lsn tb v)).length := by rw [List.length_set]; omega
  have hm := List.getElem_mem hlt
  rw [List.getElem_set_self] at hm
  exact hm
theorem fresh_its (lsn tb : Int) {v : VerD} (hv : okD v) (j : Nat) : (freshP lsn tb v).2.2.getD j it0 = if j = 1 then (txD v, some v) else if j = 0 then (putS tb 2, none) else it0 := by
  have hs2 := putS2_size tb
  have hci : (putS tb 2, (none : Option VerD)).1.size = 0 → (putS tb 2, (none : Option VerD)) = it0 := fun h => by rw [hs2] at h; cases h
  have hc1 : clean ([] : List Itm) := fun x hx => by cases hx
  have hg1 := fun j => putI_get (K := 0) (i := (putS tb 2, (none : Option VerD))) hc1 hci j
  have hc2 : clean (putI [] 0 (putS tb 2, none)) := fun x hx h0 => by
    rcases withI_mem (List.mem_of_mem_take hx) with rfl | h1 | h1
    · exact hci h0
    · cases h1
    · exact h1
  have hg2 := fun j => putI_get (K := 1) (i := (txD v, some v)) hc2 (Desc.clean (x := (txD v, some v)) ⟨hv, rfl⟩) j
  show (putI (putI [] 0 (putS tb 2, none)) 1 (txD v, some v)).getD j it0 = _
  rw [hg2, hg1]
  rfl
theorem fresh_size (lsn tb : Int) (v : VerD) : sizeT (plainL (fstI (freshP lsn tb v).2.2)) ≤ 8 + (txD v).size := by
  have hs2 := putS2_size tb
  have h1 := sizeT_plain (fstI (putI [] 0 (putS tb 2, none)))
  have h2 : sizeT (fstI (putI [] 0 (putS tb 2, none))) ≤ sizeT (withL (fstI []) 0 (putS tb 2)) := by rw [putI_fst]; exact sizeT_plain _
  have h3 := sizeT_with (fstI []) 0 (putS tb 2)
  have h0 : sizeT (plainL (fstI [])) = 0 := rfl
  have h4 : sizeT (fstI (freshP lsn tb v).2.2) ≤ sizeT (withL (fstI (putI [] 0 (putS tb 2, none))) 1 (txD v)) := by
    show sizeT (fstI (putI (putI [] 0 (putS tb 2, none)) 1 (txD v, some v))) ≤ _
    rw [putI_fst]; exact sizeT_plain _
  have h5 := sizeT_with (fstI (putI [] 0 (putS tb 2, none))) 1 (txD v)
  have h6 := sizeT_plain (fstI (freshP lsn tb v).2.2)
  omega
theorem one_size (x : Int) : (vbytesF [(1, x, ByteArray.empty)]).size = 10 := by
  have hr : rrightF [(1, x, ByteArray.empty)] = true := rfl
  rw [vbytesF, if_pos hr, strL_size]
  show (bytesTo [(1, x, ByteArray.empty)] 1).length = 10
  have h8 : (putS x 8).data.toList.length = 8 := by
    have := putS_size x 8 (by omega)
    rw [← this]; rfl
  simp [bytesTo, valB, h8]
theorem one_row (x : Int) (h : -9223372036854775808 ≤ x ∧ x ≤ 9223372036854775807) : rrightF [(1, x, ByteArray.empty)] = true ∧ NsOk [(1, x, ByteArray.empty)] ∧ plainR [(1, x, ByteArray.empty)] = [(1, x, ByteArray.empty)] :=
  ⟨rfl, fun v hv _ => by rw [List.mem_singleton] at hv; subst hv; exact h, rfl⟩
/-- a second version fits behind the first -/
theorem room_two {lsn tb : Int} {v v2 : VerD} {ok : Bool} (hok : ok = true) (hp : okP (freshP lsn tb v)) (hv : okD v) (h1 : (txD v).size ≤ 100) (h2 : (txD v2).size ≤ 100) : roomI ⟨(freshP lsn tb v).1, (freshP lsn tb v).2.1, (freshP lsn tb v).2.2, ok⟩ (txD v2) = 2 := by
  subst hok
  have hg := fresh_its lsn tb hv
  have hs := txD_size hv
  have hfr : freeF (freshP lsn tb v).1 (freshP lsn tb v).2.1 (fstI (freshP lsn tb v).2.2) 1 = 2 := by
    rw [freeF, if_pos hp.1, show (max (1 : Int) 0).toNat = 1 from rfl]
    rcases frL_spec (fstI (freshP lsn tb v).2.2) (24 - 1) 1 with ⟨_, h3⟩ | ⟨j, h3, h4, h5, h6, h7⟩
    · have := h3 2 (by omega) (by omega)
      rw [item_get, fstI_getD, hg, if_neg (by decide), if_neg (by decide)] at this
      have h8 := (emp_size it0.1).2 rfl
      rw [h8] at this; cases this
    · rw [h3]
      have e1 : j ≠ 1 := fun e => by
        subst e
        rw [item_get, fstI_getD, hg, if_pos rfl] at h6
        have := (emp_size _).1 h6
        dsimp only at this
        omega
      have e2 : ¬ 2 < j := fun e => by
        have := h7 2 (by omega) e
        rw [item_get, fstI_getD, hg, if_neg (by decide), if_neg (by decide)] at this
        have h8 := (emp_size it0.1).2 rfl
        rw [h8] at this; cases this
      omega
  have hz := fresh_size lsn tb v
  have hpe : putErr (freshP lsn tb v).1 (freshP lsn tb v).2.1 (fstI (freshP lsn tb v).2.2) 2 (txD v2) = 0 := putErr_small hp.1 (by omega) (by omega) (by show _ + 2 * (2 + 1) + _ ≤ 498; omega)
  show (if true = true then (if putErr _ _ (fstI (freshP lsn tb v).2.2) (freeF _ _ (fstI (freshP lsn tb v).2.2) 1) _ = 0 then freeF _ _ (fstI (freshP lsn tb v).2.2) 1 else 0) else 0) = 2
  rw [hfr, if_pos rfl, if_pos hpe]
theorem rd_ver {H : List PgI} (hH : okH H) {n j : Int} {v : VerD} (h : atF (pvL H n) j = some v) : rdF (pvL H n) j = -1 := by
  have h1 := at_in h
  have hv := at_ok hH h
  have hd : Desc ((pvL H n).its.getD j.toNat it0).1 ((pvL H n).its.getD j.toNat it0).2 := by
    rw [pvL_in h1.1]
    rcases getD_mem_or (H.getD n.toNat pgi0).2.2 it0 j.toNat with h2 | h2
    · exact (hH.get (by omega)).2 _ h2
    · dsimp only
      rw [h2]; show (0 : Nat) < 8; decide
  rw [atF_eq, if_pos ⟨h1.2.1, h1.2.2⟩] at h
  rw [h] at hd
  have hs := txD_size hd.1
  rw [rdF, if_neg]
  rintro ⟨_, _, _, h4, _⟩
  rw [hd.2] at h4
  omega
theorem ch_two {v : PV} {n : Int} {a b : VerD} (h1 : atF v 1 = some a) (h2 : atF v 2 = some b) (hr : rdF v 1 = -1) (hn : a.2.2.1 = n) (hs : a.2.2.2.1 = 2) (hh : b.2.2.2.2.1 = true) (hb : b.2.2.1 ≠ n) : chF v n 1 = [(1, a), (2, b)] := by
  rw [chF, hr, if_neg (by decide), show decide ((0 : Int) ≤ -1) = false from rfl]
  rw [chR_go (by decide) (by rw [beq_self_eq_true]; rfl) (by rw [h1]; rfl), h1]
  show (1, a) :: chR v n false 23 [1] a.2.2.1 a.2.2.2.1 = _
  rw [hn, hs, chR_go (by decide) (by rw [beq_self_eq_true]; rfl) (by rw [h2, chStop]; show (false || ((false || true) && !(b.2.2.2.2.1))) = false; rw [hh]; rfl), h2]
  show (1, a) :: (2, b) :: chR v n false 22 [2, 1] b.2.2.1 b.2.2.2.1 = _
  rw [chR_no (by rw [beq_false_of_ne hb]; rfl)]
/-- the two versions of the example, and its pages -/
def V1 : VerD := (7, 0, -1, 0, false, [(1, 1, ByteArray.empty)])
def V2 : VerD := (8, 0, -1, 0, true, [(1, 2, ByteArray.empty)])
def H0s : List PgI := (List.replicate 6 p0).map absP
def H1s : List PgI := H0s.set 5 (freshP 1 3 V1)
theorem V1_ok : okD V1 := okD_new false (xid := 7) (by decide) (one_row 1 (by decide)).1 (one_row 1 (by decide)).2.1 rfl
theorem V2_ok : okD V2 := okD_new true (xid := 8) (by decide) (one_row 2 (by decide)).1 (one_row 2 (by decide)).2.1 rfl
theorem V1_size : (txD V1).size = 18 := by
  rw [txD_size V1_ok]
  show 8 + (vbytesF [(1, 1, ByteArray.empty)]).size = 18
  rw [one_size]
theorem V2_size : (txD V2).size = 18 := by
  rw [txD_size V2_ok]
  show 8 + (vbytesF [(1, 2, ByteArray.empty)]).size = 18
  rw [one_size]
theorem H0s_ok : okH H0s := free_ok 6
theorem H0s_len : H0s.length = 6 := rfl
theorem H1s_do : doL 1 H0s [(5, -1, ((⟨#[1]⟩ : ByteArray), none)), (5, 0, (putS 3 2, none)), (5, 1, (txD V1, some V1))] = some H1s ∧ okP (freshP 1 3 V1) := fresh_do (f := 5) (by decide) ⟨by decide, by rw [H0s_len]; decide⟩ V1_ok H0s_ok (by decide)
theorem H1s_ok : okH H1s := H0s_ok.set H1s_do.2
theorem H1s_len : H1s.length = 6 := by rw [H1s, List.length_set]; rfl
theorem H1s_pv : pvL H1s 5 = ⟨(freshP 1 3 V1).1, (freshP 1 3 V1).2.1, (freshP 1 3 V1).2.2, true⟩ := pvL_at (H := H0s) (n := 5) ⟨by decide, by rw [H0s_len]; decide⟩
theorem H1s_hd : hdF (pvL H1s 5) = true := by
  rw [H1s_pv, hdF_eq]
  dsimp only
  rw [fresh_its 1 3 V1_ok, if_neg (by decide), if_pos rfl]
  dsimp only
  rw [putS2_size]; rfl
theorem H1s_at : atF (pvL H1s 5) 1 = some V1 := by
  rw [atF_eq, if_pos ⟨H1s_hd, by decide⟩, H1s_pv]
  dsimp only
  rw [show (1 : Int).toNat = 1 from rfl, fresh_its 1 3 V1_ok, if_pos rfl]
theorem ins_s : insA (pvL H0s) 5 3 [] (txD V1) = ((5, 1), bgL 5 3 ++ [(5, 1, txD V1)], 0) := by
  rw [insA, if_neg (by rw [insBad_no V1_ok (by decide) (by decide)]; decide)]
  rfl
theorem upd_s : updA (pvL H1s) (-1) 3 [5] 5 1 8 true [(1, 2, ByteArray.empty)] = ((5, 2), true, [(5, 2, txD V2), (5, 1, oldB V1 8 5 2)], 0) := by
  have hq : updQ (pvL H1s) 5 true (newB 8 true [(1, 2, ByteArray.empty)]) = 2 := by
    rw [updQ, if_pos rfl, H1s_pv]
    exact room_two (v2 := V2) rfl H1s_do.2 V1_ok (by rw [V1_size]; decide) (by rw [V2_size]; decide)
  have hbad : updBad 8 (newB 8 true [(1, 2, ByteArray.empty)]) (-1) 3 = false := by
    rw [updBad, show newB 8 true [(1, 2, ByteArray.empty)] = txD V2 from rfl, ne_emp V2_ok]; rfl
  rw [updA, H1s_at, if_neg (by simp), if_neg (by rw [hbad]; decide), updR, hq, if_pos (by decide), H1s_at]
  rfl
theorem H2s : ∃ H2 : List PgI, ∃ es : List EdI, es.map edD = [(5, 2, txD V2), (5, 1, oldB V1 8 5 2)] ∧ (∀ e ∈ es, Desc e.2.2.1 e.2.2.2) ∧ doL 2 H1s es = some H2 ∧ okH H2 ∧ H2.length = 6 ∧ chF (pvL H2 5) 5 1 = [(1, (7, 8, 5, 2, false, [(1, 1, ByteArray.empty)])), (2, V2)] := by
  have hu := upd_law (lsn := 2) (tb := 3) (xid := 8) (ns := [5]) (hot := true) (rs := [(1, 2, ByteArray.empty)]) H1s_ok (by decide) (by rw [H1s_len]; decide) H1s_at (by decide) (by decide) (one_row 2 (by decide)).1 (one_row 2 (by decide)).2.1 rfl
  rw [upd_s] at hu
  rcases hu with h | h
  · exact absurd h (by decide)
  · skip
    obtain ⟨_, es, H2, h1, h2, h3, h4, h5, h6, h7, _⟩ := h
    refine ⟨H2, es, h1, h2, h3, h4, by rw [h5, H1s_len], ?_⟩
    exact ch_two (a := (7, 8, 5, 2, false, [(1, 1, ByteArray.empty)])) (b := V2) h6 h7 (rd_ver h4 h6) rfl rfl rfl (by decide)
end
end Go.Proofs.YtjnplglnnamfdaaDoor
namespace Go.Proofs.YtjnplglnnamfdaaDoor
section
open Go.RowKit
set_option linter.unusedVariables false
set_option linter.unusedSimpArgs false
def eFnd (t : TypeId) (v : Value) (l : List (Nat × VerD)) (n : Int) : Ent := ⟨v.ownBlock.toList, fun W => ∃ ks : List FK, ks.map Prod.fst = l ∧ W.ownsRow 0 t 8 v l.length (ks.flatMap (cellsF n))⟩
theorem eFnd_loc (t : TypeId) (v : Value) (l : List (Nat × VerD)) (n : Int) : (eFnd t v l n).loc := fun W W' hk h => by
  obtain ⟨ks, h1, h2⟩ := h
  exact ⟨ks, h1, eO_loc t 8 v l.length (ks.flatMap (cellsF n)) W W' hk h2⟩
theorem eFnd_new {W W' : World} {t : TypeId} {v : Value} {l : List (Nat × VerD)} {n : Int} {ks : List FK} (hk : ks.map Prod.fst = l) (h : W'.ownsRow W.heap.size t 8 v l.length (ks.flatMap (cellsF n))) :
    (eFnd t v l n).holds W' ∧ (eFnd t v l n).loc ∧ ∀ k ∈ (eFnd t v l n).fp, W.heap.size ≤ k ∧ k < W'.heap.size := by
  have h2 := eO_new (W := W) h
  exact ⟨⟨ks, hk, h2.1⟩, eFnd_loc _ _ _ _, h2.2.2⟩
end
end Go.Proofs.YtjnplglnnamfdaaDoor
namespace Go.Proofs.YtjnplglnnamfdaaDoor
section
open Go.RowKit
set_option linter.unusedVariables false
set_option linter.unusedSimpArgs false
section
variable {o : Oper} {ρ : Operand → Value} {W : World}
theorem run_eqT {x y : Operand} {a b c d : Int} {r : Bool} (h : o.op = .binOp .eql 24 x y 24) (hx : ρ x = .agg #[.int .i64 a, .int .i64 b]) (hy : ρ y = .agg #[.int .i64 c, .int .i64 d]) (hr : (a == c && b == d) = r) :
    (execOp ρ o).run Tryd.prog W = .ok (.value (.bool r)) W := by
  subst hr
  unfold execOp; rw [h]
  simp [go_sem, hx, hy]
  by_cases h1 : a = c <;> by_cases h2 : b = d <;> simp [h1, h2]
theorem run_neT {x y : Operand} {a b c d : Int} {r : Bool} (h : o.op = .binOp .neq 24 x y 24) (hx : ρ x = .agg #[.int .i64 a, .int .i64 b]) (hy : ρ y = .agg #[.int .i64 c, .int .i64 d]) (hr : (!(a == c && b == d)) = r) :
    (execOp ρ o).run Tryd.prog W = .ok (.value (.bool r)) W := by
  subst hr
  unfold execOp; rw [h]
  simp [go_sem, hx, hy]
  by_cases h1 : a = c <;> by_cases h2 : b = d <;> simp [h1, h2]
end
theorem pgs_ok {w : World} {PA : Option Addr} {pc n : Nat} {Ps : List PgD} {H : List PgI} (h : PgsAt w PA Ps) (hl : Ps.length = n) (hH : Ps.map absP = H) : PgsOk w 30 (.agg #[.slice PA n pc]) (pvL H) := by
  subst hl hH
  rw [← pvF_abs]
  exact rpages_ok PA pc Ps w h
theorem rtable_n {w : World} {PA : Option Addr} {pc n : Nat} {Ps : List PgD} {H : List PgI} (h : PgsAt w PA Ps) (hl : Ps.length = n) (hH : Ps.map absP = H) (x : Int) : Calls Tryd.prog 8 #[.agg #[.slice PA n pc], .int .i64 x] w (Ret (.int .i64 (tbF (pvL H x))) w) := by
  subst hl hH
  rw [← pvF_abs]
  exact rtable_any PA pc Ps x w h
theorem ins_eq {f : Nat} {args : Array Value} {w : World} {R R' : (Int × Int) × List EdD × Int} (h : R = R') (hc : Calls Tryd.prog f args w (InsPost R w)) : Calls Tryd.prog f args w (InsPost R' w) := h ▸ hc
theorem upd_eq {f : Nat} {args : Array Value} {w : World} {R R' : (Int × Int) × Bool × List EdD × Int} (h : R = R') (hc : Calls Tryd.prog f args w (UpdPost R w)) : Calls Tryd.prog f args w (UpdPost R' w) := h ▸ hc
theorem lp_eq {f : Nat} {args : Array Value} {w : World} {t : TypeId} {n : Int} {R R' : List (Nat × VerD)} (h : R = R') (hc : Calls Tryd.prog f args w (LPost t R n w)) : Calls Tryd.prog f args w (LPost t R' n w) := h ▸ hc
def L1s : List EdD := bgL 5 3 ++ [(5, 1, txD V1)]
def L2s : List EdD := [(5, 2, txD V2), (5, 1, oldB V1 8 5 2)]
theorem ins_s1 : insA (pvL H0s) 5 3 [] (txD V1) = ((5, 1), L1s, 0) := ins_s
theorem upd_s1 : updA (pvL H1s) (-1) 3 [5] 5 1 8 true [(1, 2, ByteArray.empty)] = ((5, 2), true, L2s, 0) := upd_s
def es1s : List EdI := [(5, -1, ((⟨#[1]⟩ : ByteArray), none)), (5, 0, (putS 3 2, none)), (5, 1, (txD V1, some V1))]
theorem es1s_desc : ∀ e ∈ es1s, Desc e.2.2.1 e.2.2.2 := fun e he => by
  simp only [es1s, List.mem_cons, List.not_mem_nil, or_false] at he
  rcases he with rfl | rfl | rfl
  · show (1 : Nat) < 8; decide
  · show (putS 3 2).size < 8; rw [putS2_size]; decide
  · exact ⟨V1_ok, rfl⟩
theorem ks_at {ks : List FK} {l : List (Nat × VerD)} {m : Nat} (h : ks.map Prod.fst = l) (hm : m < l.length) : (ks.getD m fk0).1 = l.getD m (0, zD) := by
  subst h
  rw [List.length_map] at hm
  rw [List.getD_eq_getElem?_getD, List.getD_eq_getElem?_getD, List.getElem?_map, List.getElem?_eq_getElem hm]
  rfl
set_option maxRecDepth 100000 in
set_option maxHeartbeats 8000000 in
theorem sanity09_any  (w : World) (hN : NoneAt w) :
    Calls Tryd.prog 5 #[] w (Ret (.bool true) w) := by
  go_enter Tryd.func5, Tryd.ntmps5
  have hst0 := St.start w
  refine wp_seq (wp_region_P [0] [.k 0 (.bool false)] [(0, 0, 1, 1)] hst0 fun W1 hst1 => ?_)
  refine then_normal (wp_seq (wp_region_Y [0, 0, 3] [[], [], [1]] [[0], [1], [2]] [[], [], [1]] [.a 14, .a 1, .n] (fun ix σ β X => match ix with | 0 => σ 14 = .agg #[.slice (sA (tg (β 14) 0)) 6 6] ∧ X 0 = eO 86 3 (.slice (sA (tg (β 14) 0)) 6 6) 6 ((List.replicate 6 p0).flatMap pgC) | 1 => σ 1 = vp (pb (β 1)) ∧ X 1 = eB (pb (β 1)) 30 #[.slice none 0 0] | 2 => X 2 = eB (pb (β 1)) 30 #[.slice (sA (tg (β 14) 0)) 6 6] | _ => True) [0, 2] [0, 1, 2] [(1, 1, 1, 2), (12, 0, 1, 13)] hst1 ?_ ?_ ?_))
  · exact fun ix _ _ _ _ _ _ hs hb hx h => match ix, h with
    | 0, h => by dsimp only at h ⊢; rw [← hs 14 rfl, ← hb 14 rfl, ← hx 0 rfl]; exact h
    | 1, h => by dsimp only at h ⊢; rw [← hs 1 rfl, ← hb 1 rfl, ← hx 1 rfl]; exact h
    | 2, h => by dsimp only at h ⊢; rw [← hb 1 rfl, ← hb 14 rfl, ← hx 2 rfl]; exact h
    | _ + 3, _ => trivial
  · refine ⟨?_, ?_, ?_, trivial⟩
    · refine sv_any rfl rfl fun ρ β W X cx => ?_
      refine DoesU.call (run_callF (args := #[vi 6]) rfl cx.sees rfl (by kernel_rfl) (map1 (cx.co _))) ?_
      refine (free09_any 6 _ (by decide)).mono ?_
      rintro e W1 ⟨A4, rfl, ho, hx⟩
      refine ⟨_, rfl, post_call [eO 86 3 (.slice A4 6 6) 6 ((List.replicate 6 p0).flatMap pgC)] rfl rfl hx (one_new (eO_new ho)) (List.pairwise_singleton _ _) (fun σ β' X' hs hb hv hN => ?_)⟩
      have hv1 := (hv 14 rfl).1; have hv2 := (hv 14 rfl).2
      exact ⟨hv1.trans (by rw [hv2]; rfl), (by rw [hv2]; exact (List.cons.inj hN).1)⟩
    · refine sv_any rfl rfl fun ρ β W X cx => ?_
      exact dv_alloc (cs := #[.slice none 0 0]) rfl (by kernel_rfl) rfl rfl (fun σ β' X' hs hb hv hx => ⟨hv, hx⟩)
    · refine sv_any rfl rfl fun ρ β W X cx => ?_
      exact dv_store (n := 1) rfl (dTn (cx.an 1)).1 (dTn (cx.an 0)).1 (by kernel_rfl) (by kernel_rfl) (by kernel_rfl) cx (dTn (cx.an 1)).2 rfl (nle rfl) (by kernel_rfl) rfl rfl rfl (fun σ β' X' hs hb hx => by rw [hb 1, hb 14]; exact hx)
  intro σ β X W2 hD hst2 fr hfr
  obtain ⟨A14_2, hu_A14_2⟩ : ∃ z, sA (tg (β 14) 0) = z := ⟨_, rfl⟩
  obtain ⟨B1_2, hu_B1_2⟩ : ∃ z, pb (β 1) = z := ⟨_, rfl⟩
  simp only [exq 0 ((dTn (hD 0 lq)).2), exq 2 ((dTn (hD 2 lq))), hu_A14_2, hu_B1_2] at hst2
  simp only [ed 14 ((dTn (hD 0 lq)).1), ed 1 ((dTn (hD 1 lq)).1), hu_A14_2, hu_B1_2] at hfr
  clear hD hu_A14_2 hu_B1_2; subst hfr; clear σ β X
  refine then_normal (wp_seq ?_)
  have hx3_ := hst2.ext
  have hb3_1 := hst2.blk 1 rfl
  have ha3_0 := At.of_ownN ((hst2.get 0 rfl).holds : World.ownsRow _ 0 86 3 (.slice A14_2 6 6) 6 ((List.replicate 6 p0).flatMap pgC))
  have hN_3 := hN.ext hx3_
  have hS3_ := St.start W2
  clear hst2
  have hP0 := free_at ha3_0 (by decide)
  refine wp_region_Y [0, 1, 0, 0, 12, 31, 63, 127, 127, 127, 0, 1279, 3583, 8191] [[], [], [], [], [], [0], [], [], [], [], [], [2]] [[], [], [], [0], [], [1], [], [], [], [], [2], [3]] [[], [], [], [], [], [], [], [], [], [], [], [2]] [.c 16 (.agg #[.slice A14_2 6 6]), .c 17 (.iface 30 (.agg #[.slice A14_2 6 6])), .k 18 (.agg #[vi (-1), vi 0]), .a 19, .a 20, .a 21, .a 15, .c 22 (.agg #[vi 5, vi 1]), .a 23, .c 24 (vi 0), .a 2, .n, .a 3, .k 4 (vi 0)] (fun ix σ β X => match ix with | 0 => True | 1 => True | 2 => True | 3 => σ 19 = .slice (sA (β 19)) 1 1 ∧ X 0 = eO 82 3 (.slice (sA (β 19)) 1 1) 1 (flatR [(1, 1, ByteArray.empty)]) | 4 => σ 20 = .agg #[vi 7, vi 0, vi (-1), vi 0, .bool false, .slice (sA (β 19)) 1 1] | 5 => σ 21 = .tuple #[.agg #[vi 5, vi 1], .slice (sA (tg (β 21) 1)) 3 (sC (tg (β 21) 1)), vi 0] ∧ X 1 = eO 99 3 (.slice (sA (tg (β 21) 1)) 3 (sC (tg (β 21) 1))) 3 (L1s.flatMap cellsE) | 6 => σ 15 = .tuple #[.agg #[vi 5, vi 1], .slice (sA (tg (β 21) 1)) 3 (sC (tg (β 21) 1)), vi 0] | 7 => True | 8 => σ 23 = .slice (sA (tg (β 21) 1)) 3 (sC (tg (β 21) 1)) | 9 => True | 10 => σ 2 = vp (pb (β 2)) ∧ X 2 = eB (pb (β 2)) 24 #[vi 0, vi 0] | 11 => X 3 = eB (pb (β 2)) 24 #[vi 5, vi 1] | 12 => σ 3 = .slice (sA (tg (β 21) 1)) 3 (sC (tg (β 21) 1)) | _ => True) [0, 1, 3] [0, 1, 3, 4, 5, 6, 7, 8, 9, 10, 11, 12] [(2, 10, 4, 5), (10, 6, 1, 11), (0, 0, 6, 6), (0, 7, 3, 3)] hS3_ ?_ ?_ ?_
  · exact fun ix _ _ _ _ _ _ hs hb hx h => match ix, h with
    | 3, h => by dsimp only at h ⊢; rw [← hs 19 rfl, ← hb 19 rfl, ← hx 0 rfl]; exact h
    | 4, h => by dsimp only at h ⊢; rw [← hs 20 rfl, ← hb 19 rfl]; exact h
    | 5, h => by dsimp only at h ⊢; rw [← hs 21 rfl, ← hb 21 rfl, ← hx 1 rfl]; exact h
    | 6, h => by dsimp only at h ⊢; rw [← hs 15 rfl, ← hb 21 rfl]; exact h
    | 8, h => by dsimp only at h ⊢; rw [← hs 23 rfl, ← hb 21 rfl]; exact h
    | 10, h => by dsimp only at h ⊢; rw [← hs 2 rfl, ← hb 2 rfl, ← hx 2 rfl]; exact h
    | 11, h => by dsimp only at h ⊢; rw [← hb 2 rfl, ← hx 3 rfl]; exact h
    | 12, h => by dsimp only at h ⊢; rw [← hs 3 rfl, ← hb 21 rfl]; exact h
    | 0, _ | 1, _ | 2, _ | 7, _ | 9, _ | _ + 13, _ => trivial
  · refine ⟨?_, ?_, ?_, ?_, ?_, ?_, ?_, ?_, ?_, ?_, ?_, ?_, trivial⟩
    · exact xs4 rfl id fun cx => run_loadB (n := 1) rfl (by kernel_rfl) (by kernel_rfl) (cx.ou 1) (Blk.ext hb3_1 cx.upd.to_ext) (nle rfl) rfl
    · exact sv0 rfl rfl rfl rfl rfl (fun _ _ _ h => h) fun ρ β W X cx => by
        have fF16 : ρ (.tmp 16) = .agg #[.slice A14_2 6 6] := (cx.an 0)
        simp [go_sem, fF16]
    · refine sv_any rfl rfl fun ρ β W X cx => ?_
      refine DoesU.call (run_callF (args := #[vi 1]) rfl cx.sees rfl (by kernel_rfl) (map1 (cx.co _))) ?_
      refine (whole09_any 1 _).mono ?_
      rintro e W1 ⟨A4, rfl, ho, hx⟩
      refine ⟨_, rfl, post_call [eO 82 3 (.slice A4 1 1) 1 (flatR [(1, 1, ByteArray.empty)])] rfl rfl hx (one_new (eO_new ho)) (List.pairwise_singleton _ _) (fun σ β' X' hs hb hv hN => ?_)⟩
      have hv1 := (hv 19 rfl).1; have hv2 := (hv 19 rfl).2
      exact ⟨hv1.trans (by rw [hv2]; rfl), (by rw [hv2]; exact (List.cons.inj hN).1)⟩
    · exact sv rfl rfl rfl rfl rfl _ (fun _ _ _ h => h) (fun β β' h => by rw [h 19 (by decide)]) fun ρ β W X cx => run_buildL rfl (pmc (cx.co _) (pmc (cx.an 2) (pmc (dTn (cx.an 3)).1 pmn))) (by kernel_rfl)
    · refine sv_any rfl rfl fun ρ β W X cx => ?_
      refine DoesU.call (run_callF (args := #[.iface 30 (.agg #[.slice A14_2 6 6]), .slice none 0 0, vi 5, vi 3, .agg #[vi 7, vi 0, vi (-1), vi 0, .bool false, .slice (sA (β 19)) 1 1]]) rfl cx.sees rfl (by kernel_rfl) (map5 (cx.an 1) (cx.co _) (cx.co _) (cx.co _) (dTn (cx.an 4)))) ?_
      refine (ins_eq ins_s1 (hinsert_any _ _ (pvL H0s) _ _ [] 5 3 7 0 (-1) 0 false _ _ [(1, 1, ByteArray.empty)] _ (pgs_ok (hP0.ext cx.upd.to_ext) (List.length_replicate ..) rfl) (At.nil _ _) (by decide) (At.of_ownN (cx.row (dTn (cx.an 3)).2 rfl)) (by decide) (hN_3.ext cx.upd.to_ext))).mono ?_
      rintro e W1 ⟨A4, c4, rfl, ho_, hx⟩
      refine ⟨_, rfl, post_call [eO 99 3 (.slice A4 3 c4) 3 (L1s.flatMap cellsE)] rfl rfl hx (one_new (eO_new (n := 3) (xs := L1s.flatMap cellsE) ho_)) (List.pairwise_singleton _ _) (fun σ β' X' hs hb hv hN => ?_)⟩
      have hv1 := (hv 21 rfl).1; have hv2 := (hv 21 rfl).2
      exact ⟨hv1.trans (by rw [hv2]; rfl), (by rw [hv2]; exact (List.cons.inj hN).1)⟩
    · exact sv rfl rfl rfl rfl rfl _ (fun _ _ _ h => h) (fun β β' h => by rw [h 21 (by decide)]) fun ρ β W X cx => run_move' rfl (dTn (cx.an 5)).1
    · exact xs4 rfl id fun cx => run_extract' rfl (dTn (cx.an 6)) rfl
    · exact sv rfl rfl rfl rfl rfl _ (fun _ _ _ h => h) (fun β β' h => by rw [h 21 (by decide)]) fun ρ β W X cx => run_extract' rfl (dTn (cx.an 6)) rfl
    · exact xs4 rfl id fun cx => run_extract' rfl (dTn (cx.an 6)) rfl
    · refine sv_any rfl rfl fun ρ β W X cx => ?_
      exact dv_alloc (cs := #[vi 0, vi 0]) rfl (by kernel_rfl) rfl rfl (fun σ β' X' hs hb hv hx => ⟨hv, hx⟩)
    · refine sv_any rfl rfl fun ρ β W X cx => ?_
      exact dv_store (n := 2) rfl (dTn (cx.an 10)).1 (cx.an 7) (by kernel_rfl) (by kernel_rfl) (by kernel_rfl) cx (dTn (cx.an 10)).2 rfl (nle rfl) (by kernel_rfl) rfl rfl rfl (fun σ β' X' hs hb hx => by rw [hb 2]; exact hx)
    · exact sv rfl rfl rfl rfl rfl _ (fun _ _ _ h => h) (fun β β' h => by rw [h 21 (by decide)]) fun ρ β W X cx => run_assign' rfl (dTn (cx.an 8))
  intro σ β X W4 hD hst4 fr hfr
  obtain ⟨A19_4, hu_A19_4⟩ : ∃ z, sA (β 19) = z := ⟨_, rfl⟩
  obtain ⟨A21_4, hu_A21_4⟩ : ∃ z, sA (tg (β 21) 1) = z := ⟨_, rfl⟩
  obtain ⟨c21_4, hu_c21_4⟩ : ∃ z, sC (tg (β 21) 1) = z := ⟨_, rfl⟩
  obtain ⟨B2_4, hu_B2_4⟩ : ∃ z, pb (β 2) = z := ⟨_, rfl⟩
  simp only [exq 0 ((dTn (hD 3 lq)).2), exq 1 ((dTn (hD 5 lq)).2), exq 3 ((dTn (hD 11 lq))), hu_A19_4, hu_A21_4, hu_c21_4, hu_B2_4] at hst4
  simp only [ed 19 ((dTn (hD 3 lq)).1), ed 20 ((dTn (hD 4 lq))), ed 21 ((dTn (hD 5 lq)).1), ed 15 ((dTn (hD 6 lq))), ed 23 ((dTn (hD 8 lq))), ed 2 ((dTn (hD 10 lq)).1), ed 3 ((dTn (hD 12 lq))), hu_A19_4, hu_A21_4, hu_c21_4, hu_B2_4] at hfr
  clear hD hu_A19_4 hu_A21_4 hu_c21_4 hu_B2_4; subst hfr; clear σ β X
  refine then_normal (wp_seq (wp_region_Y [0, 0, 3, 7, 15, 15, 0, 95, 255] [[], [], [1], [], [], [], [], [4]] [[], [], [3], [], [], [], [4], [5]] [[], [], [], [], [], [], [], [4]] [.c 26 (.agg #[.slice A14_2 6 6]), .k 27 (.slice A21_4 3 c21_4), .a 28, .a 25, .a 29, .c 30 (.bool true), .a 5, .n, .k 6 (.bool true)] (fun ix σ β X => match ix with | 0 => True | 1 => True | 2 => σ 28 = .tuple #[.agg #[.slice (sA (tg (tg (β 28) 0) 0)) 6 (sC (tg (tg (β 28) 0) 0))], .bool true] ∧ X 3 = eDo (List.replicate 6 p0) H1s 6 (sA (tg (tg (β 28) 0) 0)) ((X 3).fp) | 3 => σ 25 = .tuple #[.agg #[.slice (sA (tg (tg (β 28) 0) 0)) 6 (sC (tg (tg (β 28) 0) 0))], .bool true] | 4 => σ 29 = .agg #[.slice (sA (tg (tg (β 28) 0) 0)) 6 (sC (tg (tg (β 28) 0) 0))] | 5 => True | 6 => σ 5 = vp (pb (β 5)) ∧ X 4 = eB (pb (β 5)) 30 #[.slice none 0 0] | 7 => X 5 = eB (pb (β 5)) 30 #[.slice (sA (tg (tg (β 28) 0) 0)) 6 (sC (tg (tg (β 28) 0) 0))] | _ => True) [0, 1, 2, 3, 5] [0, 2, 3, 4, 5, 6, 7] [(5, 6, 3, 7), (18, 3, 1, 19), (0, 0, 3, 3), (0, 4, 2, 2)] hst4 ?_ ?_ ?_))
  · exact fun ix _ _ _ _ _ _ hs hb hx h => match ix, h with
    | 2, h => by dsimp only at h ⊢; rw [← hs 28 rfl, ← hb 28 rfl, ← hx 3 rfl]; exact h
    | 3, h => by dsimp only at h ⊢; rw [← hs 25 rfl, ← hb 28 rfl]; exact h
    | 4, h => by dsimp only at h ⊢; rw [← hs 29 rfl, ← hb 28 rfl]; exact h
    | 6, h => by dsimp only at h ⊢; rw [← hs 5 rfl, ← hb 5 rfl, ← hx 4 rfl]; exact h
    | 7, h => by dsimp only at h ⊢; rw [← hb 5 rfl, ← hb 28 rfl, ← hx 5 rfl]; exact h
    | 0, _ | 1, _ | 5, _ | _ + 8, _ => trivial
  · refine ⟨?_, ?_, ?_, ?_, ?_, ?_, ?_, trivial⟩
    · exact xs4 rfl id fun cx => run_loadB (n := 1) rfl (by kernel_rfl) (by kernel_rfl) (cx.ou 1) (Blk.ext hb3_1 cx.upd.to_ext) (nle rfl) rfl
    · refine sv_any rfl rfl fun ρ β W X cx => ?_
      refine DoesU.call (run_callF (args := #[.agg #[.slice A14_2 6 6], .slice A21_4 3 c21_4, vi 1]) rfl cx.sees rfl (by kernel_rfl) (map3 (cx.an 0) (cx.an 1) (cx.co _))) ?_
      refine (rdo9_n (es := es1s) (List.length_replicate ..) (by have := congrArg List.length (rfl : List.map edD es1s = L1s); rw [List.length_map] at this; exact this) (by decide) (hP0.ext cx.upd.to_ext) (by rw [← edD_cells, (rfl : List.map edD es1s = L1s)]; exact (At.of_ownN (cx.ri 1 rfl))) (by first | omega | decide) es1s_desc ⟨by decide, by decide⟩ (by rw [(rfl : List.map absP (List.replicate 6 p0) = H0s)]; exact H0s_ok) (by rw [(rfl : List.map absP (List.replicate 6 p0) = H0s)]; exact H1s_do.1)).mono ?_
      rintro e W1 ⟨A4, c4, fp4, rfl, hc⟩
      refine ⟨_, rfl, post_st [eDo (List.replicate 6 p0) H1s 6 A4 fp4] rfl rfl hc (fun σ β' X' hs hb hv hN => ?_)⟩
      have hv1 := (hv 28 rfl).1; have hv2 := (hv 28 rfl).2
      exact ⟨hv1.trans (by rw [hv2]; rfl), (by rw [hv2]; exact eDo_self ((List.cons.inj hN).1))⟩
    · exact sv rfl rfl rfl rfl rfl _ (fun _ _ _ h => h) (fun β β' h => by rw [h 28 (by decide)]) fun ρ β W X cx => run_move' rfl (dTn (cx.an 2)).1
    · exact sv rfl rfl rfl rfl rfl _ (fun _ _ _ h => h) (fun β β' h => by rw [h 28 (by decide)]) fun ρ β W X cx => run_extract' rfl (dTn (cx.an 3)) rfl
    · exact xs4 rfl id fun cx => run_extract' rfl (dTn (cx.an 3)) rfl
    · refine sv_any rfl rfl fun ρ β W X cx => ?_
      exact dv_alloc (cs := #[.slice none 0 0]) rfl (by kernel_rfl) rfl rfl (fun σ β' X' hs hb hv hx => ⟨hv, hx⟩)
    · refine sv_any rfl rfl fun ρ β W X cx => ?_
      exact dv_store (n := 1) rfl (dTn (cx.an 6)).1 (dTn (cx.an 4)) (by kernel_rfl) (by kernel_rfl) (by kernel_rfl) cx (dTn (cx.an 6)).2 rfl (nle rfl) (by kernel_rfl) rfl rfl rfl (fun σ β' X' hs hb hx => by rw [hb 5, hb 28]; exact hx)
  intro σ β X W5 hD hst5 fr hfr
  obtain ⟨A28_5, hu_A28_5⟩ : ∃ z, sA (tg (tg (β 28) 0) 0) = z := ⟨_, rfl⟩
  obtain ⟨c28_5, hu_c28_5⟩ : ∃ z, sC (tg (tg (β 28) 0) 0) = z := ⟨_, rfl⟩
  obtain ⟨B5_5, hu_B5_5⟩ : ∃ z, pb (β 5) = z := ⟨_, rfl⟩
  have xX3 : X 3 = _ := (dTn (hD 2 lq)).2
  obtain ⟨r3_5, hu_r3_5⟩ : ∃ z, (X 3).fp = z := ⟨_, rfl⟩
  rw [hu_r3_5] at xX3
  clear hu_r3_5
  simp only [xX3, exq 5 ((dTn (hD 7 lq))), hu_A28_5, hu_c28_5, hu_B5_5] at hst5
  simp only [ed 28 ((dTn (hD 2 lq)).1), ed 25 ((dTn (hD 3 lq))), ed 29 ((dTn (hD 4 lq))), ed 5 ((dTn (hD 6 lq)).1), hu_A28_5, hu_c28_5, hu_B5_5] at hfr
  clear hD xX3 hu_A28_5 hu_c28_5 hu_B5_5; subst hfr; clear σ β X
  refine then_normal (wp_seq (wp_seq ?_))
  have hx6_ := hst5.ext
  have hX6_ := hx3_.trans hx6_
  have hB6_0 := Blk.ext hb3_1 hx6_
  have hb6_2 := hst5.blk 2 rfl
  have hb6_4 := hst5.blk 4 rfl
  have hA6_0 := ha3_0.ext hx6_
  have ha6_0 := At.of_ownN ((hst5.get 0 rfl).holds : World.ownsRow _ 0 82 3 (.slice A19_4 1 1) 1 (flatR [(1, 1, ByteArray.empty)]))
  have ha6_1 := At.of_ownN ((hst5.get 1 rfl).holds : World.ownsRow _ 0 99 3 (.slice A21_4 3 c21_4) 3 (L1s.flatMap cellsE))
  have hN_6 := hN_3.ext hx6_
  have hP0_6 := hP0.ext hx6_
  obtain ⟨Ps7_, hH7_, hP7_⟩ := eDo_at ((hst5.get 3 rfl).holds) hP0_6 H1s_ok (by rw [H1s_len]; decide)
  have hl7_ : Ps7_.length = 6 := by have := congrArg List.length hH7_; rw [List.length_map, H1s_len] at this; exact this
  have hS6_ := St.start W5
  clear hst5
  refine wp_region_Z [0, 1, 3, 7, 15, 31, 63, 127, 127, 511, 1023, 2047, 4095, 8191, 16383, 32767] [] [.k 31 (vi 0), .k 32 (.bool false), .k 33 (.bool false), .k 34 (.bool true), .k 35 (.bool false), .k 36 (.bool false), .k 37 (.bool false), .c 38 (.agg #[vi 5, vi 1]), .k 39 (.agg #[vi 5, vi 1]), .c 40 (.bool false), .k 41 (.bool false), .k 42 (.bool false), .k 43 (.slice A21_4 3 c21_4), .k 44 (vi 3), .k 45 (.bool false), .k 46 (.bool false)] [] [7, 9] [(31, 0, 16, 47)] hS6_ ?_ fun W8 hst8 => ?_
  · refine ⟨?_, ?_, trivial⟩
    · exact xs5 rfl id (fun cx => (cx.an 6)) fun cx => run_loadB (n := 2) rfl (by kernel_rfl) (by kernel_rfl) (cx.ou 2) (Blk.ext hb6_2 cx.upd.to_ext) (nle rfl) rfl
    · exact xs5 rfl id (fun cx => (cx.an 6)) fun cx => run_neT rfl (cx.an 7) (cx.an 8) (by decide)
  refine then_normal (wp_cond_false (show Act.eval _ _ = .bool false from rfl) (wp_skip (then_normal (wp_seq (wp_region_Y [0, 1, 0, 0, 0, 31, 63, 127, 127, 127, 127, 0, 2303, 6655, 15359, 32767] [[], [], [], [], [], [0, 1], [], [], [], [], [], [], [3]] [[], [], [0], [], [1], [2], [], [], [], [], [], [3], [4]] [[], [], [], [], [], [], [], [], [], [], [], [], [3]] [.c 48 (.agg #[.slice A28_5 6 c28_5]), .c 49 (.iface 30 (.agg #[.slice A28_5 6 c28_5])), .a 50, .c 51 (.agg #[vi 5, vi 1]), .a 52, .a 53, .a 47, .c 54 (.agg #[vi 5, vi 2]), .c 55 (.bool true), .a 56, .c 57 (vi 0), .a 7, .n, .k 8 (.bool true), .a 9, .k 10 (vi 0)] (fun ix σ β X => match ix with | 0 => True | 1 => True | 2 => σ 50 = .slice (sA (β 50)) 1 1 ∧ X 0 = eO 3 1 (.slice (sA (β 50)) 1 1) 1 ([vi 5]) | 3 => True | 4 => σ 52 = .slice (sA (β 52)) 1 1 ∧ X 1 = eO 82 3 (.slice (sA (β 52)) 1 1) 1 (flatR [(1, 2, ByteArray.empty)]) | 5 => σ 53 = .tuple #[.agg #[vi 5, vi 2], .bool true, .slice (sA (tg (β 53) 2)) 2 (sC (tg (β 53) 2)), vi 0] ∧ X 2 = eO 99 3 (.slice (sA (tg (β 53) 2)) 2 (sC (tg (β 53) 2))) 2 (L2s.flatMap cellsE) | 6 => σ 47 = .tuple #[.agg #[vi 5, vi 2], .bool true, .slice (sA (tg (β 53) 2)) 2 (sC (tg (β 53) 2)), vi 0] | 7 => True | 8 => True | 9 => σ 56 = .slice (sA (tg (β 53) 2)) 2 (sC (tg (β 53) 2)) | 10 => True | 11 => σ 7 = vp (pb (β 7)) ∧ X 3 = eB (pb (β 7)) 24 #[vi 0, vi 0] | 12 => X 4 = eB (pb (β 7)) 24 #[vi 5, vi 2] | 13 => True | 14 => σ 9 = .slice (sA (tg (β 53) 2)) 2 (sC (tg (β 53) 2)) | _ => True) [0, 1, 2, 4] [0, 1, 2, 3, 4, 5, 6, 7, 8, 9, 10, 11, 12, 14] [(7, 11, 5, 11), (36, 6, 1, 37), (0, 0, 6, 6), (0, 7, 4, 4)] hst8 ?_ ?_ ?_)))))
  · exact fun ix _ _ _ _ _ _ hs hb hx h => match ix, h with
    | 2, h => by dsimp only at h ⊢; rw [← hs 50 rfl, ← hb 50 rfl, ← hx 0 rfl]; exact h
    | 4, h => by dsimp only at h ⊢; rw [← hs 52 rfl, ← hb 52 rfl, ← hx 1 rfl]; exact h
    | 5, h => by dsimp only at h ⊢; rw [← hs 53 rfl, ← hb 53 rfl, ← hx 2 rfl]; exact h
    | 6, h => by dsimp only at h ⊢; rw [← hs 47 rfl, ← hb 53 rfl]; exact h
    | 9, h => by dsimp only at h ⊢; rw [← hs 56 rfl, ← hb 53 rfl]; exact h
    | 11, h => by dsimp only at h ⊢; rw [← hs 7 rfl, ← hb 7 rfl, ← hx 3 rfl]; exact h
    | 12, h => by dsimp only at h ⊢; rw [← hb 7 rfl, ← hx 4 rfl]; exact h
    | 14, h => by dsimp only at h ⊢; rw [← hs 9 rfl, ← hb 53 rfl]; exact h
    | 0, _ | 1, _ | 3, _ | 7, _ | 8, _ | 10, _ | 13, _ | _ + 15, _ => trivial
  · refine ⟨?_, ?_, ?_, ?_, ?_, ?_, ?_, ?_, ?_, ?_, ?_, ?_, ?_, ?_, trivial⟩
    · exact xs4 rfl id fun cx => run_loadB (n := 1) rfl (by kernel_rfl) (by kernel_rfl) (cx.ou 5) (Blk.ext hb6_4 cx.upd.to_ext) (nle rfl) rfl
    · exact sv0 rfl rfl rfl rfl rfl (fun _ _ _ h => h) fun ρ β W X cx => by
        have fF48 : ρ (.tmp 48) = .agg #[.slice A28_5 6 c28_5] := (cx.an 0)
        simp [go_sem, fF48]
    · refine sv_any rfl rfl fun ρ β W X cx => ?_
      exact dv_lit (e := 3) (xs := [vi 5]) rfl (by simp [go_sem, cx.sees.const]) rfl (by decide) rfl rfl (fun σ β' X' hs hb hv hx => ⟨hv, hx⟩)
    · exact xs4 rfl id fun cx => run_loadB (n := 2) rfl (by kernel_rfl) (by kernel_rfl) (cx.ou 2) (Blk.ext hb6_2 cx.upd.to_ext) (nle rfl) rfl
    · refine sv_any rfl rfl fun ρ β W X cx => ?_
      refine DoesU.call (run_callF (args := #[vi 2]) rfl cx.sees rfl (by kernel_rfl) (map1 (cx.co _))) ?_
      refine (whole09_any 2 _).mono ?_
      rintro e W1 ⟨A4, rfl, ho, hx⟩
      refine ⟨_, rfl, post_call [eO 82 3 (.slice A4 1 1) 1 (flatR [(1, 2, ByteArray.empty)])] rfl rfl hx (one_new (eO_new ho)) (List.pairwise_singleton _ _) (fun σ β' X' hs hb hv hN => ?_)⟩
      have hv1 := (hv 52 rfl).1; have hv2 := (hv 52 rfl).2
      exact ⟨hv1.trans (by rw [hv2]; rfl), (by rw [hv2]; exact (List.cons.inj hN).1)⟩
    · refine sv_any rfl rfl fun ρ β W X cx => ?_
      refine DoesU.call (run_callF (args := #[.iface 30 (.agg #[.slice A28_5 6 c28_5]), .slice (sA (β 50)) 1 1, vi (-1), vi 3, .agg #[vi 5, vi 1], vi 8, .slice (sA (β 52)) 1 1, .bool true]) rfl cx.sees rfl (by kernel_rfl) (map8 (cx.an 1) (dTn (cx.an 2)).1 (cx.co _) (cx.co _) (cx.an 3) (cx.co _) (dTn (cx.an 4)).1 (cx.co _))) ?_
      refine (upd_eq upd_s1 (hupdate_any _ _ (pvL H1s) _ _ [5] (-1) 3 5 1 8 _ _ [(1, 2, ByteArray.empty)] true _ (pgs_ok (hP7_.ext cx.upd.to_ext) hl7_ hH7_) (At.of_own (cx.row (dTn (cx.an 2)).2 rfl)) (by decide) (At.of_ownN (cx.row (dTn (cx.an 4)).2 rfl)) (by decide) (hN_6.ext cx.upd.to_ext))).mono ?_
      rintro e W1 ⟨A4, c4, rfl, ho_, hx⟩
      refine ⟨_, rfl, post_call [eO 99 3 (.slice A4 2 c4) 2 (L2s.flatMap cellsE)] rfl rfl hx (one_new (eO_new (n := 2) (xs := L2s.flatMap cellsE) ho_)) (List.pairwise_singleton _ _) (fun σ β' X' hs hb hv hN => ?_)⟩
      have hv1 := (hv 53 rfl).1; have hv2 := (hv 53 rfl).2
      exact ⟨hv1.trans (by rw [hv2]; rfl), (by rw [hv2]; exact (List.cons.inj hN).1)⟩
    · exact sv rfl rfl rfl rfl rfl _ (fun _ _ _ h => h) (fun β β' h => by rw [h 53 (by decide)]) fun ρ β W X cx => run_move' rfl (dTn (cx.an 5)).1
    · exact xs4 rfl id fun cx => run_extract' rfl (dTn (cx.an 6)) rfl
    · exact xs4 rfl id fun cx => run_extract' rfl (dTn (cx.an 6)) rfl
    · exact sv rfl rfl rfl rfl rfl _ (fun _ _ _ h => h) (fun β β' h => by rw [h 53 (by decide)]) fun ρ β W X cx => run_extract' rfl (dTn (cx.an 6)) rfl
    · exact xs4 rfl id fun cx => run_extract' rfl (dTn (cx.an 6)) rfl
    · refine sv_any rfl rfl fun ρ β W X cx => ?_
      exact dv_alloc (cs := #[vi 0, vi 0]) rfl (by kernel_rfl) rfl rfl (fun σ β' X' hs hb hv hx => ⟨hv, hx⟩)
    · refine sv_any rfl rfl fun ρ β W X cx => ?_
      exact dv_store (n := 2) rfl (dTn (cx.an 11)).1 (cx.an 7) (by kernel_rfl) (by kernel_rfl) (by kernel_rfl) cx (dTn (cx.an 11)).2 rfl (nle rfl) (by kernel_rfl) rfl rfl rfl (fun σ β' X' hs hb hx => by rw [hb 7]; exact hx)
    · exact sv rfl rfl rfl rfl rfl _ (fun _ _ _ h => h) (fun β β' h => by rw [h 53 (by decide)]) fun ρ β W X cx => run_assign' rfl (dTn (cx.an 9))
  intro σ β X W9 hD hst9 fr hfr
  obtain ⟨A50_9, hu_A50_9⟩ : ∃ z, sA (β 50) = z := ⟨_, rfl⟩
  obtain ⟨A52_9, hu_A52_9⟩ : ∃ z, sA (β 52) = z := ⟨_, rfl⟩
  obtain ⟨A53_9, hu_A53_9⟩ : ∃ z, sA (tg (β 53) 2) = z := ⟨_, rfl⟩
  obtain ⟨c53_9, hu_c53_9⟩ : ∃ z, sC (tg (β 53) 2) = z := ⟨_, rfl⟩
  obtain ⟨B7_9, hu_B7_9⟩ : ∃ z, pb (β 7) = z := ⟨_, rfl⟩
  simp only [exq 0 ((dTn (hD 2 lq)).2), exq 1 ((dTn (hD 4 lq)).2), exq 2 ((dTn (hD 5 lq)).2), exq 4 ((dTn (hD 12 lq))), hu_A50_9, hu_A52_9, hu_A53_9, hu_c53_9, hu_B7_9] at hst9
  simp only [ed 50 ((dTn (hD 2 lq)).1), ed 52 ((dTn (hD 4 lq)).1), ed 53 ((dTn (hD 5 lq)).1), ed 47 ((dTn (hD 6 lq))), ed 56 ((dTn (hD 9 lq))), ed 7 ((dTn (hD 11 lq)).1), ed 9 ((dTn (hD 14 lq))), hu_A50_9, hu_A52_9, hu_A53_9, hu_c53_9, hu_B7_9] at hfr
  clear hD hu_A50_9 hu_A52_9 hu_A53_9 hu_c53_9 hu_B7_9; subst hfr; clear σ β X
  refine then_normal (wp_seq ?_)
  obtain ⟨H2, es2, hem2, hed2, hdo2, hok2, hl2, hch⟩ := H2s
  refine wp_region_Y [0, 0, 3, 7, 15, 15, 0, 95, 255] [[], [], [2], [], [], [], [], [5]] [[], [], [4], [], [], [], [5], [6]] [[], [], [], [], [], [], [], [5]] [.c 59 (.agg #[.slice A28_5 6 c28_5]), .k 60 (.slice A53_9 2 c53_9), .a 61, .a 58, .a 62, .c 63 (.bool true), .a 11, .n, .k 12 (.bool true)] (fun ix σ β X => match ix with | 0 => True | 1 => True | 2 => σ 61 = .tuple #[.agg #[.slice (sA (tg (tg (β 61) 0) 0)) 6 (sC (tg (tg (β 61) 0) 0))], .bool true] ∧ X 4 = eDo Ps7_ H2 6 (sA (tg (tg (β 61) 0) 0)) ((X 4).fp) | 3 => σ 58 = .tuple #[.agg #[.slice (sA (tg (tg (β 61) 0) 0)) 6 (sC (tg (tg (β 61) 0) 0))], .bool true] | 4 => σ 62 = .agg #[.slice (sA (tg (tg (β 61) 0) 0)) 6 (sC (tg (tg (β 61) 0) 0))] | 5 => True | 6 => σ 11 = vp (pb (β 11)) ∧ X 5 = eB (pb (β 11)) 30 #[.slice none 0 0] | 7 => X 6 = eB (pb (β 11)) 30 #[.slice (sA (tg (tg (β 61) 0) 0)) 6 (sC (tg (tg (β 61) 0) 0))] | _ => True) [0, 1, 2, 3, 4, 6] [0, 2, 3, 4, 5, 6, 7] [(11, 6, 3, 13), (45, 3, 1, 46), (0, 0, 3, 3), (0, 4, 2, 2)] hst9 ?_ ?_ ?_
  · exact fun ix _ _ _ _ _ _ hs hb hx h => match ix, h with
    | 2, h => by dsimp only at h ⊢; rw [← hs 61 rfl, ← hb 61 rfl, ← hx 4 rfl]; exact h
    | 3, h => by dsimp only at h ⊢; rw [← hs 58 rfl, ← hb 61 rfl]; exact h
    | 4, h => by dsimp only at h ⊢; rw [← hs 62 rfl, ← hb 61 rfl]; exact h
    | 6, h => by dsimp only at h ⊢; rw [← hs 11 rfl, ← hb 11 rfl, ← hx 5 rfl]; exact h
    | 7, h => by dsimp only at h ⊢; rw [← hb 11 rfl, ← hb 61 rfl, ← hx 6 rfl]; exact h
    | 0, _ | 1, _ | 5, _ | _ + 8, _ => trivial
  · refine ⟨?_, ?_, ?_, ?_, ?_, ?_, ?_, trivial⟩
    · exact xs4 rfl id fun cx => run_loadB (n := 1) rfl (by kernel_rfl) (by kernel_rfl) (cx.ou 5) (Blk.ext hb6_4 cx.upd.to_ext) (nle rfl) rfl
    · refine sv_any rfl rfl fun ρ β W X cx => ?_
      refine DoesU.call (run_callF (args := #[.agg #[.slice A28_5 6 c28_5], .slice A53_9 2 c53_9, vi 2]) rfl cx.sees rfl (by kernel_rfl) (map3 (cx.an 0) (cx.an 1) (cx.co _))) ?_
      refine (rdo9_n (es := es2) hl7_ (by have := congrArg List.length (hem2 : List.map edD es2 = L2s); rw [List.length_map] at this; exact this) (by decide) (hP7_.ext cx.upd.to_ext) (by rw [← edD_cells, (hem2 : List.map edD es2 = L2s)]; exact (At.of_ownN (cx.ri 2 rfl))) (by first | omega | decide) hed2 ⟨by decide, by decide⟩ (by rw [(hH7_ : List.map absP Ps7_ = H1s)]; exact H1s_ok) (by rw [(hH7_ : List.map absP Ps7_ = H1s)]; exact hdo2)).mono ?_
      rintro e W1 ⟨A4, c4, fp4, rfl, hc⟩
      refine ⟨_, rfl, post_st [eDo Ps7_ H2 6 A4 fp4] rfl rfl hc (fun σ β' X' hs hb hv hN => ?_)⟩
      have hv1 := (hv 61 rfl).1; have hv2 := (hv 61 rfl).2
      exact ⟨hv1.trans (by rw [hv2]; rfl), (by rw [hv2]; exact eDo_self ((List.cons.inj hN).1))⟩
    · exact sv rfl rfl rfl rfl rfl _ (fun _ _ _ h => h) (fun β β' h => by rw [h 61 (by decide)]) fun ρ β W X cx => run_move' rfl (dTn (cx.an 2)).1
    · exact sv rfl rfl rfl rfl rfl _ (fun _ _ _ h => h) (fun β β' h => by rw [h 61 (by decide)]) fun ρ β W X cx => run_extract' rfl (dTn (cx.an 3)) rfl
    · exact xs4 rfl id fun cx => run_extract' rfl (dTn (cx.an 3)) rfl
    · refine sv_any rfl rfl fun ρ β W X cx => ?_
      exact dv_alloc (cs := #[.slice none 0 0]) rfl (by kernel_rfl) rfl rfl (fun σ β' X' hs hb hv hx => ⟨hv, hx⟩)
    · refine sv_any rfl rfl fun ρ β W X cx => ?_
      exact dv_store (n := 1) rfl (dTn (cx.an 6)).1 (dTn (cx.an 4)) (by kernel_rfl) (by kernel_rfl) (by kernel_rfl) cx (dTn (cx.an 6)).2 rfl (nle rfl) (by kernel_rfl) rfl rfl rfl (fun σ β' X' hs hb hx => by rw [hb 11, hb 61]; exact hx)
  intro σ β X W10 hD hst10 fr hfr
  obtain ⟨A61_10, hu_A61_10⟩ : ∃ z, sA (tg (tg (β 61) 0) 0) = z := ⟨_, rfl⟩
  obtain ⟨c61_10, hu_c61_10⟩ : ∃ z, sC (tg (tg (β 61) 0) 0) = z := ⟨_, rfl⟩
  obtain ⟨B11_10, hu_B11_10⟩ : ∃ z, pb (β 11) = z := ⟨_, rfl⟩
  have xX4 : X 4 = _ := (dTn (hD 2 lq)).2
  obtain ⟨r4_10, hu_r4_10⟩ : ∃ z, (X 4).fp = z := ⟨_, rfl⟩
  rw [hu_r4_10] at xX4
  clear hu_r4_10
  simp only [xX4, exq 6 ((dTn (hD 7 lq))), hu_A61_10, hu_c61_10, hu_B11_10] at hst10
  simp only [ed 61 ((dTn (hD 2 lq)).1), ed 58 ((dTn (hD 3 lq))), ed 62 ((dTn (hD 4 lq))), ed 11 ((dTn (hD 6 lq)).1), hu_A61_10, hu_c61_10, hu_B11_10] at hfr
  clear hD xX4 hu_A61_10 hu_c61_10 hu_B11_10; subst hfr; clear σ β X
  refine then_normal (wp_seq ?_)
  have hx11_ := hst10.ext
  have hX11_ := hX6_.trans hx11_
  have hB11_0 := Blk.ext hB6_0 hx11_
  have hB11_1 := Blk.ext hb6_2 hx11_
  have hB11_2 := Blk.ext hb6_4 hx11_
  have hb11_3 := hst10.blk 3 rfl
  have hb11_5 := hst10.blk 5 rfl
  have hA11_0 := hA6_0.ext hx11_
  have hA11_1 := ha6_0.ext hx11_
  have hA11_2 := ha6_1.ext hx11_
  have ha11_0 := At.of_own ((hst10.get 0 rfl).holds : World.ownsRow _ 0 3 1 (.slice A50_9 1 1) 1 ([vi 5]))
  have ha11_1 := At.of_ownN ((hst10.get 1 rfl).holds : World.ownsRow _ 0 82 3 (.slice A52_9 1 1) 1 (flatR [(1, 2, ByteArray.empty)]))
  have ha11_2 := At.of_ownN ((hst10.get 2 rfl).holds : World.ownsRow _ 0 99 3 (.slice A53_9 2 c53_9) 2 (L2s.flatMap cellsE))
  have hN_11 := hN_6.ext hx11_
  have hP0_11 := hP0_6.ext hx11_
  have hP7__11 := hP7_.ext hx11_
  obtain ⟨Ps12_, hH12_, hP12_⟩ := eDo_at ((hst10.get 4 rfl).holds) hP7__11 hok2 (by rw [hl2]; decide)
  have hl12_ : Ps12_.length = 6 := by have := congrArg List.length hH12_; rw [List.length_map, hl2] at this; exact this
  have hS11_ := St.start W10
  clear hst10
  refine wp_region_Y [0, 1, 0, 7, 15] [] [[], [], [], [0]] [] [.c 64 (.agg #[.slice A61_10 6 c61_10]), .c 65 (.iface 30 (.agg #[.slice A61_10 6 c61_10])), .c 66 (.agg #[vi 5, vi 1]), .a 67, .a 13] (fun ix σ β X => match ix with | 0 => True | 1 => True | 2 => True | 3 => σ 67 = .slice (sA (β 67)) 2 (sC (β 67)) ∧ X 0 = eFnd 78 (.slice (sA (β 67)) 2 (sC (β 67))) [(1, (7, 8, 5, 2, false, [(1, 1, ByteArray.empty)])), (2, V2)] 5 | 4 => σ 13 = .slice (sA (β 67)) 2 (sC (β 67)) | _ => True) [0] [0, 1, 2, 3, 4] [(13, 4, 1, 14), (50, 0, 4, 54)] hS11_ ?_ ?_ ?_
  · exact fun ix _ _ _ _ _ _ hs hb hx h => match ix, h with
    | 3, h => by dsimp only at h ⊢; rw [← hs 67 rfl, ← hb 67 rfl, ← hx 0 rfl]; exact h
    | 4, h => by dsimp only at h ⊢; rw [← hs 13 rfl, ← hb 67 rfl]; exact h
    | 0, _ | 1, _ | 2, _ | _ + 5, _ => trivial
  · refine ⟨?_, ?_, ?_, ?_, ?_, trivial⟩
    · exact xs4 rfl id fun cx => run_loadB (n := 1) rfl (by kernel_rfl) (by kernel_rfl) (cx.ou 11) (Blk.ext hb11_5 cx.upd.to_ext) (nle rfl) rfl
    · exact sv0 rfl rfl rfl rfl rfl (fun _ _ _ h => h) fun ρ β W X cx => by
        have fF64 : ρ (.tmp 64) = .agg #[.slice A61_10 6 c61_10] := (cx.an 0)
        simp [go_sem, fF64]
    · exact xs4 rfl id fun cx => run_loadB (n := 2) rfl (by kernel_rfl) (by kernel_rfl) (cx.ou 2) (Blk.ext hB11_1 cx.upd.to_ext) (nle rfl) rfl
    · refine sv_any rfl rfl fun ρ β W X cx => ?_
      refine DoesU.call (run_callF (args := #[.iface 30 (.agg #[.slice A61_10 6 c61_10]), .agg #[vi 5, vi 1]]) rfl cx.sees rfl (by kernel_rfl) (map2 (cx.an 1) (cx.an 2))) ?_
      refine (lp_eq hch (hchain_any _ _ (pvL H2) 5 1 _ (pgs_ok (hP12_.ext cx.upd.to_ext) hl12_ hH12_) (hN_11.ext cx.upd.to_ext) (by decide))).mono ?_
      rintro e W1 ⟨A4, c4, ks4, hks4, rfl, ho_, hx⟩
      refine ⟨_, rfl, post_call [eFnd 78 (.slice A4 2 c4) [(1, (7, 8, 5, 2, false, [(1, 1, ByteArray.empty)])), (2, V2)] 5] rfl rfl hx (one_new (eFnd_new hks4 ho_)) (List.pairwise_singleton _ _) (fun σ β' X' hs hb hv hN => ?_)⟩
      have hv1 := (hv 67 rfl).1; have hv2 := (hv 67 rfl).2
      exact ⟨hv1.trans (by rw [hv2]; rfl), (by rw [hv2]; exact (List.cons.inj hN).1)⟩
    · exact sv rfl rfl rfl rfl rfl _ (fun _ _ _ h => h) (fun β β' h => by rw [h 67 (by decide)]) fun ρ β W X cx => run_assign' rfl (dTn (cx.an 3)).1
  intro σ β X W13 hD hst13 fr hfr
  obtain ⟨A67_13, hu_A67_13⟩ : ∃ z, sA (β 67) = z := ⟨_, rfl⟩
  obtain ⟨c67_13, hu_c67_13⟩ : ∃ z, sC (β 67) = z := ⟨_, rfl⟩
  simp only [exq 0 ((dTn (hD 3 lq)).2), hu_A67_13, hu_c67_13] at hst13
  simp only [ed 67 ((dTn (hD 3 lq)).1), ed 13 ((dTn (hD 4 lq))), hu_A67_13, hu_c67_13] at hfr
  clear hD hu_A67_13 hu_c67_13; subst hfr; clear σ β X
  refine then_normal (wp_seq ?_)
  obtain ⟨ks, hks, hKO⟩ := (hst13.get 0 rfl).holds
  have hm14 := St.repl (L1 := []) (L2 := []) (E' := eO 78 8 (.slice A67_13 2 c67_13) 2 (ks.flatMap (cellsF 5))) hst13 rfl (fun _ => hKO) (eO_loc _ _ _ _ _)
  simp only [List.cons_append, List.nil_append] at hm14
  have hkl : ks.length = 2 := ks_len hks
  have hk0 := ks_at (m := 0) hks (by decide)
  have hk1 := ks_at (m := 1) hks (by decide)
  have hd16 : (5 == 5 && ((ks.getD 1 fk0).1.1 : Int) == 2) = true := (by rw [hk1]; rfl)
  have hd17 : (((ks.getD 0 fk0).1.2.2.1) == 8) = true := (by rw [hk0]; rfl)
  refine wp_region_Z [0, 1, 3, 7, 15, 31, 63, 127, 255, 511, 511, 2047, 4095, 8191, 16383, 32767, 65535, 131071, 262143, 524287, 1048575, 2097151, 4194303, 524287, 16777215, 33554431, 67108863, 134217727, 268435455, 536870911, 1073741823, 2147483647, 4294967295, 8589934591, 17179869183] [[], [], [], [], [], [], [], [], [], [], [], [], [], [], [], [], [], [], [], [], [0], [], [0], [], [], [], [], [], [0], [], [], [0]] [.k 68 (vi 0), .k 69 (.bool true), .k 70 (.bool true), .k 71 (.bool true), .k 72 (.bool true), .k 73 (.bool true), .k 74 (.bool true), .k 75 (.bool true), .k 76 (.bool true), .c 77 (.agg #[vi 5, vi 2]), .k 78 (.agg #[vi 5, vi 2]), .c 79 (.bool true), .k 80 (.bool true), .k 81 (.bool true), .k 82 (.slice A67_13 2 c67_13), .k 83 (vi 2), .k 84 (.bool true), .k 85 (.bool true), .k 86 (.bool true), .k 87 (.slice A67_13 2 c67_13), .c 88 (.pointer (some ((ad A67_13).add (1 * 8)))), .c 89 (.pointer (some ((ad A67_13).add (1 * 8 + 0)))), .c 90 (.agg #[vi 5, vi (((ks.getD 1 fk0).1.1 : Int))]), .c 91 (.agg #[vi 5, vi 2]), .c 92 (.bool true), .k 93 (.bool true), .k 94 (.bool true), .k 95 (.slice A67_13 2 c67_13), .c 96 (.pointer (some ((ad A67_13).add (0 * 8)))), .c 97 (.pointer (some ((ad A67_13).add (0 * 8 + 2)))), .c 98 (.pointer (some ((ad A67_13).add (0 * 8 + 2 + 1)))), .c 99 (vi ((ks.getD 0 fk0).1.2.2.1)), .e 100 (.bool (((ks.getD 0 fk0).1.2.2.1) == 8)) (.bool true) (congrArg Value.bool hd17), .k 101 (.bool true), .k 0 (.bool true)] [0] [9, 11, 20, 21, 22, 23, 24, 28, 29, 30, 31] [(0, 34, 1, 1), (67, 0, 34, 101)] hm14 ?_ fun W15 hst15 => ?_
  · refine ⟨?_, ?_, ?_, ?_, ?_, ?_, ?_, ?_, ?_, ?_, ?_, trivial⟩
    · exact xs5 rfl id (fun cx => (cx.an 8)) fun cx => run_loadB (n := 2) rfl (by kernel_rfl) (by kernel_rfl) (cx.ou 7) (Blk.ext hb11_3 cx.upd.to_ext) (nle rfl) rfl
    · exact xs5 rfl id (fun cx => (cx.an 8)) fun cx => run_eqT rfl (cx.an 9) (cx.an 10) (by decide)
    · exact xs5 rfl id (fun cx => (cx.an 18)) fun cx => run_indexSlM (e := 78) (m := 1) (sz := 8) rfl (by kernel_rfl) (by kernel_rfl) (cx.an 19) (cx.co _) (by omega) (by omega) (At.of_ownN (cx.ri 0 rfl)) (by have h_ := flatLen (f := (cellsF 5)) (sz := 8) (cellsF_len 5) ks; show 0 < (List.flatMap (cellsF 5) ks).length; omega)
    · exact xs5 rfl id (fun cx => (cx.an 18)) fun cx => run_fieldAd rfl (by kernel_rfl) (cx.an 20)
    · exact xs5 rfl id (fun cx => (cx.an 18)) fun cx => run_loadElt (f := (cellsF 5)) (m := 1) (sz := 8) (off := 0) (n := 2) rfl (by kernel_rfl) (by kernel_rfl) (cx.an 21) rfl (cellsF_len 5) (At.of_ownN (cx.ri 0 rfl)) (getD_some (ts := ks) (m := 1) fk0 (by omega)) (fun k hk => match k, hk with | 0, _ => rfl | 1, _ => rfl | k + 2, hk => absurd hk (by omega))
    · exact xs5 rfl id (fun cx => (cx.an 18)) fun cx => run_loadB (n := 2) rfl (by kernel_rfl) (by kernel_rfl) (cx.ou 7) (Blk.ext hb11_3 cx.upd.to_ext) (nle rfl) rfl
    · exact s5 rfl (fun _ _ _ h => h.trans (congrArg Value.bool hd16)) (fun cx => (cx.an 18)) fun cx => run_eqT rfl (cx.an 22) (cx.an 23) rfl
    · exact xs5 rfl id (fun cx => (cx.an 26)) fun cx => run_indexSlM (e := 78) (m := 0) (sz := 8) rfl (by kernel_rfl) (by kernel_rfl) (cx.an 27) (cx.co _) (by omega) (by omega) (At.of_ownN (cx.ri 0 rfl)) (by have h_ := flatLen (f := (cellsF 5)) (sz := 8) (cellsF_len 5) ks; show 0 < (List.flatMap (cellsF 5) ks).length; omega)
    · exact xs5 rfl id (fun cx => (cx.an 26)) fun cx => run_fieldAd rfl (by kernel_rfl) (cx.an 28)
    · exact xs5 rfl id (fun cx => (cx.an 26)) fun cx => run_fieldAd rfl (by kernel_rfl) (cx.an 29)
    · exact xs5 rfl id (fun cx => (cx.an 26)) fun cx => run_load1 rfl (by kernel_rfl) (cx.an 30) (At.eltc (f := (cellsF 5)) (k := 3) (cellsF_len 5) (At.of_ownN (cx.ri 0 rfl)) (getD_some (ts := ks) (m := 0) fk0 (by omega)) rfl)
  refine then_normal (wp_ret ?_)
  refine bodyPost_ret (v := .bool true) (results_tmp Tryd.results5 rfl) rfl ?_
  exact Ret.bool rfl (hX11_.trans hst15.ext)
end
end Go.Proofs.YtjnplglnnamfdaaDoor
namespace Go.Proofs.YtjnplglnnamfdaaDoor
section
open Go.RowKit
set_option linter.unusedVariables false
set_option linter.unusedSimpArgs false
theorem madeR_plain (k : Nat) (l : List Int) : plainR (madeR k l) = madeR k l := by
  rw [plainR]
  have : ∀ rs : List Val, (∀ v ∈ rs, plainV v = v) → rs.map plainV = rs := fun rs h => by
    induction rs with
    | nil => rfl
    | cons a rs ih => rw [List.map_cons, h a (List.mem_cons_self ..), ih fun v hv => h v (List.mem_cons_of_mem _ hv)]
  exact this _ fun v hv => by obtain ⟨x, hx, rfl⟩ := madeR_mem hv; exact (valF_ok hx).2.1
theorem madeR_ns (k : Nat) (l : List Int) : NsOk (madeR k l) := fun v hv _ => by
  obtain ⟨x, hx, rfl⟩ := madeR_mem hv
  exact (valF_ok hx).2.2
theorem madeR_rright {k : Nat} (hk : k ≤ 6) (l : List Int) : rrightF (madeR k l) = true := by
  rw [rrightF, Bool.and_eq_true, decide_eq_true_eq, List.all_eq_true]
  refine ⟨fun v hv => ?_, ?_⟩
  · obtain ⟨x, hx, rfl⟩ := madeR_mem hv
    exact (valF_ok hx).1
  · rw [madeR_len]; omega
theorem md_okH {s : List Int} {Ps : List PgD} (hl : Ps.length = 5) (hM : ∀ n, n < 5 → MdOk s n (Ps.getD n p0)) : okH (Ps.map absP) := fun p hp => by
  obtain ⟨q, hq, rfl⟩ := List.mem_map.1 hp
  obtain ⟨n, hn, rfl⟩ := List.mem_iff_getElem.1 hq
  have h := hM n (by omega)
  rw [List.getD_eq_getElem?_getD, List.getElem?_eq_getElem hn, Option.getD_some] at h
  obtain ⟨h1, h2, h3, h4⟩ := h
  refine ⟨?_, h4⟩
  show rightB _ _ (List.map Prod.fst _) = true
  dsimp only [absP]
  rw [h1, h2, h3]
  exact mdSs_right s n 12
theorem rmade9_m (LA : Option Addr) (lc : Nat) (s : List Int) (n : Nat) (w : World) (hn : n = s.length) (hA : At w LA (s.map (Value.int .i64))) (hl : s.length ≤ 1000000) : Calls Tryd.prog 26 #[.slice LA n lc] w (MadePost s w) := by
  subst hn; exact rmade9_any LA lc s w hA hl
set_option maxRecDepth 100000 in
set_option maxHeartbeats 2000000 in
theorem made09_any (SA : Option Addr) (sc : Nat) (s : List Int) (w : World) (hS : At w SA (s.map (Value.int .i64))) (hsc : s.length ≤ sc) :
    Calls Tryd.prog 6 #[.slice SA s.length sc] w (MadePost (s.take 200) w) := by
  go_enter Tryd.func6, Tryd.ntmps6
  have hst0 := St.start w
  refine wp_seq (wp_region_Y [0] [] [[0]] [] [.a 2] (fun ix σ β X => match ix with | 0 => σ 2 = vp (pb (β 2)) ∧ X 0 = eB (pb (β 2)) 30 #[.slice none 0 0] | _ => True) [0] [0] [(2, 0, 1, 3)] hst0 ?_ ?_ ?_)
  · exact fun ix _ _ _ _ _ _ hs hb hx h => match ix, h with
    | 0, h => by dsimp only at h ⊢; rw [← hs 2 rfl, ← hb 2 rfl, ← hx 0 rfl]; exact h
    | _ + 1, _ => trivial
  · refine ⟨?_, trivial⟩
    · refine sv_any rfl rfl fun ρ β W X cx => ?_
      exact dv_alloc (cs := #[.slice none 0 0]) rfl (by kernel_rfl) rfl rfl (fun σ β' X' hs hb hv hx => ⟨hv, hx⟩)
  intro σ β X W1 hD hst1 fr hfr
  obtain ⟨B2_1, hu_B2_1⟩ : ∃ z, pb (β 2) = z := ⟨_, rfl⟩
  simp only [exq 0 ((dTn (hD 0 lq)).2), hu_B2_1] at hst1
  simp only [ed 2 ((dTn (hD 0 lq)).1), hu_B2_1] at hfr
  clear hD hu_B2_1; subst hfr; clear σ β X
  refine then_normal (wp_seq ?_)
  obtain ⟨m1, hminm1, htkm1, hlem1, hem1⟩ := cut_len s 200
  refine wp_region_Y [0, 0, 2, 6, 15, 31, 63] [[], [], [], [], [], [], [0]] [[], [], [], [], [], [1], [2]] [[], [], [], [], [], [], [0]] [.k 3 (.slice SA s.length sc), .k 4 (.slice SA s.length sc), .k 5 (vi ((s.length : Int))), .c 6 (vi ((m1 : Int))), .c 7 (.slice SA m1 sc), .a 8, .n] (fun ix σ β X => match ix with | 0 => True | 1 => True | 2 => True | 3 => True | 4 => True | 5 => σ 8 = .agg #[.slice (sA (tg (β 8) 0)) 5 (sC (tg (β 8) 0))] ∧ X 1 = eMd (s.take 200) (sA (tg (β 8) 0)) ((X 1).fp) | 6 => X 2 = eB B2_1 30 #[.slice (sA (tg (β 8) 0)) 5 (sC (tg (β 8) 0))] | _ => True) [1, 2] [3, 4, 5, 6] [(3, 0, 6, 9)] hst1 ?_ ?_ ?_
  · exact fun ix _ _ _ _ _ _ hs hb hx h => match ix, h with
    | 5, h => by dsimp only at h ⊢; rw [← hs 8 rfl, ← hb 8 rfl, ← hx 1 rfl]; exact h
    | 6, h => by dsimp only at h ⊢; rw [← hb 8 rfl, ← hx 2 rfl]; exact h
    | 0, _ | 1, _ | 2, _ | 3, _ | 4, _ | _ + 7, _ => trivial
  · refine ⟨?_, ?_, ?_, ?_, trivial⟩
    · exact xs4 rfl id fun cx => run_min2 rfl (cx.an 2) (cx.co _) (hminm1)
    · exact xs4 rfl id fun cx => run_sliceL_hi (e := 3) (sz := 1) (m := m1) rfl (by kernel_rfl) (by kernel_rfl) (cx.an 0) (cx.an 3) (by omega) (by omega)
    · refine sv_any rfl rfl fun ρ β W X cx => ?_
      refine DoesU.call (run_callF (args := #[.slice SA m1 sc]) rfl cx.sees rfl (by kernel_rfl) (map1 (cx.an 4))) ?_
      refine (rmade9_m _ _ (s.take 200) _ _ hem1 (by rw [← htkm1]; exact (At.take_mapI (hS.ext cx.upd.to_ext) m1)) (by rw [List.length_take]; omega)).mono ?_
      rintro e W1 ⟨A4, c4, fp4, rfl, hc⟩
      refine ⟨_, rfl, post_st [eMd (s.take 200) A4 fp4] rfl rfl hc (fun σ β' X' hs hb hv hN => ?_)⟩
      have hv1 := (hv 8 rfl).1; have hv2 := (hv 8 rfl).2
      exact ⟨hv1.trans (by rw [hv2]; rfl), (by rw [hv2]; exact eMd_self ((List.cons.inj hN).1))⟩
    · refine sv_any rfl rfl fun ρ β W X cx => ?_
      exact dv_store (n := 1) rfl (cx.ou 2) (dTn (cx.an 5)).1 (by kernel_rfl) (by kernel_rfl) (by kernel_rfl) cx (cx.init 0 _ rfl) rfl (nle rfl) (by kernel_rfl) rfl rfl rfl (fun σ β' X' hs hb hx => by rw [hb 8]; exact hx)
  intro σ β X W2 hD hst2 fr hfr
  obtain ⟨A8_2, hu_A8_2⟩ : ∃ z, sA (tg (β 8) 0) = z := ⟨_, rfl⟩
  obtain ⟨c8_2, hu_c8_2⟩ : ∃ z, sC (tg (β 8) 0) = z := ⟨_, rfl⟩
  have xX1 : X 1 = _ := (dTn (hD 5 lq)).2
  obtain ⟨r1_2, hu_r1_2⟩ : ∃ z, (X 1).fp = z := ⟨_, rfl⟩
  rw [hu_r1_2] at xX1
  clear hu_r1_2
  simp only [xX1, exq 2 ((dTn (hD 6 lq))), hu_A8_2, hu_c8_2] at hst2
  simp only [ed 8 ((dTn (hD 5 lq)).1), hu_A8_2, hu_c8_2] at hfr
  clear hD xX1 hu_A8_2 hu_c8_2; subst hfr; clear σ β X
  refine then_normal (wp_ret ?_)
  refine bodyPost_ret (v := .agg #[.slice A8_2 5 c8_2]) (results_cell (n := 1) Tryd.results6 rfl (by kernel_rfl) (by kernel_rfl) (hst2.blk 1 rfl) rfl) rfl ?_
  exact ⟨_, _, _, rfl, hst2.pick [0] (by decide) rfl⟩
end
end Go.Proofs.YtjnplglnnamfdaaDoor

/- VacuumMapRow9: part 6 of the proof. -/
import Derived.Test.YtjnplglnnamfdaaGreatDoorZ5
import Derived.Test.YtjnplglnnamfdaaGreatDoorRows
import Derived.ProofKit
import Derived.OpenShut
import Derived.Below
import Derived.ChangeSame
import Derived.WideKeyArgs
import Derived.SliceStrings
import Derived.ChangeMaps5
import Derived.Lib.SmallJoins
import Derived.SizedLaws
import Derived.LaidMore
import Derived.Stop.Joined
import Derived.Test.YtjnplglnnamfdaaGreatDoorCards
import Derived.Test.YtjnplglnnamfdaaGreatDoorTie
import Derived.SevenTiedAt
import Derived.WalkKit
set_option linter.unusedVariables false
set_option linter.unusedSimpArgs false
namespace Go.Proofs.YtjnplglnnamfdaaGreatDoor
section
open Go.RowKit
set_option linter.unusedVariables false
set_option linter.unusedSimpArgs false
theorem r01size2 (w : World) : Calls Tryz.prog 193 #[.int .i64 2] w (Ret (.int .i64 2) w) :=
  (rosize_any 2 w).mono fun e w' h => by obtain ⟨rfl, rfl⟩ := h; exact Ret.of rfl (Ext.refl _)
theorem shN_bd {x : Int} (k : Nat) (h : 0 ≤ x ∧ x < 65536) : 0 ≤ shN x k ∧ shN x k < 65536 := by
  rw [shN]
  have h1 : 0 ≤ x / 256 ^ k := Int.ediv_nonneg h.1 (Int.le_of_lt (Int.pow_pos (by omega)))
  have h2 : x / 256 ^ k ≤ x := Int.ediv_le_self _ h.1
  omega
theorem shN_quo {x : Int} (k : Nat) (h : 0 ≤ shN x k ∧ shN x k < 65536) : IntKind.u64.wrap ((shN x k).tdiv 256) = shN x (k + 1) := by
  rw [← shN_succ, Int.tdiv_eq_ediv_of_nonneg h.1, Int.fdiv_eq_ediv_of_nonneg _ (by decide)]
  exact IntWalk.u64_in _ (by omega)
theorem rput_ok {k l : Int} {A : Option Addr} {c : Nat} {ss : List ByteArray} {slot : Int} {s : ByteArray} {w : World} (hA : At w A (ss.map Value.string)) (hs : Small ss) (hc : ss.length ≤ c) (hss : s.size ≤ 400) (h : putErr k l ss slot s = 0) :
    Calls Tryz.prog 120 #[.agg #[.int .i64 k, .int .i64 l, .slice A ss.length c], .int .i64 slot, .string s] w (GotPost k l (plainL (withL ss slot.toNat s)) 0 w) := by
  have h2 := rput_any k l A _ c ss slot s w rfl hA hs hc (by omega)
  rwa [RPutPost, if_pos h] at h2
theorem rput_bad {k l : Int} {A : Option Addr} {c : Nat} {ss : List ByteArray} {slot : Int} {s : ByteArray} {w : World} (hA : At w A (ss.map Value.string)) (hs : Small ss) (hc : ss.length ≤ c) (hss : s.size ≤ 400) (h : putErr k l ss slot s ≠ 0) :
    Calls Tryz.prog 120 #[.agg #[.int .i64 k, .int .i64 l, .slice A ss.length c], .int .i64 slot, .string s] w (GotPost 0 0 [] (putErr k l ss slot s) w) := by
  have h2 := rput_any k l A _ c ss slot s w rfl hA hs hc (by omega)
  rwa [RPutPost, if_neg h] at h2
theorem right_small' {k l : Int} {ss : List ByteArray} (h : rightB k l ss = true) : Small ss := by
  obtain ⟨_, _, ⟨h1, h2⟩, _⟩ := right_parts h
  exact ⟨by omega, fun s hs => by have := h2 s hs; omega⟩
theorem rput_md {V : List Int} {n i : Nat} {A : Option Addr} {c : Nat} {w : World} (hr : rightB (mdK V) (V.getD 0 0) (mdSs V n i) = true) (hA : At w A ((mdSs V n i).map Value.string)) (hc : (mdSs V n i).length ≤ c) (hss : (mdI V n i).size ≤ 400) (h0 : 1 ≤ i) (h : putErr (mdK V) (V.getD 0 0) (mdSs V n i) (i : Int) (mdI V n i) = 0) :
    Calls Tryz.prog 120 #[.agg #[.int .i64 (mdK V), .int .i64 (V.getD 0 0), .slice A (mdSs V n i).length c], .int .i64 (i : Int), .string (mdI V n i)] w (GotPost (mdK V) (V.getD 0 0) (mdSs V n (i + 1)) 0 w) := by
  have := rput_ok hA (right_small' hr) hc hss h
  rwa [Int.toNat_natCast, ← mdSs_yes h0 h] at this
theorem Tryz.infoPage : (Tryz.prog.info? 64).map (fun i => (i.zero, i.size, i.bytes)) = some (some (.agg #[.int .i64 0, .int .i64 0, .slice none 0 0]), 3, 40) := by kernel_rfl
theorem At.eqv {w : World} {A : Option Addr} {xs ys : List Value} (h : At w A xs) (e : xs = ys) : At w A ys := e ▸ h
set_option maxRecDepth 100000 in
set_option maxHeartbeats 2000000 in
theorem r01put2 (x : Int) (w : World) (hx : 0 ≤ x ∧ x < 65536) :
    Calls Tryz.prog 118 #[.int .i64 x, .int .i64 2] w (Ret (.string (putS x 2)) w) := by
  go_enter Tryz.func118, Tryz.ntmps118
  have hst0 := St.start w
  refine wp_seq (wp_region_P [0] [.k 4 (.string ⟨#[]⟩)] [(4, 0, 1, 5)] hst0 fun W1 hst1 => ?_)
  refine then_normal (wp_seq (wp_region_P [0] [.k 5 (.string ⟨#[]⟩)] [(5, 0, 1, 6)] hst1 fun W2 hst2 => ?_))
  refine then_normal (wp_seq (wp_region_P [0, 1, 3] [.k 8 (vi x), tW 9 .u64 x x (IntWalk.u64_in _ (by omega)), .k 6 (.int .u64 x)] [(6, 2, 1, 7), (1, 0, 2, 3)] hst2 fun W3 hst3 => ?_))
  refine then_normal (wp_seq (wp_seq (wp_region_P [0] [.k 7 (vi 0)] [(7, 0, 1, 8)] hst3 fun W4 hst4 => ?_)))
  refine then_normal (wp_block ?_)
  refine wp_loopN (fun mz az W => ∃ k : Nat, ∃ u5_ : List Value, k ≤ 2 ∧ mz = 2 - k ∧ az = ⟨#[vi x, vi 2, undef, undef, .string ⟨#[]⟩, .string (putS x k), .int .u64 (shN x k), vi ((k : Int)), vi x, .int .u64 x, (gu u5_ 0), (gu u5_ 1), (gu u5_ 2), (gu u5_ 3), (gu u5_ 4), (gu u5_ 5), (gu u5_ 6), (gu u5_ 7), (gu u5_ 8), (gu u5_ 9), (gu u5_ 10), (gu u5_ 11), (gu u5_ 12), (gu u5_ 13), (gu u5_ 14), undef], []⟩ ∧ St w [] [] W) (2 - 0) ?_ ?_
  · -- the loop begins
    have hp6 := hst4.pick [] (by decide) rfl
    exact ⟨0, [undef, undef, undef, undef, undef, undef, undef, undef, undef, undef, undef, undef, undef, undef, undef], by omega, rfl, (by rw [shN_0, putS_0]; rfl), hp6⟩
  rintro n5 a5 W5 ⟨k, u5_, hk, rfl, rfl, hst5⟩
  have hsb := shN_bd k hx
  refine wp_seq (wp_seq (wp_region_Z [0, 0, 2, 7] [] [.k 10 (vi ((k : Int))), .k 11 (vi 2), .c 12 (vi 2), .k 13 (.bool (decide ((k : Int) < 2)))] [] [2] [(10, 0, 4, 14)] hst5 ?_ fun W7 hst7 => ?_))
  · refine ⟨?_, trivial⟩
    · exact xsc rfl id rfl rfl fun cx => ⟨_, r01size2 _, (map1 (cx.an 1))⟩
  refine then_normal ?_
  rcases Bool.eq_false_or_eq_true (decide ((k : Int) < 2)) with hs8 | hs8
  · skip
    have hs8p : (k : Int) < 2 := by simpa using hs8
    refine wp_cond_true (show Act.eval _ _ = .bool true from (congrArg Value.bool hs8)) (wp_skip (then_normal (wp_seq (wp_block (wp_seq (wp_region_Y [0, 1, 3, 7, 15, 0, 63, 127] [[], [], [], [], [0]] [[], [], [], [0]] [] [.k 16 (.int .u64 (shN x k)), tRe 17 .u64 (shN x k) 256 ((shN x k) % 256) (Int.tmod_eq_emod_of_nonneg (by omega)), tW 18 .u8 ((shN x k) % 256) ((shN x k) % 256) (IntWalk.u8_in _ (by omega)), .a 19, .c 20 (.string (strOfNums ([((shN x k) % 256)]))), .k 21 (.string (putS x k)), .c 22 (.string (putS x (k + 1))), .k 5 (.string (putS x (k + 1)))] (fun ix σ β X => match ix with | 0 => True | 1 => True | 2 => True | 3 => σ 19 = .slice (sA (β 19)) 1 1 ∧ X 0 = eO 5 1 (.slice (sA (β 19)) 1 1) 1 ([.int .u8 ((shN x k) % 256)]) | _ => True) [0] [3, 4, 6] [(5, 7, 1, 6), (10, 0, 7, 17)] hst7 ?_ ?_ ?_))))))
    · exact fun ix _ _ _ _ _ _ hs hb hx h => match ix, h with
      | 3, h => by dsimp only at h ⊢; rw [← hs 19 rfl, ← hb 19 rfl, ← hx 0 rfl]; exact h
      | 0, _ | 1, _ | 2, _ | _ + 4, _ => trivial
    · refine ⟨?_, ?_, ?_, trivial⟩
      · refine sv_any rfl rfl fun ρ β W X cx => ?_
        have fF18 : ρ (.tmp 18) = .int .u8 ((shN x k) % 256) := (cx.an 2)
        exact dv_lit (e := 5) (xs := [.int .u8 ((shN x k) % 256)]) rfl (by simp [go_sem, fF18]) rfl (by decide) rfl rfl (fun σ β' X' hs hb hv hx => ⟨hv, hx⟩)
      · exact xs4 rfl id fun cx => run_convB (e := 5) rfl (by kernel_rfl) (by kernel_rfl) (by kernel_rfl) (dTn (cx.an 3)).1 (cx.row (dTn (cx.an 3)).2 rfl)
      · exact xs4 rfl id fun cx => (by rw [putS_succ x (by omega)]; exact run_strcat rfl (cx.an 4) (cx.an 5) (by rw [strOfNums_size, putS_size x k (by omega)]; first | omega | (simp only [List.length_cons, List.length_nil]; omega)))
    intro σ β X W9 hD hst9 fr hfr
    obtain ⟨A19_9, hu_A19_9⟩ : ∃ z, sA (β 19) = z := ⟨_, rfl⟩
    simp only [exq 0 ((dTn (hD 3 lq)).2), hu_A19_9] at hst9
    simp only [ed 19 ((dTn (hD 3 lq)).1), hu_A19_9] at hfr
    clear hD hu_A19_9; subst hfr; clear σ β X
    refine then_normal (wp_region_P [0, 1, 3] [.k 23 (.int .u64 (shN x k)), tQu 24 .u64 (shN x k) 256 (shN x (k + 1)) (shN_quo k hsb), .k 6 (.int .u64 (shN x (k + 1)))] [(6, 2, 1, 7), (16, 0, 2, 18)] hst9 fun W10 hst10 => ?_)
    refine blk_normal (then_normal (wp_region_P [0, 1, 3] [.k 14 (vi ((k : Int))), tI 15 ((k : Int) + 1) (by omega), .k 7 (vi ((k : Int) + 1))] [(7, 2, 1, 8), (6, 0, 2, 8)] hst10 fun W11 hst11 => ?_))
    refine then_normal ?_
    refine ⟨2 - ((k + 1)), by omega, ?_⟩
    have hp12 := hst11.pick [] (by decide) rfl
    exact ⟨(k + 1), [vi ((k : Int)), vi 2, vi 2, .bool (decide ((k : Int) < 2)), vi ((k : Int)), vi ((k : Int) + 1), .int .u64 (shN x k), .int .u64 ((shN x k) % 256), .int .u8 ((shN x k) % 256), .slice A19_9 1 1, .string (strOfNums ([((shN x k) % 256)])), .string (putS x k), .string (putS x (k + 1)), .int .u64 (shN x k), .int .u64 (shN x (k + 1))], by omega, rfl, rfl, hp12⟩
  have hs8p : ¬ ((k : Int) < 2) := by simpa using hs8
  refine wp_cond_false (show Act.eval _ _ = .bool false from (congrArg Value.bool hs8)) (wp_exit (then_exit (then_exit (blk_eq (then_normal (wp_seq (wp_region_P [0, 1] [.k 25 (.string (putS x k)), .k 4 (.string (putS x k))] [(4, 1, 1, 5), (20, 0, 1, 21)] hst7 fun W13 hst13 => ?_)))))))
  refine then_normal (wp_ret ?_)
  refine bodyPost_ret (v := .string (putS x k)) (results_tmp Tryz.results118 rfl) rfl ?_
  exact Ret.of (by rw [show k = 2 by omega]) hst13.ext
set_option maxRecDepth 100000 in
set_option maxHeartbeats 16000000 in
theorem rmade9_any (LA : Option Addr) (lc : Nat) (s : List Int) (w : World) (hA : At w LA (s.map (Value.int .i64))) (hl : s.length ≤ 1000000) :
    Calls Tryz.prog 48 #[.slice LA s.length lc] w (MadePost s w) := by
  go_enter Tryz.func48, Tryz.ntmps48
  have hst0 := St.start w
  refine wp_seq (wp_region_Y [0] [] [[0]] [] [.a 2] (fun ix σ β X => match ix with | 0 => σ 2 = vp (pb (β 2)) ∧ X 0 = eB (pb (β 2)) 30 #[.slice none 0 0] | _ => True) [0] [0] [(2, 0, 1, 3)] hst0 ?_ ?_ ?_)
  · exact fun ix _ _ _ _ _ _ hs hb hx h => match ix, h with
    | 0, h => by dsimp only at h ⊢; rw [← hs 2 rfl, ← hb 2 rfl, ← hx 0 rfl]; exact h
    | _ + 1, _ => trivial
  · refine ⟨?_, trivial⟩
    · refine sv_any rfl rfl fun ρ β W X cx => ?_
      exact dv_alloc (cs := #[.slice none 0 0]) rfl (by kernel_rfl) rfl rfl (fun σ β' X' hs hb hv hx => ⟨hv, hx⟩)
  intro σ β X W1 hD hst1 fr hfr
  obtain ⟨B2_1, hu_B2_1⟩ : ∃ z, pb (β 2) = z := ⟨_, rfl⟩
  simp only [exq 0 ((dTn (hD 0 lq)).2), hu_B2_1] at hst1
  simp only [ed 2 ((dTn (hD 0 lq)).1), hu_B2_1] at hfr
  clear hD hu_B2_1; subst hfr; clear σ β X
  refine then_normal (wp_seq (wp_region_Y [0, 0, 3] [[], [], [1]] [[], [1], [2]] [[], [], [1]] [.k 15 (.agg #[.slice none 0 0]), .a 3, .n] (fun ix σ β X => match ix with | 0 => True | 1 => σ 3 = vp (pb (β 3)) ∧ X 1 = eB (pb (β 3)) 30 #[.slice none 0 0] | 2 => X 2 = eB (pb (β 3)) 30 #[.slice none 0 0] | _ => True) [0, 2] [1, 2] [(3, 1, 1, 4), (11, 0, 1, 12)] hst1 ?_ ?_ ?_))
  · exact fun ix _ _ _ _ _ _ hs hb hx h => match ix, h with
    | 1, h => by dsimp only at h ⊢; rw [← hs 3 rfl, ← hb 3 rfl, ← hx 1 rfl]; exact h
    | 2, h => by dsimp only at h ⊢; rw [← hb 3 rfl, ← hx 2 rfl]; exact h
    | 0, _ | _ + 3, _ => trivial
  · refine ⟨?_, ?_, trivial⟩
    · refine sv_any rfl rfl fun ρ β W X cx => ?_
      exact dv_alloc (cs := #[.slice none 0 0]) rfl (by kernel_rfl) rfl rfl (fun σ β' X' hs hb hv hx => ⟨hv, hx⟩)
    · refine sv_any rfl rfl fun ρ β W X cx => ?_
      exact dv_store (n := 1) rfl (dTn (cx.an 1)).1 (cx.an 0) (by kernel_rfl) (by kernel_rfl) (by kernel_rfl) cx (dTn (cx.an 1)).2 rfl (nle rfl) (by kernel_rfl) rfl rfl rfl (fun σ β' X' hs hb hx => by rw [hb 3]; exact hx)
  intro σ β X W2 hD hst2 fr hfr
  obtain ⟨B3_2, hu_B3_2⟩ : ∃ z, pb (β 3) = z := ⟨_, rfl⟩
  simp only [exq 2 ((dTn (hD 2 lq))), hu_B3_2] at hst2
  simp only [ed 3 ((dTn (hD 1 lq)).1), hu_B3_2] at hfr
  clear hD hu_B3_2; subst hfr; clear σ β X
  refine then_normal (wp_seq (wp_region_P [0] [.k 4 (vi 0)] [(4, 0, 1, 5)] hst2 fun W3 hst3 => ?_))
  refine then_normal (wp_seq (wp_seq (wp_region_P [0] [.k 5 (vi 0)] [(5, 0, 1, 6)] hst3 fun W4 hst4 => ?_)))
  refine then_normal (wp_block ?_)
  have hn5 := nilrowN hst4 64 3
  have hn_6 : St _ _ (_ ++ [ePs []]) _ := St.emNil hn5
  refine wp_loopN (fun mz az W => ∃ n : Nat, ∃ PA : Option Addr, ∃ PC : Nat, ∃ Ps : List PgD, ∃ u7_ : List Value, n ≤ 5 ∧ Ps.length = n ∧ (∀ i, i < n → MdOk s i (Ps.getD i p0)) ∧ mz = 5 - n ∧ az = ⟨#[.slice LA s.length lc, undef, vp B2_1, vp B3_2, vi (((40 * n : Nat) : Int)), vi ((n : Int)), (gu u7_ 0), (gu u7_ 1), (gu u7_ 2), (gu u7_ 3), (gu u7_ 4), (gu u7_ 5), (gu u7_ 6), (gu u7_ 7), (gu u7_ 8), .agg #[.slice none 0 0], (gu u7_ 9), (gu u7_ 10), (gu u7_ 11), (gu u7_ 12), (gu u7_ 13), (gu u7_ 14), (gu u7_ 15), (gu u7_ 16), (gu u7_ 17), (gu u7_ 18), (gu u7_ 19), (gu u7_ 20), (gu u7_ 21), (gu u7_ 22), (gu u7_ 23), (gu u7_ 24), (gu u7_ 25), (gu u7_ 26), (gu u7_ 27), (gu u7_ 28), (gu u7_ 29), (gu u7_ 30), (gu u7_ 31), (gu u7_ 32), (gu u7_ 33), (gu u7_ 34), (gu u7_ 35), (gu u7_ 36), (gu u7_ 37), (gu u7_ 38), (gu u7_ 39), (gu u7_ 40), (gu u7_ 41), (gu u7_ 42), (gu u7_ 43), (gu u7_ 44), (gu u7_ 45), (gu u7_ 46), (gu u7_ 47), (gu u7_ 48), (gu u7_ 49), (gu u7_ 50), (gu u7_ 51), (gu u7_ 52), (gu u7_ 53), (gu u7_ 54), (gu u7_ 55), (gu u7_ 56), (gu u7_ 57), (gu u7_ 58), (gu u7_ 59), (gu u7_ 60), (gu u7_ 61), (gu u7_ 62), (gu u7_ 63), (gu u7_ 64), (gu u7_ 65), (gu u7_ 66), (gu u7_ 67), (gu u7_ 68), (gu u7_ 69), (gu u7_ 70), (gu u7_ 71), (gu u7_ 72), (gu u7_ 73), (gu u7_ 74), (gu u7_ 75), (gu u7_ 76), (gu u7_ 77), (gu u7_ 78), (gu u7_ 79), (gu u7_ 80), (gu u7_ 81), (gu u7_ 82), (gu u7_ 83), (gu u7_ 84), (gu u7_ 85), (gu u7_ 86), (gu u7_ 87), (gu u7_ 88), (gu u7_ 89), (gu u7_ 90), (gu u7_ 91), (gu u7_ 92), (gu u7_ 93), (gu u7_ 94), (gu u7_ 95), (gu u7_ 96), (gu u7_ 97), (gu u7_ 98), (gu u7_ 99), (gu u7_ 100), (gu u7_ 101), (gu u7_ 102), (gu u7_ 103), (gu u7_ 104), (gu u7_ 105), (gu u7_ 106), (gu u7_ 107), (gu u7_ 108), (gu u7_ 109), (gu u7_ 110), (gu u7_ 111), (gu u7_ 112), (gu u7_ 113), (gu u7_ 114), (gu u7_ 115), (gu u7_ 116), (gu u7_ 117), (gu u7_ 118), (gu u7_ 119), (gu u7_ 120), (gu u7_ 121), (gu u7_ 122), (gu u7_ 123), (gu u7_ 124), (gu u7_ 125), (gu u7_ 126), (gu u7_ 127), (gu u7_ 128), (gu u7_ 129), (gu u7_ 130), (gu u7_ 131), (gu u7_ 132), (gu u7_ 133), (gu u7_ 134), (gu u7_ 135), undef], []⟩ ∧ St w [] [eB B2_1 30 #[.slice none 0 0], eB B3_2 30 #[.slice PA n PC], eO 64 3 (.slice PA n PC) n (Ps.flatMap pgC), ePs Ps] W) (5 - 0) ?_ ?_
  · -- the loop begins
    have hp8 := hn_6.pick [0, 1, 2, 3] (by decide) rfl
    exact ⟨0, none, 0, [], [undef, undef, undef, undef, undef, undef, undef, undef, undef, undef, undef, undef, undef, undef, undef, undef, undef, undef, undef, undef, undef, undef, undef, undef, undef, undef, undef, undef, undef, undef, undef, undef, undef, undef, undef, undef, undef, undef, undef, undef, undef, undef, undef, undef, undef, undef, undef, undef, undef, undef, undef, undef, undef, undef, undef, undef, undef, undef, undef, undef, undef, undef, undef, undef, undef, undef, undef, undef, undef, undef, undef, undef, undef, undef, undef, undef, undef, undef, undef, undef, undef, undef, undef, undef, undef, undef, undef, undef, undef, undef, undef, undef, undef, undef, undef, undef, undef, undef, undef, undef, undef, undef, undef, undef, undef, undef, undef, undef, undef, undef, undef, undef, undef, undef, undef, undef, undef, undef, undef, undef, undef, undef, undef, undef, undef, undef, undef, undef, undef, undef, undef, undef, undef, undef, undef, undef], by omega, rfl, fun i hi => absurd hi (Nat.not_lt_zero i), rfl, rfl, hp8⟩
  rintro n7 a7 W7 ⟨n, PA, PC, Ps, u7_, hn5, hPl, hM, rfl, rfl, hst7⟩
  refine wp_seq (wp_seq (wp_region_P [0, 1] [.k 16 (vi ((n : Int))), .k 17 (.bool (decide ((n : Int) < 5)))] [(16, 0, 2, 18)] hst7 fun W9 hst9 => ?_))
  refine then_normal ?_
  rcases Bool.eq_false_or_eq_true (decide ((n : Int) < 5)) with hs10 | hs10
  · skip
    have hs10p : (n : Int) < 5 := by simpa using hs10
    refine wp_cond_true (show Act.eval _ _ = .bool true from (congrArg Value.bool hs10)) (wp_skip (then_normal (wp_seq (wp_block (wp_seq (wp_region_Y [0, 0, 3] [[], [], [4]] [[], [4], [5]] [[], [], [4]] [.k 20 (.agg #[vi 0, vi 0, vi 0, vi 0, vi 0, vi 0, vi 0, vi 0, vi 0, vi 0, vi 0, vi 0, vi 0, vi 0, vi 0, vi 0, vi 0, vi 0, vi 0, vi 0, vi 0, vi 0, vi 0, vi 0, vi 0, vi 0, vi 0, vi 0, vi 0, vi 0, vi 0, vi 0, vi 0, vi 0, vi 0, vi 0, vi 0, vi 0, vi 0, vi 0]), .a 6, .n] (fun ix σ β X => match ix with | 0 => True | 1 => σ 6 = vp (pb (β 6)) ∧ X 4 = eB (pb (β 6)) 220 ((List.replicate 40 (0 : Int)).map (Value.int .i64)).toArray | 2 => X 5 = eB (pb (β 6)) 220 ((List.replicate 40 (0 : Int)).map (Value.int .i64)).toArray | _ => True) [0, 1, 2, 3, 5] [1, 2] [(6, 1, 1, 7), (13, 0, 1, 14)] hst9 ?_ ?_ ?_))))))
    · exact fun ix _ _ _ _ _ _ hs hb hx h => match ix, h with
      | 1, h => by dsimp only at h ⊢; rw [← hs 6 rfl, ← hb 6 rfl, ← hx 4 rfl]; exact h
      | 2, h => by dsimp only at h ⊢; rw [← hb 6 rfl, ← hx 5 rfl]; exact h
      | 0, _ | _ + 3, _ => trivial
    · refine ⟨?_, ?_, trivial⟩
      · refine sv_any rfl rfl fun ρ β W X cx => ?_
        exact dv_alloc (cs := ((List.replicate 40 (0 : Int)).map (Value.int .i64)).toArray) rfl (by kernel_rfl) rfl rfl (fun σ β' X' hs hb hv hx => ⟨hv, hx⟩)
      · refine sv_any rfl rfl fun ρ β W X cx => ?_
        exact dv_storeL (n := 40) rfl (dTn (cx.an 1)).1 ((show _ = _ from (cx.an 0)).trans (by kernel_rfl : _ = Value.agg ((List.replicate 40 (0 : Int)).map (Value.int .i64)).toArray)) (by kernel_rfl) (by simp [mdC_len]) (by simp [mdC_len]) (by simp [pgC, Value.oneCell']) cx (dTn (cx.an 1)).2 rfl rfl rfl rfl (fun σ β' X' hs hb hx => by rw [hb 6]; exact hx)
    intro σ β X W11 hD hst11 fr hfr
    obtain ⟨B6_11, hu_B6_11⟩ : ∃ z, pb (β 6) = z := ⟨_, rfl⟩
    simp only [exq 5 ((dTn (hD 2 lq))), hu_B6_11] at hst11
    simp only [ed 6 ((dTn (hD 1 lq)).1), hu_B6_11] at hfr
    clear hD hu_B6_11; subst hfr; clear σ β X
    refine then_normal (wp_seq (wp_seq (wp_region_P [0] [.k 7 (vi 0)] [(7, 0, 1, 8)] hst11 fun W12 hst12 => ?_)))
    refine then_normal (wp_block ?_)
    rw [← mdC_0 s n] at hst12
    refine wp_loopN (fun mz az W => ∃ i : Nat, ∃ u13_ : List Value, i ≤ 40 ∧ mz = 40 - i ∧ az = ⟨#[.slice LA s.length lc, undef, vp B2_1, vp B3_2, vi (((40 * n + i : Nat) : Int)), vi ((n : Int)), vp B6_11, vi ((i : Int)), (gu u7_ 2), (gu u7_ 3), (gu u7_ 4), (gu u7_ 5), (gu u7_ 6), (gu u7_ 7), (gu u7_ 8), .agg #[.slice none 0 0], vi ((n : Int)), .bool (decide ((n : Int) < 5)), (gu u7_ 11), (gu u7_ 12), .agg #[vi 0, vi 0, vi 0, vi 0, vi 0, vi 0, vi 0, vi 0, vi 0, vi 0, vi 0, vi 0, vi 0, vi 0, vi 0, vi 0, vi 0, vi 0, vi 0, vi 0, vi 0, vi 0, vi 0, vi 0, vi 0, vi 0, vi 0, vi 0, vi 0, vi 0, vi 0, vi 0, vi 0, vi 0, vi 0, vi 0, vi 0, vi 0, vi 0, vi 0], (gu u13_ 0), (gu u13_ 1), (gu u13_ 2), (gu u13_ 3), (gu u13_ 4), (gu u13_ 5), (gu u13_ 6), (gu u13_ 7), (gu u13_ 8), (gu u13_ 9), (gu u13_ 10), (gu u13_ 11), (gu u13_ 12), (gu u13_ 13), (gu u13_ 14), (gu u13_ 15), (gu u13_ 16), (gu u7_ 31), (gu u7_ 32), (gu u7_ 33), (gu u7_ 34), (gu u7_ 35), (gu u7_ 36), (gu u7_ 37), (gu u7_ 38), (gu u7_ 39), (gu u7_ 40), (gu u7_ 41), (gu u7_ 42), (gu u7_ 43), (gu u7_ 44), (gu u7_ 45), (gu u7_ 46), (gu u7_ 47), (gu u7_ 48), (gu u7_ 49), (gu u7_ 50), (gu u7_ 51), (gu u7_ 52), (gu u7_ 53), (gu u7_ 54), (gu u7_ 55), (gu u7_ 56), (gu u7_ 57), (gu u7_ 58), (gu u7_ 59), (gu u7_ 60), (gu u7_ 61), (gu u7_ 62), (gu u7_ 63), (gu u7_ 64), (gu u7_ 65), (gu u7_ 66), (gu u7_ 67), (gu u7_ 68), (gu u7_ 69), (gu u7_ 70), (gu u7_ 71), (gu u7_ 72), (gu u7_ 73), (gu u7_ 74), (gu u7_ 75), (gu u7_ 76), (gu u7_ 77), (gu u7_ 78), (gu u7_ 79), (gu u7_ 80), (gu u7_ 81), (gu u7_ 82), (gu u7_ 83), (gu u7_ 84), (gu u7_ 85), (gu u7_ 86), (gu u7_ 87), (gu u7_ 88), (gu u7_ 89), (gu u7_ 90), (gu u7_ 91), (gu u7_ 92), (gu u7_ 93), (gu u7_ 94), (gu u7_ 95), (gu u7_ 96), (gu u7_ 97), (gu u7_ 98), (gu u7_ 99), (gu u7_ 100), (gu u7_ 101), (gu u7_ 102), (gu u7_ 103), (gu u7_ 104), (gu u7_ 105), (gu u7_ 106), (gu u7_ 107), (gu u7_ 108), (gu u7_ 109), (gu u7_ 110), (gu u7_ 111), (gu u7_ 112), (gu u7_ 113), (gu u7_ 114), (gu u7_ 115), (gu u7_ 116), (gu u7_ 117), (gu u7_ 118), (gu u7_ 119), (gu u7_ 120), (gu u7_ 121), (gu u7_ 122), (gu u7_ 123), (gu u7_ 124), (gu u7_ 125), (gu u7_ 126), (gu u7_ 127), (gu u7_ 128), (gu u7_ 129), (gu u7_ 130), (gu u7_ 131), (gu u7_ 132), (gu u7_ 133), (gu u7_ 134), (gu u7_ 135), undef], []⟩ ∧ St w [] [eB B2_1 30 #[.slice none 0 0], eB B3_2 30 #[.slice PA n PC], eO 64 3 (.slice PA n PC) n (Ps.flatMap pgC), ePs Ps, eB B6_11 220 ((mdC s n i).map (Value.int .i64)).toArray] W) (40 - 0) ?_ ?_
    · -- the loop begins
      have hp14 := hst12.pick [0, 1, 2, 3, 4] (by decide) rfl
      exact ⟨0, [(gu u7_ 14), (gu u7_ 15), (gu u7_ 16), (gu u7_ 17), (gu u7_ 18), (gu u7_ 19), (gu u7_ 20), (gu u7_ 21), (gu u7_ 22), (gu u7_ 23), (gu u7_ 24), (gu u7_ 25), (gu u7_ 26), (gu u7_ 27), (gu u7_ 28), (gu u7_ 29), (gu u7_ 30)], by omega, rfl, rfl, hp14⟩
    rintro n13 a13 W13 ⟨i, u13_, hi40, rfl, rfl, hst13⟩
    have hCl := mdC_len s n i
    refine wp_seq (wp_seq (wp_region_P [0, 1] [.k 21 (vi ((i : Int))), .k 22 (.bool (decide ((i : Int) < 40)))] [(21, 0, 2, 23)] hst13 fun W15 hst15 => ?_))
    refine then_normal ?_
    rcases Bool.eq_false_or_eq_true (decide ((i : Int) < 40)) with hs16 | hs16
    · skip
      have hs16p : (i : Int) < 40 := by simpa using hs16
      refine wp_cond_true (show Act.eval _ _ = .bool true from (congrArg Value.bool hs16)) (wp_skip (then_normal (wp_seq (wp_block (wp_seq (wp_seq (wp_region_P [0, 0, 2, 7] [.k 25 (vi (((40 * n + i : Nat) : Int))), .k 26 (.slice LA s.length lc), .k 27 (vi ((s.length : Int))), .k 28 (.bool (decide (((40 * n + i : Nat) : Int) < (s.length : Int))))] [(25, 0, 4, 29)] hst15 fun W17 hst17 => ?_)))))))
      refine then_normal ?_
      rcases Bool.eq_false_or_eq_true (decide (((40 * n + i : Nat) : Int) < (s.length : Int))) with hs18 | hs18
      · skip
        have hs18p : ((40 * n + i : Nat) : Int) < (s.length : Int) := by simpa using hs18
        refine wp_cond_true (show Act.eval _ _ = .bool true from (congrArg Value.bool hs18)) (wp_region_Y [0, 0, 0, 6, 14, 30, 63, 127] [[], [], [], [], [], [], [], [4]] [[], [], [], [], [], [], [], [5]] [[], [], [], [], [], [], [], [4]] [.k 29 (vi ((i : Int))), .k 30 (.slice LA s.length lc), .k 31 (vi (((40 * n + i : Nat) : Int))), .c 32 (.pointer (some ((ad LA).add (((40 * n + i : Nat)))))), .c 33 (vi (s.getD ((40 * n + i : Nat)) 0)), tAn 34 .i64 (s.getD ((40 * n + i : Nat)) 0) 65535 ((s.getD ((40 * n + i : Nat)) 0) % 65536) (bits_mask (s.getD ((40 * n + i : Nat)) 0) 16 (by decide)), .c 35 (.pointer (some ⟨B6_11, i, none⟩)), .n] (fun ix σ β X => match ix with | 0 => True | 1 => True | 2 => True | 3 => True | 4 => True | 5 => True | 6 => True | 7 => X 5 = eB B6_11 220 ((mdC s n (i + 1)).map (Value.int .i64)).toArray | _ => True) [0, 1, 2, 3, 5] [3, 4, 6, 7] [(29, 0, 7, 36)] hst17 ?_ ?_ ?_)
        · exact fun ix _ _ _ _ _ _ hs hb hx h => match ix, h with
          | 7, h => by dsimp only at h ⊢; rw [← hx 5 rfl]; exact h
          | 0, _ | 1, _ | 2, _ | 3, _ | 4, _ | 5, _ | 6, _ | _ + 8, _ => trivial
        · refine ⟨?_, ?_, ?_, ?_, trivial⟩
          · exact xs4 rfl id fun cx => run_indexSl (e := 3) (m := ((40 * n + i : Nat))) rfl (by kernel_rfl) (by kernel_rfl) (cx.an 1) (cx.an 2) (by omega) (by omega) (hA.ext cx.upd.to_ext) (by simp)
          · exact xs4 rfl id fun cx => run_load1 rfl (by kernel_rfl) (cx.an 3) (At.cellAd (hA.ext cx.upd.to_ext) (getD_int (by omega)))
          · exact xs4 rfl id fun cx => run_indexArrB (n := 40) (sz := 1) (m := i) (q := i) rfl (by kernel_rfl) (cx.ou 6) (cx.an 0) (by omega) (by omega) (by omega)
          · refine sv_any rfl rfl fun ρ β W X cx => ?_
            exact dv_storeAr (m := i) rfl (cx.an 6) (cx.an 5) (by kernel_rfl) rfl rfl cx (cx.init 4 _ rfl) rfl (by simp only [List.length_map, mdC_len]; omega) rfl (by rw [← List.map_set, mdC_set s n i (by omega)]) rfl rfl (fun σ β' X' hs hb hx => hx)
        intro σ β X W19 hD hst19 fr hfr
        simp only [exq 5 ((dTn (hD 7 lq)))] at hst19
        clear hD; subst hfr; clear σ β X
        refine then_normal (wp_region_P [0, 1, 3] [.k 36 (vi (((40 * n + i : Nat) : Int))), tI 37 (((40 * n + i : Nat) : Int) + 1) (by omega), .k 4 (vi (((40 * n + i : Nat) : Int) + 1))] [(4, 2, 1, 5), (31, 0, 2, 33)] hst19 fun W20 hst20 => ?_)
        refine blk_normal (then_normal (wp_region_P [0, 1, 3] [.k 23 (vi ((i : Int))), tI 24 ((i : Int) + 1) (by omega), .k 7 (vi ((i : Int) + 1))] [(7, 2, 1, 8), (15, 0, 2, 17)] hst20 fun W21 hst21 => ?_))
        refine then_normal ?_
        refine ⟨40 - ((i + 1)), by omega, ?_⟩
        have hp22 := hst21.pick [0, 1, 2, 3, 4] (by decide) rfl
        exact ⟨(i + 1), [vi ((i : Int)), .bool (decide ((i : Int) < 40)), vi ((i : Int)), vi ((i : Int) + 1), vi (((40 * n + i : Nat) : Int)), .slice LA s.length lc, vi ((s.length : Int)), .bool (decide (((40 * n + i : Nat) : Int) < (s.length : Int))), vi ((i : Int)), .slice LA s.length lc, vi (((40 * n + i : Nat) : Int)), .pointer (some ((ad LA).add (((40 * n + i : Nat))))), vi (s.getD ((40 * n + i : Nat)) 0), vi ((s.getD ((40 * n + i : Nat)) 0) % 65536), .pointer (some ⟨B6_11, i, none⟩), vi (((40 * n + i : Nat) : Int)), vi (((40 * n + i : Nat) : Int) + 1)], by omega, rfl, rfl, hp22⟩
      have hs18p : ¬ (((40 * n + i : Nat) : Int) < (s.length : Int)) := by simpa using hs18
      refine wp_cond_false (show Act.eval _ _ = .bool false from (congrArg Value.bool hs18)) (wp_skip (then_normal (wp_region_P [0, 1, 3] [.k 36 (vi (((40 * n + i : Nat) : Int))), tI 37 (((40 * n + i : Nat) : Int) + 1) (by omega), .k 4 (vi (((40 * n + i : Nat) : Int) + 1))] [(4, 2, 1, 5), (31, 0, 2, 33)] hst17 fun W23 hst23 => ?_)))
      refine blk_normal (then_normal (wp_region_P [0, 1, 3] [.k 23 (vi ((i : Int))), tI 24 ((i : Int) + 1) (by omega), .k 7 (vi ((i : Int) + 1))] [(7, 2, 1, 8), (15, 0, 2, 17)] hst23 fun W24 hst24 => ?_))
      refine then_normal ?_
      rw [mdC_no s n i (by omega)] at hst24
      refine ⟨40 - ((i + 1)), by omega, ?_⟩
      have hp25 := hst24.pick [0, 1, 2, 3, 4] (by decide) rfl
      exact ⟨(i + 1), [vi ((i : Int)), .bool (decide ((i : Int) < 40)), vi ((i : Int)), vi ((i : Int) + 1), vi (((40 * n + i : Nat) : Int)), .slice LA s.length lc, vi ((s.length : Int)), .bool (decide (((40 * n + i : Nat) : Int) < (s.length : Int))), (gu u13_ 8), (gu u13_ 9), (gu u13_ 10), (gu u13_ 11), (gu u13_ 12), (gu u13_ 13), (gu u13_ 14), vi (((40 * n + i : Nat) : Int)), vi (((40 * n + i : Nat) : Int) + 1)], by omega, rfl, rfl, hp25⟩
    have hs16p : ¬ ((i : Int) < 40) := by simpa using hs16
    refine wp_cond_false (show Act.eval _ _ = .bool false from (congrArg Value.bool hs16)) (wp_exit (then_exit (then_exit (blk_eq (then_normal (wp_seq ?_))))))
    obtain rfl : i = 40 := by omega
    obtain ⟨V, hV⟩ : ∃ z, mdV s n = z := ⟨_, rfl⟩
    rw [show mdC s n (40 : Nat) = V from hV] at hst15
    have hVl : V.length = 40 := by rw [← hV]; exact mdV_len s n
    have hVb : ∀ i, 0 ≤ V.getD i 0 ∧ V.getD i 0 ≤ 65535 := fun i => by rw [← hV]; exact mdV_bd s n i
    have hVb1 := hVb 1
    have hVb2 := hVb 2
    have hVb3 := hVb 3
    refine wp_region_Y [0, 1, 0, 4, 12, 28, 60, 124, 255, 0, 1023] [[], [4], [], [4], [], [], [], [], [], [], [6]] [[], [], [], [], [], [], [], [5], [], [6], [7]] [[], [], [], [], [], [], [], [], [], [], [6]] [.c 38 (vp B6_11), .c 39 (vi (V.getD 0 0)), .c 40 (.pointer (some ⟨B6_11, 1, none⟩)), .c 41 (vi (V.getD 1 0)), tRe 42 .i64 (V.getD 1 0) 2 ((V.getD 1 0) % 2) (Int.tmod_eq_emod_of_nonneg (by omega)), tI 43 (1 + ((V.getD 1 0) % 2)) (by omega), .c 44 (.string (putS (1 + ((V.getD 1 0) % 2)) 2)), .a 45, .a 46, .a 8, .n] (fun ix σ β X => match ix with | 0 => True | 1 => True | 2 => True | 3 => True | 4 => True | 5 => True | 6 => True | 7 => σ 45 = .slice (sA (β 45)) 1 1 ∧ X 5 = eO 9 1 (.slice (sA (β 45)) 1 1) 1 ([.string (putS (1 + ((V.getD 1 0) % 2)) 2)]) | 8 => σ 46 = .agg #[vi 1, vi (V.getD 0 0), .slice (sA (β 45)) 1 1] | 9 => σ 8 = vp (pb (β 8)) ∧ X 6 = eB (pb (β 8)) 64 #[vi 0, vi 0, .slice none 0 0] | 10 => X 7 = eB (pb (β 8)) 64 #[vi 1, vi (V.getD 0 0), .slice (sA (β 45)) 1 1] | _ => True) [0, 1, 2, 3, 4, 5, 7] [0, 1, 2, 3, 6, 7, 8, 9, 10] [(8, 9, 1, 9), (29, 0, 9, 38)] hst15 ?_ ?_ ?_
    · exact fun ix _ _ _ _ _ _ hs hb hx h => match ix, h with
      | 7, h => by dsimp only at h ⊢; rw [← hs 45 rfl, ← hb 45 rfl, ← hx 5 rfl]; exact h
      | 8, h => by dsimp only at h ⊢; rw [← hs 46 rfl, ← hb 45 rfl]; exact h
      | 9, h => by dsimp only at h ⊢; rw [← hs 8 rfl, ← hb 8 rfl, ← hx 6 rfl]; exact h
      | 10, h => by dsimp only at h ⊢; rw [← hb 8 rfl, ← hb 45 rfl, ← hx 7 rfl]; exact h
      | 0, _ | 1, _ | 2, _ | 3, _ | 4, _ | 5, _ | 6, _ | _ + 11, _ => trivial
    · refine ⟨?_, ?_, ?_, ?_, ?_, ?_, ?_, ?_, ?_, trivial⟩
      · exact xs4 rfl id fun cx => run_indexArrB (n := 40) (sz := 1) (m := 0) (q := 0) rfl (by kernel_rfl) (cx.ou 6) (cx.co _) (by omega) (by omega) (by omega)
      · exact xs4 rfl id fun cx => run_load1 rfl (by kernel_rfl) (cx.an 0) (((cx.bi 4 rfl).cell 0).trans ((List.getElem?_toArray ..).trans (getD_int (by omega))))
      · exact xs4 rfl id fun cx => run_indexArrB (n := 40) (sz := 1) (m := 1) (q := 1) rfl (by kernel_rfl) (cx.ou 6) (cx.co _) (by omega) (by omega) (by omega)
      · exact xs4 rfl id fun cx => run_load1 rfl (by kernel_rfl) (cx.an 2) (((cx.bi 4 rfl).cell 1).trans ((List.getElem?_toArray ..).trans (getD_int (by omega))))
      · exact xsc rfl id rfl rfl fun cx => ⟨_, r01put2 (1 + ((V.getD 1 0) % 2)) _ (by omega), (map2 (cx.an 5) (cx.co _))⟩
      · refine sv_any rfl rfl fun ρ β W X cx => ?_
        have fF44 : ρ (.tmp 44) = .string (putS (1 + ((V.getD 1 0) % 2)) 2) := (cx.an 6)
        exact dv_lit (e := 9) (xs := [.string (putS (1 + ((V.getD 1 0) % 2)) 2)]) rfl (by simp [go_sem, fF44]) rfl (by decide) rfl rfl (fun σ β' X' hs hb hv hx => ⟨hv, hx⟩)
      · exact sv rfl rfl rfl rfl rfl _ (fun _ _ _ h => h) (fun β β' h => by rw [h 45 (by decide)]) fun ρ β W X cx => run_buildL rfl (pmc (cx.co _) (pmc (cx.an 1) (pmc (dTn (cx.an 7)).1 pmn))) (by kernel_rfl)
      · refine sv_any rfl rfl fun ρ β W X cx => ?_
        exact dv_alloc (cs := #[vi 0, vi 0, .slice none 0 0]) rfl (by kernel_rfl) rfl rfl (fun σ β' X' hs hb hv hx => ⟨hv, hx⟩)
      · refine sv_any rfl rfl fun ρ β W X cx => ?_
        exact dv_store (n := 3) rfl (dTn (cx.an 9)).1 (dTn (cx.an 8)) (by kernel_rfl) (by kernel_rfl) (by kernel_rfl) cx (dTn (cx.an 9)).2 rfl (nle rfl) (by kernel_rfl) rfl rfl rfl (fun σ β' X' hs hb hx => by rw [hb 8, hb 45]; exact hx)
    intro σ β X W26 hD hst26 fr hfr
    obtain ⟨A45_26, hu_A45_26⟩ : ∃ z, sA (β 45) = z := ⟨_, rfl⟩
    obtain ⟨B8_26, hu_B8_26⟩ : ∃ z, pb (β 8) = z := ⟨_, rfl⟩
    simp only [exq 5 ((dTn (hD 7 lq)).2), exq 7 ((dTn (hD 10 lq))), hu_A45_26, hu_B8_26] at hst26
    simp only [ed 45 ((dTn (hD 7 lq)).1), ed 46 ((dTn (hD 8 lq))), ed 8 ((dTn (hD 9 lq)).1), hu_A45_26, hu_B8_26] at hfr
    clear hD hu_A45_26 hu_B8_26; subst hfr; clear σ β X
    refine then_normal ?_
    refine wp_cut (fun az W => ∃ K : Int, ∃ u27_ : List Value, K = mdK V ∧ az = ⟨#[.slice LA s.length lc, undef, vp B2_1, vp B3_2, vi (((40 * n + (40 : Nat) : Nat) : Int)), vi ((n : Int)), vp B6_11, vi (((40 : Nat) : Int)), vp B8_26, (gu u7_ 3), (gu u7_ 4), (gu u7_ 5), (gu u7_ 6), (gu u7_ 7), (gu u7_ 8), .agg #[.slice none 0 0], vi ((n : Int)), .bool (decide ((n : Int) < 5)), (gu u7_ 11), (gu u7_ 12), .agg #[vi 0, vi 0, vi 0, vi 0, vi 0, vi 0, vi 0, vi 0, vi 0, vi 0, vi 0, vi 0, vi 0, vi 0, vi 0, vi 0, vi 0, vi 0, vi 0, vi 0, vi 0, vi 0, vi 0, vi 0, vi 0, vi 0, vi 0, vi 0, vi 0, vi 0, vi 0, vi 0, vi 0, vi 0, vi 0, vi 0, vi 0, vi 0, vi 0, vi 0], vi (((40 : Nat) : Int)), .bool (decide (((40 : Nat) : Int) < 40)), (gu u13_ 2), (gu u13_ 3), (gu u13_ 4), (gu u13_ 5), (gu u13_ 6), (gu u13_ 7), (gu u13_ 8), (gu u13_ 9), (gu u13_ 10), (gu u13_ 11), (gu u13_ 12), (gu u13_ 13), (gu u13_ 14), (gu u13_ 15), (gu u13_ 16), vp B6_11, vi (V.getD 0 0), .pointer (some ⟨B6_11, 1, none⟩), vi (V.getD 1 0), vi ((V.getD 1 0) % 2), vi (1 + ((V.getD 1 0) % 2)), .string (putS (1 + ((V.getD 1 0) % 2)) 2), .slice A45_26 1 1, .agg #[vi 1, vi (V.getD 0 0), .slice A45_26 1 1], (gu u27_ 0), (gu u27_ 1), (gu u27_ 2), (gu u27_ 3), (gu u27_ 4), (gu u27_ 5), (gu u27_ 6), (gu u27_ 7), (gu u7_ 48), (gu u7_ 49), (gu u7_ 50), (gu u7_ 51), (gu u7_ 52), (gu u7_ 53), (gu u7_ 54), (gu u7_ 55), (gu u7_ 56), (gu u7_ 57), (gu u7_ 58), (gu u7_ 59), (gu u7_ 60), (gu u7_ 61), (gu u7_ 62), (gu u7_ 63), (gu u7_ 64), (gu u7_ 65), (gu u7_ 66), (gu u7_ 67), (gu u7_ 68), (gu u7_ 69), (gu u7_ 70), (gu u7_ 71), (gu u7_ 72), (gu u7_ 73), (gu u7_ 74), (gu u7_ 75), (gu u7_ 76), (gu u7_ 77), (gu u7_ 78), (gu u7_ 79), (gu u7_ 80), (gu u7_ 81), (gu u7_ 82), (gu u7_ 83), (gu u7_ 84), (gu u7_ 85), (gu u7_ 86), (gu u7_ 87), (gu u7_ 88), (gu u7_ 89), (gu u7_ 90), (gu u7_ 91), (gu u7_ 92), (gu u7_ 93), (gu u7_ 94), (gu u7_ 95), (gu u7_ 96), (gu u7_ 97), (gu u7_ 98), (gu u7_ 99), (gu u7_ 100), (gu u7_ 101), (gu u7_ 102), (gu u7_ 103), (gu u7_ 104), (gu u7_ 105), (gu u7_ 106), (gu u7_ 107), (gu u7_ 108), (gu u7_ 109), (gu u7_ 110), (gu u7_ 111), (gu u7_ 112), (gu u7_ 113), (gu u7_ 114), (gu u7_ 115), (gu u7_ 116), (gu u7_ 117), (gu u7_ 118), (gu u7_ 119), (gu u7_ 120), (gu u7_ 121), (gu u7_ 122), (gu u7_ 123), (gu u7_ 124), (gu u7_ 125), (gu u7_ 126), (gu u7_ 127), (gu u7_ 128), (gu u7_ 129), (gu u7_ 130), (gu u7_ 131), (gu u7_ 132), (gu u7_ 133), (gu u7_ 134), (gu u7_ 135), undef], []⟩ ∧ St w [] [eB B2_1 30 #[.slice none 0 0], eB B3_2 30 #[.slice PA n PC], eO 64 3 (.slice PA n PC) n (Ps.flatMap pgC), ePs Ps, eB B6_11 220 (V.map (Value.int .i64)).toArray, eO 9 1 (.slice A45_26 1 1) 1 ([.string (putS (1 + ((V.getD 1 0) % 2)) 2)]), eB B8_26 64 #[vi K, vi (V.getD 0 0), .slice A45_26 1 1]] W) ?_ ?_
    · skip
      refine wp_seq (wp_region_Z [0, 1, 3, 7] [[], [4]] [.c 47 (.pointer (some ⟨B6_11, 2, none⟩)), .c 48 (vi (V.getD 2 0)), tRe 49 .i64 (V.getD 2 0) 9 ((V.getD 2 0) % 9) (Int.tmod_eq_emod_of_nonneg (by omega)), .k 50 (.bool (((V.getD 2 0) % 9) == 4))] [0, 1, 2, 3, 4, 5, 6] [0, 1] [(47, 0, 4, 51)] hst26 ?_ fun W28 hst28 => ?_)
      · refine ⟨?_, ?_, trivial⟩
        · exact xs4 rfl id fun cx => run_indexArrB (n := 40) (sz := 1) (m := 2) (q := 2) rfl (by kernel_rfl) (cx.ou 6) (cx.co _) (by omega) (by omega) (by omega)
        · exact xs4 rfl id fun cx => run_load1 rfl (by kernel_rfl) (cx.an 0) (((cx.bi 4 rfl).cell 2).trans ((List.getElem?_toArray ..).trans (getD_int (by omega))))
      refine then_normal ?_
      rcases Bool.eq_false_or_eq_true (((V.getD 2 0) % 9) == 4) with hs29 | hs29
      · skip
        have hs29p : ((V.getD 2 0) % 9) = 4 := by simpa using hs29
        refine wp_cond_true (show Act.eval _ _ = .bool true from (congrArg Value.bool hs29)) (wp_region_Y [0, 1, 3, 7, 15] [[], [4], [], [], [6]] [[], [], [], [], [7]] [[], [], [], [], [6]] [.c 51 (.pointer (some ⟨B6_11, 3, none⟩)), .c 52 (vi (V.getD 3 0)), tRe 53 .i64 (V.getD 3 0) 3 ((V.getD 3 0) % 3) (Int.tmod_eq_emod_of_nonneg (by omega)), .k 54 (vp B8_26), .n] (fun ix σ β X => match ix with | 0 => True | 1 => True | 2 => True | 3 => True | 4 => X 7 = eB B8_26 64 #[vi ((V.getD 3 0) % 3), vi (V.getD 0 0), .slice A45_26 1 1] | _ => True) [0, 1, 2, 3, 4, 5, 7] [0, 1, 4] [(51, 0, 4, 55)] hst28 ?_ ?_ ?_)
        · exact fun ix _ _ _ _ _ _ hs hb hx h => match ix, h with
          | 4, h => by dsimp only at h ⊢; rw [← hx 7 rfl]; exact h
          | 0, _ | 1, _ | 2, _ | 3, _ | _ + 5, _ => trivial
        · refine ⟨?_, ?_, ?_, trivial⟩
          · exact xs4 rfl id fun cx => run_indexArrB (n := 40) (sz := 1) (m := 3) (q := 3) rfl (by kernel_rfl) (cx.ou 6) (cx.co _) (by omega) (by omega) (by omega)
          · exact xs4 rfl id fun cx => run_load1 rfl (by kernel_rfl) (cx.an 0) (((cx.bi 4 rfl).cell 3).trans ((List.getElem?_toArray ..).trans (getD_int (by omega))))
          · refine sv_any rfl rfl fun ρ β W X cx => ?_
            exact dv_store (n := 1) rfl (cx.an 3) (cx.an 2) (by kernel_rfl) (by kernel_rfl) (by kernel_rfl) cx (cx.init 6 _ rfl) rfl (nle rfl) (by kernel_rfl) rfl rfl rfl (fun σ β' X' hs hb hx => hx)
        intro σ β X W30 hD hst30 fr hfr
        simp only [exq 7 ((dTn (hD 4 lq)))] at hst30
        clear hD; subst hfr; clear σ β X
        refine then_normal ?_
        have hp31 := hst30.pick [0, 1, 2, 3, 4, 5, 6] (by decide) rfl
        exact ⟨((V.getD 3 0) % 3), [.pointer (some ⟨B6_11, 2, none⟩), vi (V.getD 2 0), vi ((V.getD 2 0) % 9), .bool (((V.getD 2 0) % 9) == 4), .pointer (some ⟨B6_11, 3, none⟩), vi (V.getD 3 0), vi ((V.getD 3 0) % 3), vp B8_26], by rw [mdK]; split <;> first | rfl | (exfalso; omega), rfl, hp31⟩
      have hs29p : ((V.getD 2 0) % 9) ≠ 4 := by simpa using hs29
      refine wp_cond_false (show Act.eval _ _ = .bool false from (congrArg Value.bool hs29)) (wp_skip (then_normal ?_))
      have hp32 := hst28.pick [0, 1, 2, 3, 4, 5, 6] (by decide) rfl
      exact ⟨1, [.pointer (some ⟨B6_11, 2, none⟩), vi (V.getD 2 0), vi ((V.getD 2 0) % 9), .bool (((V.getD 2 0) % 9) == 4), (gu u7_ 44), (gu u7_ 45), (gu u7_ 46), (gu u7_ 47)], by rw [mdK]; split <;> first | rfl | (exfalso; omega), rfl, hp32⟩
    rintro a27 W27 ⟨K, u27_, hK, rfl, hst27⟩
    subst hK
    refine wp_cut (fun az W => ∃ H : ByteArray, ∃ u33_ : List Value, H = mdH V ∧ az = ⟨#[.slice LA s.length lc, undef, vp B2_1, vp B3_2, vi (((40 * n + (40 : Nat) : Nat) : Int)), vi ((n : Int)), vp B6_11, vi (((40 : Nat) : Int)), vp B8_26, (gu u7_ 3), (gu u7_ 4), (gu u7_ 5), (gu u7_ 6), (gu u7_ 7), (gu u7_ 8), .agg #[.slice none 0 0], vi ((n : Int)), .bool (decide ((n : Int) < 5)), (gu u7_ 11), (gu u7_ 12), .agg #[vi 0, vi 0, vi 0, vi 0, vi 0, vi 0, vi 0, vi 0, vi 0, vi 0, vi 0, vi 0, vi 0, vi 0, vi 0, vi 0, vi 0, vi 0, vi 0, vi 0, vi 0, vi 0, vi 0, vi 0, vi 0, vi 0, vi 0, vi 0, vi 0, vi 0, vi 0, vi 0, vi 0, vi 0, vi 0, vi 0, vi 0, vi 0, vi 0, vi 0], vi (((40 : Nat) : Int)), .bool (decide (((40 : Nat) : Int) < 40)), (gu u13_ 2), (gu u13_ 3), (gu u13_ 4), (gu u13_ 5), (gu u13_ 6), (gu u13_ 7), (gu u13_ 8), (gu u13_ 9), (gu u13_ 10), (gu u13_ 11), (gu u13_ 12), (gu u13_ 13), (gu u13_ 14), (gu u13_ 15), (gu u13_ 16), vp B6_11, vi (V.getD 0 0), .pointer (some ⟨B6_11, 1, none⟩), vi (V.getD 1 0), vi ((V.getD 1 0) % 2), vi (1 + ((V.getD 1 0) % 2)), .string (putS (1 + ((V.getD 1 0) % 2)) 2), .slice A45_26 1 1, .agg #[vi 1, vi (V.getD 0 0), .slice A45_26 1 1], (gu u27_ 0), (gu u27_ 1), (gu u27_ 2), (gu u27_ 3), (gu u27_ 4), (gu u27_ 5), (gu u27_ 6), (gu u27_ 7), (gu u33_ 0), (gu u33_ 1), (gu u33_ 2), (gu u33_ 3), (gu u33_ 4), (gu u33_ 5), (gu u33_ 6), (gu u7_ 55), (gu u7_ 56), (gu u7_ 57), (gu u7_ 58), (gu u7_ 59), (gu u7_ 60), (gu u7_ 61), (gu u7_ 62), (gu u7_ 63), (gu u7_ 64), (gu u7_ 65), (gu u7_ 66), (gu u7_ 67), (gu u7_ 68), (gu u7_ 69), (gu u7_ 70), (gu u7_ 71), (gu u7_ 72), (gu u7_ 73), (gu u7_ 74), (gu u7_ 75), (gu u7_ 76), (gu u7_ 77), (gu u7_ 78), (gu u7_ 79), (gu u7_ 80), (gu u7_ 81), (gu u7_ 82), (gu u7_ 83), (gu u7_ 84), (gu u7_ 85), (gu u7_ 86), (gu u7_ 87), (gu u7_ 88), (gu u7_ 89), (gu u7_ 90), (gu u7_ 91), (gu u7_ 92), (gu u7_ 93), (gu u7_ 94), (gu u7_ 95), (gu u7_ 96), (gu u7_ 97), (gu u7_ 98), (gu u7_ 99), (gu u7_ 100), (gu u7_ 101), (gu u7_ 102), (gu u7_ 103), (gu u7_ 104), (gu u7_ 105), (gu u7_ 106), (gu u7_ 107), (gu u7_ 108), (gu u7_ 109), (gu u7_ 110), (gu u7_ 111), (gu u7_ 112), (gu u7_ 113), (gu u7_ 114), (gu u7_ 115), (gu u7_ 116), (gu u7_ 117), (gu u7_ 118), (gu u7_ 119), (gu u7_ 120), (gu u7_ 121), (gu u7_ 122), (gu u7_ 123), (gu u7_ 124), (gu u7_ 125), (gu u7_ 126), (gu u7_ 127), (gu u7_ 128), (gu u7_ 129), (gu u7_ 130), (gu u7_ 131), (gu u7_ 132), (gu u7_ 133), (gu u7_ 134), (gu u7_ 135), undef], []⟩ ∧ St w [] [eB B2_1 30 #[.slice none 0 0], eB B3_2 30 #[.slice PA n PC], eO 64 3 (.slice PA n PC) n (Ps.flatMap pgC), ePs Ps, eB B6_11 220 (V.map (Value.int .i64)).toArray, eO 9 1 (.slice A45_26 1 1) 1 ([.string H]), eB B8_26 64 #[vi (mdK V), vi (V.getD 0 0), .slice A45_26 1 1]] W) ?_ ?_
    · skip
      refine wp_seq (wp_region_Z [0, 1, 3, 7] [[], [4]] [.c 55 (.pointer (some ⟨B6_11, 2, none⟩)), .c 56 (vi (V.getD 2 0)), tRe 57 .i64 (V.getD 2 0) 11 ((V.getD 2 0) % 11) (Int.tmod_eq_emod_of_nonneg (by omega)), .k 58 (.bool (((V.getD 2 0) % 11) == 5))] [0, 1, 2, 3, 4, 5, 6] [0, 1] [(55, 0, 4, 59)] hst27 ?_ fun W34 hst34 => ?_)
      · refine ⟨?_, ?_, trivial⟩
        · exact xs4 rfl id fun cx => run_indexArrB (n := 40) (sz := 1) (m := 2) (q := 2) rfl (by kernel_rfl) (cx.ou 6) (cx.co _) (by omega) (by omega) (by omega)
        · exact xs4 rfl id fun cx => run_load1 rfl (by kernel_rfl) (cx.an 0) (((cx.bi 4 rfl).cell 2).trans ((List.getElem?_toArray ..).trans (getD_int (by omega))))
      refine then_normal ?_
      rcases Bool.eq_false_or_eq_true (((V.getD 2 0) % 11) == 5) with hs35 | hs35
      · skip
        have hs35p : ((V.getD 2 0) % 11) = 5 := by simpa using hs35
        refine wp_cond_true (show Act.eval _ _ = .bool true from (congrArg Value.bool hs35)) (wp_region_Y [0, 1, 3, 7] [[], [6], [5], [5]] [[], [], [], [7]] [[], [], [], [5]] [.k 59 (.pointer (some ⟨B8_26, 2, none⟩)), .c 60 (.slice A45_26 1 1), .c 61 (.pointer (some ((ad A45_26).add 0))), .n] (fun ix σ β X => match ix with | 0 => True | 1 => True | 2 => True | 3 => X 7 = eO 9 1 (.slice A45_26 1 1) 1 (([.string (putS (1 + ((V.getD 1 0) % 2)) 2)]).set 0 (.string ⟨#[120]⟩)) | _ => True) [0, 1, 2, 3, 4, 6, 7] [1, 2, 3] [(59, 0, 3, 62)] hst34 ?_ ?_ ?_)
        · exact fun ix _ _ _ _ _ _ hs hb hx h => match ix, h with
          | 3, h => by dsimp only at h ⊢; rw [← hx 7 rfl]; exact h
          | 0, _ | 1, _ | 2, _ | _ + 4, _ => trivial
        · refine ⟨?_, ?_, ?_, trivial⟩
          · exact xs4 rfl id fun cx => run_load1 rfl (by kernel_rfl) (cx.an 0) ((cx.bi 6 rfl).cell 2)
          · exact xs4 rfl id fun cx => run_indexSl (e := 9) (m := 0) rfl (by kernel_rfl) (by kernel_rfl) (cx.an 1) (cx.co _) (by omega) (by omega) (At.of_own (cx.ri 5 rfl)) (by simp)
          · refine sv_any rfl rfl fun ρ β W X cx => ?_
            exact dv_storeRow (m := 0) (n := 1) rfl (cx.an 2) (cx.co _) (by kernel_rfl) rfl rfl cx (cx.init 5 _ rfl) rfl (by omega) rfl (rfl) rfl rfl (fun σ β' X' hs hb hx => hx)
        intro σ β X W36 hD hst36 fr hfr
        simp only [exq 7 ((dTn (hD 3 lq)))] at hst36
        clear hD; subst hfr; clear σ β X
        refine then_normal ?_
        have hp37 := hst36.pick [0, 1, 2, 3, 4, 6, 5] (by decide) rfl
        exact ⟨(⟨#[120]⟩ : ByteArray), [.pointer (some ⟨B6_11, 2, none⟩), vi (V.getD 2 0), vi ((V.getD 2 0) % 11), .bool (((V.getD 2 0) % 11) == 5), .pointer (some ⟨B8_26, 2, none⟩), .slice A45_26 1 1, .pointer (some ((ad A45_26).add 0))], by rw [mdH]; split <;> first | rfl | (exfalso; omega), rfl, hp37⟩
      have hs35p : ((V.getD 2 0) % 11) ≠ 5 := by simpa using hs35
      refine wp_cond_false (show Act.eval _ _ = .bool false from (congrArg Value.bool hs35)) (wp_skip (then_normal ?_))
      have hp38 := hst34.pick [0, 1, 2, 3, 4, 5, 6] (by decide) rfl
      exact ⟨(putS (1 + ((V.getD 1 0) % 2)) 2), [.pointer (some ⟨B6_11, 2, none⟩), vi (V.getD 2 0), vi ((V.getD 2 0) % 11), .bool (((V.getD 2 0) % 11) == 5), (gu u7_ 52), (gu u7_ 53), (gu u7_ 54)], by rw [mdH]; split <;> first | rfl | (exfalso; omega), rfl, hp38⟩
    rintro a33 W33 ⟨H, u33_, hH, rfl, hst33⟩
    subst hH
    refine wp_seq (wp_seq (wp_region_P [0] [.k 9 (vi 1)] [(9, 0, 1, 10)] hst33 fun W39 hst39 => ?_))
    refine then_normal (wp_block ?_)
    refine wp_loopN (fun mz az W => ∃ i : Nat, ∃ IA : Option Addr, ∃ IC : Nat, ∃ u40_ : List Value, 1 ≤ i ∧ i ≤ 12 ∧ mz = 12 - i ∧ az = ⟨#[.slice LA s.length lc, undef, vp B2_1, vp B3_2, vi (((40 * n + (40 : Nat) : Nat) : Int)), vi ((n : Int)), vp B6_11, vi (((40 : Nat) : Int)), vp B8_26, vi ((i : Int)), (gu u40_ 0), (gu u40_ 1), (gu u40_ 2), (gu u40_ 3), (gu u40_ 4), .agg #[.slice none 0 0], vi ((n : Int)), .bool (decide ((n : Int) < 5)), (gu u7_ 11), (gu u7_ 12), .agg #[vi 0, vi 0, vi 0, vi 0, vi 0, vi 0, vi 0, vi 0, vi 0, vi 0, vi 0, vi 0, vi 0, vi 0, vi 0, vi 0, vi 0, vi 0, vi 0, vi 0, vi 0, vi 0, vi 0, vi 0, vi 0, vi 0, vi 0, vi 0, vi 0, vi 0, vi 0, vi 0, vi 0, vi 0, vi 0, vi 0, vi 0, vi 0, vi 0, vi 0], vi (((40 : Nat) : Int)), .bool (decide (((40 : Nat) : Int) < 40)), (gu u13_ 2), (gu u13_ 3), (gu u13_ 4), (gu u13_ 5), (gu u13_ 6), (gu u13_ 7), (gu u13_ 8), (gu u13_ 9), (gu u13_ 10), (gu u13_ 11), (gu u13_ 12), (gu u13_ 13), (gu u13_ 14), (gu u13_ 15), (gu u13_ 16), vp B6_11, vi (V.getD 0 0), .pointer (some ⟨B6_11, 1, none⟩), vi (V.getD 1 0), vi ((V.getD 1 0) % 2), vi (1 + ((V.getD 1 0) % 2)), .string (putS (1 + ((V.getD 1 0) % 2)) 2), .slice A45_26 1 1, .agg #[vi 1, vi (V.getD 0 0), .slice A45_26 1 1], (gu u27_ 0), (gu u27_ 1), (gu u27_ 2), (gu u27_ 3), (gu u27_ 4), (gu u27_ 5), (gu u27_ 6), (gu u27_ 7), (gu u33_ 0), (gu u33_ 1), (gu u33_ 2), (gu u33_ 3), (gu u33_ 4), (gu u33_ 5), (gu u33_ 6), (gu u40_ 5), (gu u40_ 6), (gu u40_ 7), (gu u40_ 8), (gu u40_ 9), (gu u40_ 10), (gu u40_ 11), (gu u40_ 12), (gu u40_ 13), (gu u40_ 14), (gu u40_ 15), (gu u40_ 16), (gu u40_ 17), (gu u40_ 18), (gu u40_ 19), (gu u40_ 20), (gu u40_ 21), (gu u40_ 22), (gu u40_ 23), (gu u40_ 24), (gu u40_ 25), (gu u40_ 26), (gu u40_ 27), (gu u40_ 28), (gu u40_ 29), (gu u40_ 30), (gu u40_ 31), (gu u40_ 32), (gu u40_ 33), (gu u40_ 34), (gu u40_ 35), (gu u40_ 36), (gu u40_ 37), (gu u40_ 38), (gu u40_ 39), (gu u40_ 40), (gu u40_ 41), (gu u40_ 42), (gu u40_ 43), (gu u40_ 44), (gu u40_ 45), (gu u40_ 46), (gu u40_ 47), (gu u40_ 48), (gu u40_ 49), (gu u40_ 50), (gu u40_ 51), (gu u40_ 52), (gu u40_ 53), (gu u40_ 54), (gu u40_ 55), (gu u40_ 56), (gu u40_ 57), (gu u40_ 58), (gu u40_ 59), (gu u40_ 60), (gu u40_ 61), (gu u40_ 62), (gu u40_ 63), (gu u40_ 64), (gu u40_ 65), (gu u40_ 66), (gu u40_ 67), (gu u40_ 68), (gu u40_ 69), (gu u40_ 70), (gu u40_ 71), (gu u40_ 72), (gu u40_ 73), (gu u40_ 74), (gu u40_ 75), (gu u40_ 76), (gu u40_ 77), (gu u40_ 78), (gu u40_ 79), (gu u7_ 130), (gu u7_ 131), (gu u7_ 132), (gu u7_ 133), (gu u7_ 134), (gu u7_ 135), undef], []⟩ ∧ St w [] [eB B2_1 30 #[.slice none 0 0], eB B3_2 30 #[.slice PA n PC], eO 64 3 (.slice PA n PC) n (Ps.flatMap pgC), ePs Ps, eB B6_11 220 (V.map (Value.int .i64)).toArray, eO 9 1 (.slice IA ((mdSs V n i).length) IC) ((mdSs V n i).length) ((mdSs V n i).map Value.string), eB B8_26 64 #[vi (mdK V), vi (V.getD 0 0), .slice IA ((mdSs V n i).length) IC]] W) (12 - 1) ?_ ?_
    · -- the loop begins
      have hp41 := hst39.pick [0, 1, 2, 3, 4, 5, 6] (by decide) rfl
      exact ⟨1, A45_26, 1, [(gu u7_ 4), (gu u7_ 5), (gu u7_ 6), (gu u7_ 7), (gu u7_ 8), (gu u7_ 55), (gu u7_ 56), (gu u7_ 57), (gu u7_ 58), (gu u7_ 59), (gu u7_ 60), (gu u7_ 61), (gu u7_ 62), (gu u7_ 63), (gu u7_ 64), (gu u7_ 65), (gu u7_ 66), (gu u7_ 67), (gu u7_ 68), (gu u7_ 69), (gu u7_ 70), (gu u7_ 71), (gu u7_ 72), (gu u7_ 73), (gu u7_ 74), (gu u7_ 75), (gu u7_ 76), (gu u7_ 77), (gu u7_ 78), (gu u7_ 79), (gu u7_ 80), (gu u7_ 81), (gu u7_ 82), (gu u7_ 83), (gu u7_ 84), (gu u7_ 85), (gu u7_ 86), (gu u7_ 87), (gu u7_ 88), (gu u7_ 89), (gu u7_ 90), (gu u7_ 91), (gu u7_ 92), (gu u7_ 93), (gu u7_ 94), (gu u7_ 95), (gu u7_ 96), (gu u7_ 97), (gu u7_ 98), (gu u7_ 99), (gu u7_ 100), (gu u7_ 101), (gu u7_ 102), (gu u7_ 103), (gu u7_ 104), (gu u7_ 105), (gu u7_ 106), (gu u7_ 107), (gu u7_ 108), (gu u7_ 109), (gu u7_ 110), (gu u7_ 111), (gu u7_ 112), (gu u7_ 113), (gu u7_ 114), (gu u7_ 115), (gu u7_ 116), (gu u7_ 117), (gu u7_ 118), (gu u7_ 119), (gu u7_ 120), (gu u7_ 121), (gu u7_ 122), (gu u7_ 123), (gu u7_ 124), (gu u7_ 125), (gu u7_ 126), (gu u7_ 127), (gu u7_ 128), (gu u7_ 129)], by omega, by omega, rfl, rfl, hp41⟩
    rintro n40 a40 W40 ⟨i, IA, IC, u40_, hi1, hi12, rfl, rfl, hst40⟩
    refine wp_seq (wp_seq (wp_region_Z [0, 1, 3, 7, 15, 31, 63, 127] [] [.k 62 (vi ((i : Int))), .k 63 (.bool (decide ((i : Int) < 12))), .k 64 (.bool (decide ((i : Int) < 12))), .z 65 (decide ((i : Int) < 12)) (vi ((i : Int))), .y 66 (decide ((i : Int) < 12)) (vi (((3 * i : Nat) : Int))), .y 67 (decide ((i : Int) < 12)) (vi (((3 * i + 2 : Nat) : Int))), .z 68 (decide ((i : Int) < 12)) (.bool (decide (((3 * i + 2 : Nat) : Int) < 40))), tA 69 (decide ((i : Int) < 12)) (decide (((3 * i + 2 : Nat) : Int) < 40))] [0, 1, 2, 3, 4, 5, 6] [4, 5] [(62, 0, 8, 70)] hst40 ?_ fun W42 hst42 => ?_))
    · refine ⟨?_, ?_, trivial⟩
      · exact m2 rfl (fun _ _ _ h => h) (fun cx => (cx.an 2)) fun cx hq => run_bin rfl (cx.co _) (mbv (cx.an 3) hq) (congrArg (fun z => some (Value.int .i64 z)) ((IntWalk.i64_in _ (by have hq_ := hq; simp only [zB] at hq_; omega)).trans (by have hq_ := hq; simp only [zB] at hq_; omega)))
      · exact m2 rfl (fun _ _ _ h => h) (fun cx => (cx.an 2)) fun cx hq => run_bin rfl (mbv (cx.an 4) hq) (cx.co _) (congrArg (fun z => some (Value.int .i64 z)) ((IntWalk.i64_in _ (by have hq_ := hq; simp only [zB] at hq_; omega)).trans (by have hq_ := hq; simp only [zB] at hq_; omega)))
    refine then_normal ?_
    rcases Bool.eq_false_or_eq_true ((decide ((i : Int) < 12)) && (decide (((3 * i + 2 : Nat) : Int) < 40))) with hs43 | hs43
    · skip
      have hs43p := hs43
      simp only [zB] at hs43p
      obtain ⟨hs43p1, hs43p2⟩ := hs43p
      refine wp_cond_true (show Act.eval _ _ = .bool true from (congrArg Value.bool hs43)) (wp_skip (then_normal (wp_seq (wp_block (wp_seq (wp_region_Z [0, 1, 3, 7, 15] [[], [], [], [4]] [.k 72 (vi ((i : Int))), tJ 73 (3 * (i : Int)) ((3 * i : Nat) : Int) (by omega) (by omega), .c 74 (.pointer (some ⟨B6_11, ((3 * i : Nat)), none⟩)), .c 75 (vi (V.getD ((3 * i : Nat)) 0)), .k 10 (vi (V.getD ((3 * i : Nat)) 0))] [0, 1, 2, 3, 4, 5, 6] [2, 3] [(10, 4, 1, 11), (61, 0, 4, 65)] hst42 ?_ fun W44 hst44 => ?_))))))
      · refine ⟨?_, ?_, trivial⟩
        · exact xs4 rfl id fun cx => run_indexArrB (n := 40) (sz := 1) (m := ((3 * i : Nat))) (q := ((3 * i : Nat))) rfl (by kernel_rfl) (cx.ou 6) (cx.an 1) (by omega) (by omega) (by omega)
        · exact xs4 rfl id fun cx => run_load1 rfl (by kernel_rfl) (cx.an 2) (((cx.bi 4 rfl).cell ((3 * i : Nat))).trans ((List.getElem?_toArray ..).trans (getD_int (by omega))))
      refine then_normal (wp_seq ?_)
      obtain ⟨x, hN_x⟩ : ∃ z, V.getD ((3 * i : Nat)) 0 = z := ⟨_, rfl⟩
      rw [hN_x]
      have hxb : 0 ≤ x ∧ x ≤ 65535 := by rw [← hN_x]; exact hVb _
      refine wp_region_Z [0, 1, 3, 7, 15, 31] [[], [], [], [], [4]] [.k 76 (vi ((i : Int))), tJ 77 (3 * (i : Int)) ((3 * i : Nat) : Int) (by omega) (by omega), tJ 78 (((3 * i : Nat) : Int) + 1) ((3 * i + 1 : Nat) : Int) (by omega) (by omega), .c 79 (.pointer (some ⟨B6_11, ((3 * i + 1 : Nat)), none⟩)), .c 80 (vi (V.getD ((3 * i + 1 : Nat)) 0)), .k 11 (vi (V.getD ((3 * i + 1 : Nat)) 0))] [0, 1, 2, 3, 4, 5, 6] [3, 4] [(11, 5, 1, 12), (64, 0, 5, 69)] hst44 ?_ fun W45 hst45 => ?_
      · refine ⟨?_, ?_, trivial⟩
        · exact xs4 rfl id fun cx => run_indexArrB (n := 40) (sz := 1) (m := ((3 * i + 1 : Nat))) (q := ((3 * i + 1 : Nat))) rfl (by kernel_rfl) (cx.ou 6) (cx.an 2) (by omega) (by omega) (by omega)
        · exact xs4 rfl id fun cx => run_load1 rfl (by kernel_rfl) (cx.an 3) (((cx.bi 4 rfl).cell ((3 * i + 1 : Nat))).trans ((List.getElem?_toArray ..).trans (getD_int (by omega))))
      refine then_normal (wp_seq ?_)
      obtain ⟨y, hN_y⟩ : ∃ z, V.getD ((3 * i + 1 : Nat)) 0 = z := ⟨_, rfl⟩
      rw [hN_y]
      have hyb : 0 ≤ y ∧ y ≤ 65535 := by rw [← hN_y]; exact hVb _
      obtain ⟨z, hN_z⟩ : ∃ z, V.getD (3 * i + 2) 0 = z := ⟨_, rfl⟩
      have hvm := vmax_0 (mdL x y z)
      refine wp_region_Y [0, 0, 0, 4, 12, 28, 60, 0, 128, 0, 0, 2047, 4095, 0, 16383] [[], [], [], [], [], [], [4], [], [], [], [], [], [7], [], [9]] [[], [], [], [], [], [], [], [], [], [], [], [7], [8], [9], [10]] [[], [], [], [], [], [], [], [], [], [], [], [], [], [], [9]] [.k 81 (vi (x)), .k 82 (vi (y)), .k 83 (vi ((i : Int))), tJ 84 (3 * (i : Int)) ((3 * i : Nat) : Int) (by omega) (by omega), tJ 85 (((3 * i : Nat) : Int) + 2) ((3 * i + 2 : Nat) : Int) (by omega) (by omega), .c 86 (.pointer (some ⟨B6_11, ((3 * i + 2 : Nat)), none⟩)), .c 87 (vi (V.getD ((3 * i + 2 : Nat)) 0)), .k 88 (vi (x)), tRe 89 .i64 x 2 (x % 2) (Int.tmod_eq_emod_of_nonneg (by omega)), .k 90 (vi (y)), .k 91 (vi (x)), .a 92, .a 93, .a 12, .n] (fun ix σ β X => match ix with | 0 => True | 1 => True | 2 => True | 3 => True | 4 => True | 5 => True | 6 => True | 7 => True | 8 => True | 9 => True | 10 => True | 11 => σ 92 = .slice (sA (β 92)) 6 6 ∧ X 7 = eO 3 1 (.slice (sA (β 92)) 6 6) 6 ([vi (x), vi (y), vi (V.getD ((3 * i + 2 : Nat)) 0), vi (x % 2), vi (y), vi (x)]) | 12 => σ 93 = .agg #[vi ((vminF (mdL x y z))), vi ((vmaxF (mdL x y z))), vi ((vpgF (mdL x y z))), vi ((vslF (mdL x y z))), .bool (vhotF (mdL x y z)), .slice (sA (tg (β 93) 5)) ((vrowF (mdL x y z)).length) (sC (tg (β 93) 5))] ∧ X 8 = eO 45 3 (.slice (sA (tg (β 93) 5)) ((vrowF (mdL x y z)).length) (sC (tg (β 93) 5))) ((vrowF (mdL x y z)).length) (flatR (vrowF (mdL x y z))) | 13 => σ 12 = vp (pb (β 12)) ∧ X 9 = eB (pb (β 12)) 41 #[vi 0, vi 0, vi 0, vi 0, .bool false, .slice none 0 0] | 14 => X 10 = eB (pb (β 12)) 41 #[vi ((vminF (mdL x y z))), vi ((vmaxF (mdL x y z))), vi ((vpgF (mdL x y z))), vi ((vslF (mdL x y z))), .bool (vhotF (mdL x y z)), .slice (sA (tg (β 93) 5)) ((vrowF (mdL x y z)).length) (sC (tg (β 93) 5))] | _ => True) [0, 1, 2, 3, 4, 5, 6, 7, 8, 10] [5, 6, 11, 12, 13, 14] [(12, 13, 1, 13), (68, 0, 13, 81)] hst45 ?_ ?_ ?_
      · exact fun ix _ _ _ _ _ _ hs hb hx h => match ix, h with
        | 11, h => by dsimp only at h ⊢; rw [← hs 92 rfl, ← hb 92 rfl, ← hx 7 rfl]; exact h
        | 12, h => by dsimp only at h ⊢; rw [← hs 93 rfl, ← hb 93 rfl, ← hx 8 rfl]; exact h
        | 13, h => by dsimp only at h ⊢; rw [← hs 12 rfl, ← hb 12 rfl, ← hx 9 rfl]; exact h
        | 14, h => by dsimp only at h ⊢; rw [← hb 12 rfl, ← hb 93 rfl, ← hx 10 rfl]; exact h
        | 0, _ | 1, _ | 2, _ | 3, _ | 4, _ | 5, _ | 6, _ | 7, _ | 8, _ | 9, _ | 10, _ | _ + 15, _ => trivial
      · refine ⟨?_, ?_, ?_, ?_, ?_, ?_, trivial⟩
        · exact xs4 rfl id fun cx => run_indexArrB (n := 40) (sz := 1) (m := ((3 * i + 2 : Nat))) (q := ((3 * i + 2 : Nat))) rfl (by kernel_rfl) (cx.ou 6) (cx.an 4) (by omega) (by omega) (by omega)
        · exact xs4 rfl id fun cx => run_load1 rfl (by kernel_rfl) (cx.an 5) (((cx.bi 4 rfl).cell ((3 * i + 2 : Nat))).trans ((List.getElem?_toArray ..).trans (getD_int (by omega))))
        · refine sv_any rfl rfl fun ρ β W X cx => ?_
          have fF81 : ρ (.tmp 81) = vi (x) := (cx.an 0)
          have fF82 : ρ (.tmp 82) = vi (y) := (cx.an 1)
          have fF87 : ρ (.tmp 87) = vi (V.getD ((3 * i + 2 : Nat)) 0) := (cx.an 6)
          have fF89 : ρ (.tmp 89) = vi (x % 2) := (cx.an 8)
          have fF90 : ρ (.tmp 90) = vi (y) := (cx.an 9)
          have fF91 : ρ (.tmp 91) = vi (x) := (cx.an 10)
          exact dv_lit (e := 3) (xs := [vi (x), vi (y), vi (V.getD ((3 * i + 2 : Nat)) 0), vi (x % 2), vi (y), vi (x)]) rfl (by simp [go_sem, fF81, fF82, fF87, fF89, fF90, fF91]) rfl (by decide) rfl rfl (fun σ β' X' hs hb hv hx => ⟨hv, hx⟩)
        · refine sv_any rfl rfl fun ρ β W X cx => ?_
          have hR_ := (dTn (cx.an 11)).2
          have hR2_ := At.of_own (cx.row hR_ rfl)
          refine DoesU.call (run_callF (args := #[.slice (sA (β 92)) 6 6]) rfl cx.sees rfl (by kernel_rfl) (map1 (dTn (cx.an 11)).1)) ?_
          refine (made08_any _ _ (mdL x y z) _ (At.eqv hR2_ (by rw [← hN_z]; rfl)) (by show 6 ≤ 9223372036854775807; decide)).mono ?_
          rintro e W1 ⟨A4, c4, rfl, ho, hx⟩
          refine ⟨_, rfl, post_call [eO 45 3 (.slice A4 ((vrowF (mdL x y z)).length) c4) ((vrowF (mdL x y z)).length) (flatR (vrowF (mdL x y z)))] rfl rfl hx (one_new (eO_new ho)) (List.pairwise_singleton _ _) (fun σ β' X' hs hb hv hN => ?_)⟩
          have hv1 := (hv 93 rfl).1; have hv2 := (hv 93 rfl).2
          exact ⟨hv1.trans (by rw [hv2]; rfl), (by rw [hv2]; exact (List.cons.inj hN).1)⟩
        · refine sv_any rfl rfl fun ρ β W X cx => ?_
          exact dv_alloc (cs := #[vi 0, vi 0, vi 0, vi 0, .bool false, .slice none 0 0]) rfl (by kernel_rfl) rfl rfl (fun σ β' X' hs hb hv hx => ⟨hv, hx⟩)
        · refine sv_any rfl rfl fun ρ β W X cx => ?_
          exact dv_store (n := 6) rfl (dTn (cx.an 13)).1 (dTn (cx.an 12)).1 (by kernel_rfl) (by kernel_rfl) (by kernel_rfl) cx (dTn (cx.an 13)).2 rfl (nle rfl) (by kernel_rfl) rfl rfl rfl (fun σ β' X' hs hb hx => by rw [hb 12, hb 93]; exact hx)
      intro σ β X W46 hD hst46 fr hfr
      obtain ⟨A92_46, hu_A92_46⟩ : ∃ z, sA (β 92) = z := ⟨_, rfl⟩
      obtain ⟨A93_46, hu_A93_46⟩ : ∃ z, sA (tg (β 93) 5) = z := ⟨_, rfl⟩
      obtain ⟨c93_46, hu_c93_46⟩ : ∃ z, sC (tg (β 93) 5) = z := ⟨_, rfl⟩
      obtain ⟨B12_46, hu_B12_46⟩ : ∃ z, pb (β 12) = z := ⟨_, rfl⟩
      simp only [exq 7 ((dTn (hD 11 lq)).2), exq 8 ((dTn (hD 12 lq)).2), exq 10 ((dTn (hD 14 lq))), hu_A92_46, hu_A93_46, hu_c93_46, hu_B12_46] at hst46
      simp only [ed 92 ((dTn (hD 11 lq)).1), ed 93 ((dTn (hD 12 lq)).1), ed 12 ((dTn (hD 13 lq)).1), hu_A92_46, hu_A93_46, hu_c93_46, hu_B12_46] at hfr
      clear hD hu_A92_46 hu_A93_46 hu_c93_46 hu_B12_46; subst hfr; clear σ β X
      refine then_normal (wp_seq (wp_region_Y [0, 1, 3, 7, 15] [[], [], [], [], [9]] [[], [], [], [], [10]] [[], [], [], [], [9]] [.k 94 (vi (x)), tRe 95 .i64 x 59 (x % 59) (Int.tmod_eq_emod_of_nonneg (by omega)), tI 96 (2 + (x % 59)) (by omega), .k 97 (vp B12_46), .n] (fun ix σ β X => match ix with | 0 => True | 1 => True | 2 => True | 3 => True | 4 => X 10 = eB B12_46 41 #[vi (2 + (x % 59)), vi ((vmaxF (mdL x y z))), vi ((vpgF (mdL x y z))), vi ((vslF (mdL x y z))), .bool (vhotF (mdL x y z)), .slice A93_46 ((vrowF (mdL x y z)).length) c93_46] | _ => True) [0, 1, 2, 3, 4, 5, 6, 7, 8, 10] [4] [(94, 0, 4, 98)] hst46 ?_ ?_ ?_))
      · exact fun ix _ _ _ _ _ _ hs hb hx h => match ix, h with
        | 4, h => by dsimp only at h ⊢; rw [← hx 10 rfl]; exact h
        | 0, _ | 1, _ | 2, _ | 3, _ | _ + 5, _ => trivial
      · refine ⟨?_, trivial⟩
        · refine sv_any rfl rfl fun ρ β W X cx => ?_
          exact dv_store (n := 1) rfl (cx.an 3) (cx.an 2) (by kernel_rfl) (by kernel_rfl) (by kernel_rfl) cx (cx.init 9 _ rfl) rfl (nle rfl) (by kernel_rfl) rfl rfl rfl (fun σ β' X' hs hb hx => hx)
      intro σ β X W47 hD hst47 fr hfr
      simp only [exq 10 ((dTn (hD 4 lq)))] at hst47
      clear hD; subst hfr; clear σ β X
      refine then_normal ?_
      refine wp_cut (fun az W => ∃ b9 : Int, ∃ u48_ : List Value, b9 = (itV n x y z).2.1 ∧ az = ⟨#[.slice LA s.length lc, undef, vp B2_1, vp B3_2, vi (((40 * n + (40 : Nat) : Nat) : Int)), vi ((n : Int)), vp B6_11, vi (((40 : Nat) : Int)), vp B8_26, vi ((i : Int)), vi (x), vi (y), vp B12_46, (gu u40_ 3), (gu u40_ 4), .agg #[.slice none 0 0], vi ((n : Int)), .bool (decide ((n : Int) < 5)), (gu u7_ 11), (gu u7_ 12), .agg #[vi 0, vi 0, vi 0, vi 0, vi 0, vi 0, vi 0, vi 0, vi 0, vi 0, vi 0, vi 0, vi 0, vi 0, vi 0, vi 0, vi 0, vi 0, vi 0, vi 0, vi 0, vi 0, vi 0, vi 0, vi 0, vi 0, vi 0, vi 0, vi 0, vi 0, vi 0, vi 0, vi 0, vi 0, vi 0, vi 0, vi 0, vi 0, vi 0, vi 0], vi (((40 : Nat) : Int)), .bool (decide (((40 : Nat) : Int) < 40)), (gu u13_ 2), (gu u13_ 3), (gu u13_ 4), (gu u13_ 5), (gu u13_ 6), (gu u13_ 7), (gu u13_ 8), (gu u13_ 9), (gu u13_ 10), (gu u13_ 11), (gu u13_ 12), (gu u13_ 13), (gu u13_ 14), (gu u13_ 15), (gu u13_ 16), vp B6_11, vi (V.getD 0 0), .pointer (some ⟨B6_11, 1, none⟩), vi (V.getD 1 0), vi ((V.getD 1 0) % 2), vi (1 + ((V.getD 1 0) % 2)), .string (putS (1 + ((V.getD 1 0) % 2)) 2), .slice A45_26 1 1, .agg #[vi 1, vi (V.getD 0 0), .slice A45_26 1 1], (gu u27_ 0), (gu u27_ 1), (gu u27_ 2), (gu u27_ 3), (gu u27_ 4), (gu u27_ 5), (gu u27_ 6), (gu u27_ 7), (gu u33_ 0), (gu u33_ 1), (gu u33_ 2), (gu u33_ 3), (gu u33_ 4), (gu u33_ 5), (gu u33_ 6), vi ((i : Int)), .bool (decide ((i : Int) < 12)), .bool (decide ((i : Int) < 12)), mb (decide ((i : Int) < 12)) (vi ((i : Int))), mb (decide ((i : Int) < 12)) (vi (((3 * i : Nat) : Int))), mb (decide ((i : Int) < 12)) (vi (((3 * i + 2 : Nat) : Int))), mb (decide ((i : Int) < 12)) (.bool (decide (((3 * i + 2 : Nat) : Int) < 40))), .bool ((decide ((i : Int) < 12)) && (decide (((3 * i + 2 : Nat) : Int) < 40))), (gu u40_ 13), (gu u40_ 14), vi ((i : Int)), vi (((3 * i : Nat) : Int)), .pointer (some ⟨B6_11, ((3 * i : Nat)), none⟩), vi (x), vi ((i : Int)), vi (((3 * i : Nat) : Int)), vi (((3 * i + 1 : Nat) : Int)), .pointer (some ⟨B6_11, ((3 * i + 1 : Nat)), none⟩), vi (y), vi (x), vi (y), vi ((i : Int)), vi (((3 * i : Nat) : Int)), vi (((3 * i + 2 : Nat) : Int)), .pointer (some ⟨B6_11, ((3 * i + 2 : Nat)), none⟩), vi (V.getD ((3 * i + 2 : Nat)) 0), vi (x), vi (x % 2), vi (y), vi (x), .slice A92_46 6 6, .agg #[vi ((vminF (mdL x y z))), vi ((vmaxF (mdL x y z))), vi ((vpgF (mdL x y z))), vi ((vslF (mdL x y z))), .bool (vhotF (mdL x y z)), .slice A93_46 ((vrowF (mdL x y z)).length) c93_46], vi (x), vi (x % 59), vi (2 + (x % 59)), vp B12_46, (gu u48_ 0), (gu u48_ 1), (gu u48_ 2), (gu u48_ 3), (gu u48_ 4), (gu u48_ 5), (gu u48_ 6), (gu u40_ 48), (gu u40_ 49), (gu u40_ 50), (gu u40_ 51), (gu u40_ 52), (gu u40_ 53), (gu u40_ 54), (gu u40_ 55), (gu u40_ 56), (gu u40_ 57), (gu u40_ 58), (gu u40_ 59), (gu u40_ 60), (gu u40_ 61), (gu u40_ 62), (gu u40_ 63), (gu u40_ 64), (gu u40_ 65), (gu u40_ 66), (gu u40_ 67), (gu u40_ 68), (gu u40_ 69), (gu u40_ 70), (gu u40_ 71), (gu u40_ 72), (gu u40_ 73), (gu u40_ 74), (gu u40_ 75), (gu u40_ 76), (gu u40_ 77), (gu u40_ 78), (gu u40_ 79), (gu u7_ 130), (gu u7_ 131), (gu u7_ 132), (gu u7_ 133), (gu u7_ 134), (gu u7_ 135), undef], []⟩ ∧ St w [] [eB B2_1 30 #[.slice none 0 0], eB B3_2 30 #[.slice PA n PC], eO 64 3 (.slice PA n PC) n (Ps.flatMap pgC), ePs Ps, eB B6_11 220 (V.map (Value.int .i64)).toArray, eO 9 1 (.slice IA ((mdSs V n i).length) IC) ((mdSs V n i).length) ((mdSs V n i).map Value.string), eB B8_26 64 #[vi (mdK V), vi (V.getD 0 0), .slice IA ((mdSs V n i).length) IC], eO 3 1 (.slice A92_46 6 6) 6 ([vi (x), vi (y), vi (V.getD ((3 * i + 2 : Nat)) 0), vi (x % 2), vi (y), vi (x)]), eO 45 3 (.slice A93_46 ((vrowF (mdL x y z)).length) c93_46) ((vrowF (mdL x y z)).length) (flatR (vrowF (mdL x y z))), eB B12_46 41 #[vi (2 + (x % 59)), vi b9, vi ((vpgF (mdL x y z))), vi ((vslF (mdL x y z))), .bool (vhotF (mdL x y z)), .slice A93_46 ((vrowF (mdL x y z)).length) c93_46]] W) ?_ ?_
      · skip
        refine wp_seq (wp_region_Z [0, 1, 3] [[], [9]] [.k 98 (.pointer (some ⟨B12_46, 1, none⟩)), .c 99 (vi ((vmaxF (mdL x y z)))), .k 100 (.bool (decide (0 < (vmaxF (mdL x y z)))))] [0, 1, 2, 3, 4, 5, 6, 7, 8, 9] [1] [(98, 0, 3, 101)] hst47 ?_ fun W49 hst49 => ?_)
        · refine ⟨?_, trivial⟩
          · exact xs4 rfl id fun cx => run_load1 rfl (by kernel_rfl) (cx.an 0) ((cx.bi 9 rfl).cell 1)
        refine then_normal ?_
        rcases Bool.eq_false_or_eq_true (decide (0 < (vmaxF (mdL x y z)))) with hs50 | hs50
        · skip
          have hs50p : 0 < (vmaxF (mdL x y z)) := by simpa using hs50
          refine wp_cond_true (show Act.eval _ _ = .bool true from (congrArg Value.bool hs50)) (wp_region_Y [0, 1, 3, 7, 15] [[], [], [], [], [9]] [[], [], [], [], [10]] [[], [], [], [], [9]] [.k 101 (vi (y)), tRe 102 .i64 y 58 (y % 58) (Int.tmod_eq_emod_of_nonneg (by omega)), tI 103 (3 + (y % 58)) (by omega), .k 104 (.pointer (some ⟨B12_46, 1, none⟩)), .n] (fun ix σ β X => match ix with | 0 => True | 1 => True | 2 => True | 3 => True | 4 => X 10 = eB B12_46 41 #[vi (2 + (x % 59)), vi (3 + (y % 58)), vi ((vpgF (mdL x y z))), vi ((vslF (mdL x y z))), .bool (vhotF (mdL x y z)), .slice A93_46 ((vrowF (mdL x y z)).length) c93_46] | _ => True) [0, 1, 2, 3, 4, 5, 6, 7, 8, 10] [4] [(101, 0, 4, 105)] hst49 ?_ ?_ ?_)
          · exact fun ix _ _ _ _ _ _ hs hb hx h => match ix, h with
            | 4, h => by dsimp only at h ⊢; rw [← hx 10 rfl]; exact h
            | 0, _ | 1, _ | 2, _ | 3, _ | _ + 5, _ => trivial
          · refine ⟨?_, trivial⟩
            · refine sv_any rfl rfl fun ρ β W X cx => ?_
              exact dv_store (n := 1) rfl (cx.an 3) (cx.an 2) (by kernel_rfl) (by kernel_rfl) (by kernel_rfl) cx (cx.init 9 _ rfl) rfl (nle rfl) (by kernel_rfl) rfl rfl rfl (fun σ β' X' hs hb hx => hx)
          intro σ β X W51 hD hst51 fr hfr
          simp only [exq 10 ((dTn (hD 4 lq)))] at hst51
          clear hD; subst hfr; clear σ β X
          refine then_normal ?_
          have hp52 := hst51.pick [0, 1, 2, 3, 4, 5, 6, 7, 8, 9] (by decide) rfl
          exact ⟨3 + (y % 58), [.pointer (some ⟨B12_46, 1, none⟩), vi ((vmaxF (mdL x y z))), .bool (decide (0 < (vmaxF (mdL x y z)))), vi (y), vi (y % 58), vi (3 + (y % 58)), .pointer (some ⟨B12_46, 1, none⟩)], by rw [itV]; dsimp only; split <;> first | rfl | (exfalso; omega), rfl, hp52⟩
        have hs50p : ¬ (0 < (vmaxF (mdL x y z))) := by simpa using hs50
        refine wp_cond_false (show Act.eval _ _ = .bool false from (congrArg Value.bool hs50)) (wp_skip (then_normal ?_))
        have hp53 := hst49.pick [0, 1, 2, 3, 4, 5, 6, 7, 8, 9] (by decide) rfl
        exact ⟨(vmaxF (mdL x y z)), [.pointer (some ⟨B12_46, 1, none⟩), vi ((vmaxF (mdL x y z))), .bool (decide (0 < (vmaxF (mdL x y z)))), (gu u40_ 44), (gu u40_ 45), (gu u40_ 46), (gu u40_ 47)], by rw [itV]; dsimp only; split <;> first | rfl | (exfalso; omega), rfl, hp53⟩
      rintro a48 W48 ⟨b9, u48_, hb9, rfl, hst48⟩
      subst hb9
      refine wp_cut (fun az W => ∃ n19 : Int, ∃ n29 : Int, ∃ u54_ : List Value, n19 = (itV n x y z).2.2.1 ∧ n29 = (itV n x y z).2.2.2.1 ∧ az = ⟨#[.slice LA s.length lc, undef, vp B2_1, vp B3_2, vi (((40 * n + (40 : Nat) : Nat) : Int)), vi ((n : Int)), vp B6_11, vi (((40 : Nat) : Int)), vp B8_26, vi ((i : Int)), vi (x), vi (y), vp B12_46, (gu u40_ 3), (gu u40_ 4), .agg #[.slice none 0 0], vi ((n : Int)), .bool (decide ((n : Int) < 5)), (gu u7_ 11), (gu u7_ 12), .agg #[vi 0, vi 0, vi 0, vi 0, vi 0, vi 0, vi 0, vi 0, vi 0, vi 0, vi 0, vi 0, vi 0, vi 0, vi 0, vi 0, vi 0, vi 0, vi 0, vi 0, vi 0, vi 0, vi 0, vi 0, vi 0, vi 0, vi 0, vi 0, vi 0, vi 0, vi 0, vi 0, vi 0, vi 0, vi 0, vi 0, vi 0, vi 0, vi 0, vi 0], vi (((40 : Nat) : Int)), .bool (decide (((40 : Nat) : Int) < 40)), (gu u13_ 2), (gu u13_ 3), (gu u13_ 4), (gu u13_ 5), (gu u13_ 6), (gu u13_ 7), (gu u13_ 8), (gu u13_ 9), (gu u13_ 10), (gu u13_ 11), (gu u13_ 12), (gu u13_ 13), (gu u13_ 14), (gu u13_ 15), (gu u13_ 16), vp B6_11, vi (V.getD 0 0), .pointer (some ⟨B6_11, 1, none⟩), vi (V.getD 1 0), vi ((V.getD 1 0) % 2), vi (1 + ((V.getD 1 0) % 2)), .string (putS (1 + ((V.getD 1 0) % 2)) 2), .slice A45_26 1 1, .agg #[vi 1, vi (V.getD 0 0), .slice A45_26 1 1], (gu u27_ 0), (gu u27_ 1), (gu u27_ 2), (gu u27_ 3), (gu u27_ 4), (gu u27_ 5), (gu u27_ 6), (gu u27_ 7), (gu u33_ 0), (gu u33_ 1), (gu u33_ 2), (gu u33_ 3), (gu u33_ 4), (gu u33_ 5), (gu u33_ 6), vi ((i : Int)), .bool (decide ((i : Int) < 12)), .bool (decide ((i : Int) < 12)), mb (decide ((i : Int) < 12)) (vi ((i : Int))), mb (decide ((i : Int) < 12)) (vi (((3 * i : Nat) : Int))), mb (decide ((i : Int) < 12)) (vi (((3 * i + 2 : Nat) : Int))), mb (decide ((i : Int) < 12)) (.bool (decide (((3 * i + 2 : Nat) : Int) < 40))), .bool ((decide ((i : Int) < 12)) && (decide (((3 * i + 2 : Nat) : Int) < 40))), (gu u40_ 13), (gu u40_ 14), vi ((i : Int)), vi (((3 * i : Nat) : Int)), .pointer (some ⟨B6_11, ((3 * i : Nat)), none⟩), vi (x), vi ((i : Int)), vi (((3 * i : Nat) : Int)), vi (((3 * i + 1 : Nat) : Int)), .pointer (some ⟨B6_11, ((3 * i + 1 : Nat)), none⟩), vi (y), vi (x), vi (y), vi ((i : Int)), vi (((3 * i : Nat) : Int)), vi (((3 * i + 2 : Nat) : Int)), .pointer (some ⟨B6_11, ((3 * i + 2 : Nat)), none⟩), vi (V.getD ((3 * i + 2 : Nat)) 0), vi (x), vi (x % 2), vi (y), vi (x), .slice A92_46 6 6, .agg #[vi ((vminF (mdL x y z))), vi ((vmaxF (mdL x y z))), vi ((vpgF (mdL x y z))), vi ((vslF (mdL x y z))), .bool (vhotF (mdL x y z)), .slice A93_46 ((vrowF (mdL x y z)).length) c93_46], vi (x), vi (x % 59), vi (2 + (x % 59)), vp B12_46, (gu u48_ 0), (gu u48_ 1), (gu u48_ 2), (gu u48_ 3), (gu u48_ 4), (gu u48_ 5), (gu u48_ 6), (gu u54_ 0), (gu u54_ 1), (gu u54_ 2), (gu u54_ 3), (gu u54_ 4), (gu u54_ 5), (gu u54_ 6), (gu u54_ 7), (gu u54_ 8), (gu u40_ 57), (gu u40_ 58), (gu u40_ 59), (gu u40_ 60), (gu u40_ 61), (gu u40_ 62), (gu u40_ 63), (gu u40_ 64), (gu u40_ 65), (gu u40_ 66), (gu u40_ 67), (gu u40_ 68), (gu u40_ 69), (gu u40_ 70), (gu u40_ 71), (gu u40_ 72), (gu u40_ 73), (gu u40_ 74), (gu u40_ 75), (gu u40_ 76), (gu u40_ 77), (gu u40_ 78), (gu u40_ 79), (gu u7_ 130), (gu u7_ 131), (gu u7_ 132), (gu u7_ 133), (gu u7_ 134), (gu u7_ 135), undef], []⟩ ∧ St w [] [eB B2_1 30 #[.slice none 0 0], eB B3_2 30 #[.slice PA n PC], eO 64 3 (.slice PA n PC) n (Ps.flatMap pgC), ePs Ps, eB B6_11 220 (V.map (Value.int .i64)).toArray, eO 9 1 (.slice IA ((mdSs V n i).length) IC) ((mdSs V n i).length) ((mdSs V n i).map Value.string), eB B8_26 64 #[vi (mdK V), vi (V.getD 0 0), .slice IA ((mdSs V n i).length) IC], eO 3 1 (.slice A92_46 6 6) 6 ([vi (x), vi (y), vi (V.getD ((3 * i + 2 : Nat)) 0), vi (x % 2), vi (y), vi (x)]), eO 45 3 (.slice A93_46 ((vrowF (mdL x y z)).length) c93_46) ((vrowF (mdL x y z)).length) (flatR (vrowF (mdL x y z))), eB B12_46 41 #[vi (2 + (x % 59)), vi (itV n x y z).2.1, vi n19, vi n29, .bool (vhotF (mdL x y z)), .slice A93_46 ((vrowF (mdL x y z)).length) c93_46]] W) ?_ ?_
      · skip
        refine wp_seq (wp_region_P [0, 1, 3] [.k 105 (vi (y)), tRe 106 .i64 y 3 (y % 3) (Int.tmod_eq_emod_of_nonneg (by omega)), .k 107 (.bool (decide (0 < y % 3)))] [(105, 0, 3, 108)] hst48 fun W55 hst55 => ?_)
        refine then_normal ?_
        rcases Bool.eq_false_or_eq_true (decide (0 < y % 3)) with hs56 | hs56
        · skip
          have hs56p : 0 < y % 3 := by simpa using hs56
          refine wp_cond_true (show Act.eval _ _ = .bool true from (congrArg Value.bool hs56)) (wp_region_Y [0, 0, 2, 6, 15, 31, 63] [[], [], [], [], [], [], [9]] [[], [], [], [], [], [], [10]] [[], [], [], [], [], [], [9]] [.k 108 (vi ((n : Int))), .k 109 (vi (x)), tRe 110 .i64 x 12 (x % 12) (Int.tmod_eq_emod_of_nonneg (by omega)), tI 111 (1 + (x % 12)) (by omega), .k 112 (.agg #[vi ((n : Int)), vi (1 + (x % 12))]), .k 113 (.pointer (some ⟨B12_46, 2, none⟩)), .n] (fun ix σ β X => match ix with | 0 => True | 1 => True | 2 => True | 3 => True | 4 => True | 5 => True | 6 => X 10 = eB B12_46 41 #[vi (2 + (x % 59)), vi (itV n x y z).2.1, vi ((n : Int)), vi (1 + (x % 12)), .bool (vhotF (mdL x y z)), .slice A93_46 ((vrowF (mdL x y z)).length) c93_46] | _ => True) [0, 1, 2, 3, 4, 5, 6, 7, 8, 10] [6] [(108, 0, 6, 114)] hst55 ?_ ?_ ?_)
          · exact fun ix _ _ _ _ _ _ hs hb hx h => match ix, h with
            | 6, h => by dsimp only at h ⊢; rw [← hx 10 rfl]; exact h
            | 0, _ | 1, _ | 2, _ | 3, _ | 4, _ | 5, _ | _ + 7, _ => trivial
          · refine ⟨?_, trivial⟩
            · refine sv_any rfl rfl fun ρ β W X cx => ?_
              exact dv_store (n := 2) rfl (cx.an 5) (cx.an 4) (by kernel_rfl) (by kernel_rfl) (by kernel_rfl) cx (cx.init 9 _ rfl) rfl (nle rfl) (by kernel_rfl) rfl rfl rfl (fun σ β' X' hs hb hx => hx)
          intro σ β X W57 hD hst57 fr hfr
          simp only [exq 10 ((dTn (hD 6 lq)))] at hst57
          clear hD; subst hfr; clear σ β X
          refine then_normal ?_
          have hp58 := hst57.pick [0, 1, 2, 3, 4, 5, 6, 7, 8, 9] (by decide) rfl
          exact ⟨(n : Int), 1 + (x % 12), [vi (y), vi (y % 3), .bool (decide (0 < y % 3)), vi ((n : Int)), vi (x), vi (x % 12), vi (1 + (x % 12)), .agg #[vi ((n : Int)), vi (1 + (x % 12))], .pointer (some ⟨B12_46, 2, none⟩)], by rw [itV]; dsimp only; split <;> first | rfl | (exfalso; omega), by rw [itV]; dsimp only; split <;> first | rfl | (exfalso; omega), rfl, hp58⟩
        have hs56p : ¬ (0 < y % 3) := by simpa using hs56
        refine wp_cond_false (show Act.eval _ _ = .bool false from (congrArg Value.bool hs56)) (wp_skip (then_normal ?_))
        have hp59 := hst55.pick [0, 1, 2, 3, 4, 5, 6, 7, 8, 9] (by decide) rfl
        exact ⟨(vpgF (mdL x y z)), (vslF (mdL x y z)), [vi (y), vi (y % 3), .bool (decide (0 < y % 3)), (gu u40_ 51), (gu u40_ 52), (gu u40_ 53), (gu u40_ 54), (gu u40_ 55), (gu u40_ 56)], by rw [itV]; dsimp only; split <;> first | rfl | (exfalso; omega), by rw [itV]; dsimp only; split <;> first | rfl | (exfalso; omega), rfl, hp59⟩
      rintro a54 W54 ⟨n19, n29, u54_, hn19, hn29, rfl, hst54⟩
      subst hn19
      subst hn29
      refine wp_seq (wp_region_Z [0, 1, 3] [[9], [8]] [.c 114 (.agg #[vi (2 + (x % 59)), vi (itV n x y z).2.1, vi (itV n x y z).2.2.1, vi (itV n x y z).2.2.2.1, .bool (vhotF (mdL x y z)), .slice A93_46 ((vrowF (mdL x y z)).length) c93_46]), .c 115 (.string ((txD (itV n x y z)))), .k 13 (.string ((txD (itV n x y z))))] [0, 1, 2, 3, 4, 5, 6, 7, 8, 9] [0, 1] [(13, 2, 1, 14), (100, 0, 2, 102)] hst54 ?_ fun W60 hst60 => ?_)
      · refine ⟨?_, ?_, trivial⟩
        · exact xs4 rfl id fun cx => run_loadB (n := 6) rfl (by kernel_rfl) (by kernel_rfl) (cx.ou 12) (cx.bi 9 rfl) (nle rfl) rfl
        · exact xsc rfl id rfl rfl fun cx => ⟨_, r08bytes_any _ _ _ _ _ _ _ (vrowF (mdL x y z)) _ (At.of_ownN (cx.ri 8 rfl)) (by rw [vrowF, madeR_len]; omega), (map1 (cx.an 0))⟩
      refine then_normal ?_
      refine wp_cut (fun az W => ∃ s13 : ByteArray, ∃ u61_ : List Value, s13 = it1 x (txD (itV n x y z)) ∧ az = ⟨#[.slice LA s.length lc, undef, vp B2_1, vp B3_2, vi (((40 * n + (40 : Nat) : Nat) : Int)), vi ((n : Int)), vp B6_11, vi (((40 : Nat) : Int)), vp B8_26, vi ((i : Int)), vi (x), vi (y), vp B12_46, .string s13, (gu u40_ 4), .agg #[.slice none 0 0], vi ((n : Int)), .bool (decide ((n : Int) < 5)), (gu u7_ 11), (gu u7_ 12), .agg #[vi 0, vi 0, vi 0, vi 0, vi 0, vi 0, vi 0, vi 0, vi 0, vi 0, vi 0, vi 0, vi 0, vi 0, vi 0, vi 0, vi 0, vi 0, vi 0, vi 0, vi 0, vi 0, vi 0, vi 0, vi 0, vi 0, vi 0, vi 0, vi 0, vi 0, vi 0, vi 0, vi 0, vi 0, vi 0, vi 0, vi 0, vi 0, vi 0, vi 0], vi (((40 : Nat) : Int)), .bool (decide (((40 : Nat) : Int) < 40)), (gu u13_ 2), (gu u13_ 3), (gu u13_ 4), (gu u13_ 5), (gu u13_ 6), (gu u13_ 7), (gu u13_ 8), (gu u13_ 9), (gu u13_ 10), (gu u13_ 11), (gu u13_ 12), (gu u13_ 13), (gu u13_ 14), (gu u13_ 15), (gu u13_ 16), vp B6_11, vi (V.getD 0 0), .pointer (some ⟨B6_11, 1, none⟩), vi (V.getD 1 0), vi ((V.getD 1 0) % 2), vi (1 + ((V.getD 1 0) % 2)), .string (putS (1 + ((V.getD 1 0) % 2)) 2), .slice A45_26 1 1, .agg #[vi 1, vi (V.getD 0 0), .slice A45_26 1 1], (gu u27_ 0), (gu u27_ 1), (gu u27_ 2), (gu u27_ 3), (gu u27_ 4), (gu u27_ 5), (gu u27_ 6), (gu u27_ 7), (gu u33_ 0), (gu u33_ 1), (gu u33_ 2), (gu u33_ 3), (gu u33_ 4), (gu u33_ 5), (gu u33_ 6), vi ((i : Int)), .bool (decide ((i : Int) < 12)), .bool (decide ((i : Int) < 12)), mb (decide ((i : Int) < 12)) (vi ((i : Int))), mb (decide ((i : Int) < 12)) (vi (((3 * i : Nat) : Int))), mb (decide ((i : Int) < 12)) (vi (((3 * i + 2 : Nat) : Int))), mb (decide ((i : Int) < 12)) (.bool (decide (((3 * i + 2 : Nat) : Int) < 40))), .bool ((decide ((i : Int) < 12)) && (decide (((3 * i + 2 : Nat) : Int) < 40))), (gu u40_ 13), (gu u40_ 14), vi ((i : Int)), vi (((3 * i : Nat) : Int)), .pointer (some ⟨B6_11, ((3 * i : Nat)), none⟩), vi (x), vi ((i : Int)), vi (((3 * i : Nat) : Int)), vi (((3 * i + 1 : Nat) : Int)), .pointer (some ⟨B6_11, ((3 * i + 1 : Nat)), none⟩), vi (y), vi (x), vi (y), vi ((i : Int)), vi (((3 * i : Nat) : Int)), vi (((3 * i + 2 : Nat) : Int)), .pointer (some ⟨B6_11, ((3 * i + 2 : Nat)), none⟩), vi (V.getD ((3 * i + 2 : Nat)) 0), vi (x), vi (x % 2), vi (y), vi (x), .slice A92_46 6 6, .agg #[vi ((vminF (mdL x y z))), vi ((vmaxF (mdL x y z))), vi ((vpgF (mdL x y z))), vi ((vslF (mdL x y z))), .bool (vhotF (mdL x y z)), .slice A93_46 ((vrowF (mdL x y z)).length) c93_46], vi (x), vi (x % 59), vi (2 + (x % 59)), vp B12_46, (gu u48_ 0), (gu u48_ 1), (gu u48_ 2), (gu u48_ 3), (gu u48_ 4), (gu u48_ 5), (gu u48_ 6), (gu u54_ 0), (gu u54_ 1), (gu u54_ 2), (gu u54_ 3), (gu u54_ 4), (gu u54_ 5), (gu u54_ 6), (gu u54_ 7), (gu u54_ 8), .agg #[vi (2 + (x % 59)), vi (itV n x y z).2.1, vi (itV n x y z).2.2.1, vi (itV n x y z).2.2.2.1, .bool (vhotF (mdL x y z)), .slice A93_46 ((vrowF (mdL x y z)).length) c93_46], .string ((txD (itV n x y z))), (gu u61_ 0), (gu u61_ 1), (gu u61_ 2), (gu u40_ 62), (gu u40_ 63), (gu u40_ 64), (gu u40_ 65), (gu u40_ 66), (gu u40_ 67), (gu u40_ 68), (gu u40_ 69), (gu u40_ 70), (gu u40_ 71), (gu u40_ 72), (gu u40_ 73), (gu u40_ 74), (gu u40_ 75), (gu u40_ 76), (gu u40_ 77), (gu u40_ 78), (gu u40_ 79), (gu u7_ 130), (gu u7_ 131), (gu u7_ 132), (gu u7_ 133), (gu u7_ 134), (gu u7_ 135), undef], []⟩ ∧ St w [] [eB B2_1 30 #[.slice none 0 0], eB B3_2 30 #[.slice PA n PC], eO 64 3 (.slice PA n PC) n (Ps.flatMap pgC), ePs Ps, eB B6_11 220 (V.map (Value.int .i64)).toArray, eO 9 1 (.slice IA ((mdSs V n i).length) IC) ((mdSs V n i).length) ((mdSs V n i).map Value.string), eB B8_26 64 #[vi (mdK V), vi (V.getD 0 0), .slice IA ((mdSs V n i).length) IC]] W) ?_ ?_
      · skip
        refine wp_seq (wp_region_P [0, 1, 3] [.k 116 (vi (x)), tRe 117 .i64 x 13 (x % 13) (Int.tmod_eq_emod_of_nonneg (by omega)), .k 118 (.bool ((x % 13) == 3))] [(116, 0, 3, 119)] hst60 fun W62 hst62 => ?_)
        refine then_normal ?_
        rcases Bool.eq_false_or_eq_true ((x % 13) == 3) with hs63 | hs63
        · skip
          have hs63p : (x % 13) = 3 := by simpa using hs63
          refine wp_cond_true (show Act.eval _ _ = .bool true from (congrArg Value.bool hs63)) (wp_region_P [0] [.k 13 (.string ⟨#[]⟩)] [(13, 0, 1, 14)] hst62 fun W64 hst64 => ?_)
          refine then_normal ?_
          have hp65 := hst64.pick [0, 1, 2, 3, 4, 5, 6] (by decide) rfl
          exact ⟨(⟨#[]⟩ : ByteArray), [vi (x), vi (x % 13), .bool ((x % 13) == 3)], by rw [it1]; split <;> first | rfl | (exfalso; omega), rfl, hp65⟩
        have hs63p : (x % 13) ≠ 3 := by simpa using hs63
        refine wp_cond_false (show Act.eval _ _ = .bool false from (congrArg Value.bool hs63)) (wp_skip (then_normal ?_))
        have hp66 := hst62.pick [0, 1, 2, 3, 4, 5, 6] (by decide) rfl
        exact ⟨(txD (itV n x y z)), [vi (x), vi (x % 13), .bool ((x % 13) == 3)], by rw [it1]; split <;> first | rfl | (exfalso; omega), rfl, hp66⟩
      rintro a61 W61 ⟨s13, u61_, hs13, rfl, hst61⟩
      subst hs13
      refine wp_cut (fun az W => ∃ s13 : ByteArray, ∃ u67_ : List Value, s13 = it2 x (it1 x (txD (itV n x y z))) ∧ az = ⟨#[.slice LA s.length lc, undef, vp B2_1, vp B3_2, vi (((40 * n + (40 : Nat) : Nat) : Int)), vi ((n : Int)), vp B6_11, vi (((40 : Nat) : Int)), vp B8_26, vi ((i : Int)), vi (x), vi (y), vp B12_46, .string s13, (gu u40_ 4), .agg #[.slice none 0 0], vi ((n : Int)), .bool (decide ((n : Int) < 5)), (gu u7_ 11), (gu u7_ 12), .agg #[vi 0, vi 0, vi 0, vi 0, vi 0, vi 0, vi 0, vi 0, vi 0, vi 0, vi 0, vi 0, vi 0, vi 0, vi 0, vi 0, vi 0, vi 0, vi 0, vi 0, vi 0, vi 0, vi 0, vi 0, vi 0, vi 0, vi 0, vi 0, vi 0, vi 0, vi 0, vi 0, vi 0, vi 0, vi 0, vi 0, vi 0, vi 0, vi 0, vi 0], vi (((40 : Nat) : Int)), .bool (decide (((40 : Nat) : Int) < 40)), (gu u13_ 2), (gu u13_ 3), (gu u13_ 4), (gu u13_ 5), (gu u13_ 6), (gu u13_ 7), (gu u13_ 8), (gu u13_ 9), (gu u13_ 10), (gu u13_ 11), (gu u13_ 12), (gu u13_ 13), (gu u13_ 14), (gu u13_ 15), (gu u13_ 16), vp B6_11, vi (V.getD 0 0), .pointer (some ⟨B6_11, 1, none⟩), vi (V.getD 1 0), vi ((V.getD 1 0) % 2), vi (1 + ((V.getD 1 0) % 2)), .string (putS (1 + ((V.getD 1 0) % 2)) 2), .slice A45_26 1 1, .agg #[vi 1, vi (V.getD 0 0), .slice A45_26 1 1], (gu u27_ 0), (gu u27_ 1), (gu u27_ 2), (gu u27_ 3), (gu u27_ 4), (gu u27_ 5), (gu u27_ 6), (gu u27_ 7), (gu u33_ 0), (gu u33_ 1), (gu u33_ 2), (gu u33_ 3), (gu u33_ 4), (gu u33_ 5), (gu u33_ 6), vi ((i : Int)), .bool (decide ((i : Int) < 12)), .bool (decide ((i : Int) < 12)), mb (decide ((i : Int) < 12)) (vi ((i : Int))), mb (decide ((i : Int) < 12)) (vi (((3 * i : Nat) : Int))), mb (decide ((i : Int) < 12)) (vi (((3 * i + 2 : Nat) : Int))), mb (decide ((i : Int) < 12)) (.bool (decide (((3 * i + 2 : Nat) : Int) < 40))), .bool ((decide ((i : Int) < 12)) && (decide (((3 * i + 2 : Nat) : Int) < 40))), (gu u40_ 13), (gu u40_ 14), vi ((i : Int)), vi (((3 * i : Nat) : Int)), .pointer (some ⟨B6_11, ((3 * i : Nat)), none⟩), vi (x), vi ((i : Int)), vi (((3 * i : Nat) : Int)), vi (((3 * i + 1 : Nat) : Int)), .pointer (some ⟨B6_11, ((3 * i + 1 : Nat)), none⟩), vi (y), vi (x), vi (y), vi ((i : Int)), vi (((3 * i : Nat) : Int)), vi (((3 * i + 2 : Nat) : Int)), .pointer (some ⟨B6_11, ((3 * i + 2 : Nat)), none⟩), vi (V.getD ((3 * i + 2 : Nat)) 0), vi (x), vi (x % 2), vi (y), vi (x), .slice A92_46 6 6, .agg #[vi ((vminF (mdL x y z))), vi ((vmaxF (mdL x y z))), vi ((vpgF (mdL x y z))), vi ((vslF (mdL x y z))), .bool (vhotF (mdL x y z)), .slice A93_46 ((vrowF (mdL x y z)).length) c93_46], vi (x), vi (x % 59), vi (2 + (x % 59)), vp B12_46, (gu u48_ 0), (gu u48_ 1), (gu u48_ 2), (gu u48_ 3), (gu u48_ 4), (gu u48_ 5), (gu u48_ 6), (gu u54_ 0), (gu u54_ 1), (gu u54_ 2), (gu u54_ 3), (gu u54_ 4), (gu u54_ 5), (gu u54_ 6), (gu u54_ 7), (gu u54_ 8), .agg #[vi (2 + (x % 59)), vi (itV n x y z).2.1, vi (itV n x y z).2.2.1, vi (itV n x y z).2.2.2.1, .bool (vhotF (mdL x y z)), .slice A93_46 ((vrowF (mdL x y z)).length) c93_46], .string ((txD (itV n x y z))), (gu u61_ 0), (gu u61_ 1), (gu u61_ 2), (gu u67_ 0), (gu u67_ 1), (gu u67_ 2), (gu u40_ 65), (gu u40_ 66), (gu u40_ 67), (gu u40_ 68), (gu u40_ 69), (gu u40_ 70), (gu u40_ 71), (gu u40_ 72), (gu u40_ 73), (gu u40_ 74), (gu u40_ 75), (gu u40_ 76), (gu u40_ 77), (gu u40_ 78), (gu u40_ 79), (gu u7_ 130), (gu u7_ 131), (gu u7_ 132), (gu u7_ 133), (gu u7_ 134), (gu u7_ 135), undef], []⟩ ∧ St w [] [eB B2_1 30 #[.slice none 0 0], eB B3_2 30 #[.slice PA n PC], eO 64 3 (.slice PA n PC) n (Ps.flatMap pgC), ePs Ps, eB B6_11 220 (V.map (Value.int .i64)).toArray, eO 9 1 (.slice IA ((mdSs V n i).length) IC) ((mdSs V n i).length) ((mdSs V n i).map Value.string), eB B8_26 64 #[vi (mdK V), vi (V.getD 0 0), .slice IA ((mdSs V n i).length) IC]] W) ?_ ?_
      · skip
        refine wp_seq (wp_region_P [0, 1, 3] [.k 119 (vi (x)), tRe 120 .i64 x 17 (x % 17) (Int.tmod_eq_emod_of_nonneg (by omega)), .k 121 (.bool ((x % 17) == 5))] [(119, 0, 3, 122)] hst61 fun W68 hst68 => ?_)
        refine then_normal ?_
        rcases Bool.eq_false_or_eq_true ((x % 17) == 5) with hs69 | hs69
        · skip
          have hs69p : (x % 17) = 5 := by simpa using hs69
          refine wp_cond_true (show Act.eval _ _ = .bool true from (congrArg Value.bool hs69)) (wp_region_P [0] [.k 13 (.string ⟨#[111, 100, 100]⟩)] [(13, 0, 1, 14)] hst68 fun W70 hst70 => ?_)
          refine then_normal ?_
          have hp71 := hst70.pick [0, 1, 2, 3, 4, 5, 6] (by decide) rfl
          exact ⟨(⟨#[111, 100, 100]⟩ : ByteArray), [vi (x), vi (x % 17), .bool ((x % 17) == 5)], by rw [it2]; split <;> first | rfl | (exfalso; omega), rfl, hp71⟩
        have hs69p : (x % 17) ≠ 5 := by simpa using hs69
        refine wp_cond_false (show Act.eval _ _ = .bool false from (congrArg Value.bool hs69)) (wp_skip (then_normal ?_))
        have hp72 := hst68.pick [0, 1, 2, 3, 4, 5, 6] (by decide) rfl
        exact ⟨(it1 x (txD (itV n x y z))), [vi (x), vi (x % 17), .bool ((x % 17) == 5)], by rw [it2]; split <;> first | rfl | (exfalso; omega), rfl, hp72⟩
      rintro a67 W67 ⟨s13, u67_, hs13, rfl, hst67⟩
      subst hs13
      refine wp_cut (fun az W => ∃ s13 : ByteArray, ∃ u73_ : List Value, s13 = it3 x y (it2 x (it1 x (txD (itV n x y z)))) ∧ az = ⟨#[.slice LA s.length lc, undef, vp B2_1, vp B3_2, vi (((40 * n + (40 : Nat) : Nat) : Int)), vi ((n : Int)), vp B6_11, vi (((40 : Nat) : Int)), vp B8_26, vi ((i : Int)), vi (x), vi (y), vp B12_46, .string s13, (gu u40_ 4), .agg #[.slice none 0 0], vi ((n : Int)), .bool (decide ((n : Int) < 5)), (gu u7_ 11), (gu u7_ 12), .agg #[vi 0, vi 0, vi 0, vi 0, vi 0, vi 0, vi 0, vi 0, vi 0, vi 0, vi 0, vi 0, vi 0, vi 0, vi 0, vi 0, vi 0, vi 0, vi 0, vi 0, vi 0, vi 0, vi 0, vi 0, vi 0, vi 0, vi 0, vi 0, vi 0, vi 0, vi 0, vi 0, vi 0, vi 0, vi 0, vi 0, vi 0, vi 0, vi 0, vi 0], vi (((40 : Nat) : Int)), .bool (decide (((40 : Nat) : Int) < 40)), (gu u13_ 2), (gu u13_ 3), (gu u13_ 4), (gu u13_ 5), (gu u13_ 6), (gu u13_ 7), (gu u13_ 8), (gu u13_ 9), (gu u13_ 10), (gu u13_ 11), (gu u13_ 12), (gu u13_ 13), (gu u13_ 14), (gu u13_ 15), (gu u13_ 16), vp B6_11, vi (V.getD 0 0), .pointer (some ⟨B6_11, 1, none⟩), vi (V.getD 1 0), vi ((V.getD 1 0) % 2), vi (1 + ((V.getD 1 0) % 2)), .string (putS (1 + ((V.getD 1 0) % 2)) 2), .slice A45_26 1 1, .agg #[vi 1, vi (V.getD 0 0), .slice A45_26 1 1], (gu u27_ 0), (gu u27_ 1), (gu u27_ 2), (gu u27_ 3), (gu u27_ 4), (gu u27_ 5), (gu u27_ 6), (gu u27_ 7), (gu u33_ 0), (gu u33_ 1), (gu u33_ 2), (gu u33_ 3), (gu u33_ 4), (gu u33_ 5), (gu u33_ 6), vi ((i : Int)), .bool (decide ((i : Int) < 12)), .bool (decide ((i : Int) < 12)), mb (decide ((i : Int) < 12)) (vi ((i : Int))), mb (decide ((i : Int) < 12)) (vi (((3 * i : Nat) : Int))), mb (decide ((i : Int) < 12)) (vi (((3 * i + 2 : Nat) : Int))), mb (decide ((i : Int) < 12)) (.bool (decide (((3 * i + 2 : Nat) : Int) < 40))), .bool ((decide ((i : Int) < 12)) && (decide (((3 * i + 2 : Nat) : Int) < 40))), (gu u40_ 13), (gu u40_ 14), vi ((i : Int)), vi (((3 * i : Nat) : Int)), .pointer (some ⟨B6_11, ((3 * i : Nat)), none⟩), vi (x), vi ((i : Int)), vi (((3 * i : Nat) : Int)), vi (((3 * i + 1 : Nat) : Int)), .pointer (some ⟨B6_11, ((3 * i + 1 : Nat)), none⟩), vi (y), vi (x), vi (y), vi ((i : Int)), vi (((3 * i : Nat) : Int)), vi (((3 * i + 2 : Nat) : Int)), .pointer (some ⟨B6_11, ((3 * i + 2 : Nat)), none⟩), vi (V.getD ((3 * i + 2 : Nat)) 0), vi (x), vi (x % 2), vi (y), vi (x), .slice A92_46 6 6, .agg #[vi ((vminF (mdL x y z))), vi ((vmaxF (mdL x y z))), vi ((vpgF (mdL x y z))), vi ((vslF (mdL x y z))), .bool (vhotF (mdL x y z)), .slice A93_46 ((vrowF (mdL x y z)).length) c93_46], vi (x), vi (x % 59), vi (2 + (x % 59)), vp B12_46, (gu u48_ 0), (gu u48_ 1), (gu u48_ 2), (gu u48_ 3), (gu u48_ 4), (gu u48_ 5), (gu u48_ 6), (gu u54_ 0), (gu u54_ 1), (gu u54_ 2), (gu u54_ 3), (gu u54_ 4), (gu u54_ 5), (gu u54_ 6), (gu u54_ 7), (gu u54_ 8), .agg #[vi (2 + (x % 59)), vi (itV n x y z).2.1, vi (itV n x y z).2.2.1, vi (itV n x y z).2.2.2.1, .bool (vhotF (mdL x y z)), .slice A93_46 ((vrowF (mdL x y z)).length) c93_46], .string ((txD (itV n x y z))), (gu u61_ 0), (gu u61_ 1), (gu u61_ 2), (gu u67_ 0), (gu u67_ 1), (gu u67_ 2), (gu u73_ 0), (gu u73_ 1), (gu u73_ 2), (gu u73_ 3), (gu u73_ 4), (gu u73_ 5), (gu u40_ 71), (gu u40_ 72), (gu u40_ 73), (gu u40_ 74), (gu u40_ 75), (gu u40_ 76), (gu u40_ 77), (gu u40_ 78), (gu u40_ 79), (gu u7_ 130), (gu u7_ 131), (gu u7_ 132), (gu u7_ 133), (gu u7_ 134), (gu u7_ 135), undef], []⟩ ∧ St w [] [eB B2_1 30 #[.slice none 0 0], eB B3_2 30 #[.slice PA n PC], eO 64 3 (.slice PA n PC) n (Ps.flatMap pgC), ePs Ps, eB B6_11 220 (V.map (Value.int .i64)).toArray, eO 9 1 (.slice IA ((mdSs V n i).length) IC) ((mdSs V n i).length) ((mdSs V n i).map Value.string), eB B8_26 64 #[vi (mdK V), vi (V.getD 0 0), .slice IA ((mdSs V n i).length) IC]] W) ?_ ?_
      · skip
        refine wp_seq (wp_region_P [0, 1, 3] [.k 122 (vi (x)), tRe 123 .i64 x 10 (x % 10) (Int.tmod_eq_emod_of_nonneg (by omega)), .k 124 (.bool ((x % 10) == 7))] [(122, 0, 3, 125)] hst67 fun W74 hst74 => ?_)
        refine then_normal ?_
        rcases Bool.eq_false_or_eq_true ((x % 10) == 7) with hs75 | hs75
        · skip
          have hs75p : (x % 10) = 7 := by simpa using hs75
          refine wp_cond_true (show Act.eval _ _ = .bool true from (congrArg Value.bool hs75)) (wp_region_Z [0, 1, 3, 7] [] [.k 125 (vi (y)), tRe 126 .i64 y 13 (y % 13) (Int.tmod_eq_emod_of_nonneg (by omega)), .c 127 (.string (strOfNums [0, (y % 13)])), .k 13 (.string (strOfNums [0, (y % 13)]))] [0, 1, 2, 3, 4, 5, 6] [2] [(13, 3, 1, 14), (111, 0, 3, 114)] hst74 ?_ fun W76 hst76 => ?_)
          · refine ⟨?_, trivial⟩
            · exact xsc rfl id rfl rfl fun cx => ⟨_, rto_any (y % 13) _ (by omega), (map1 (cx.an 1))⟩
          refine then_normal ?_
          have hp77 := hst76.pick [0, 1, 2, 3, 4, 5, 6] (by decide) rfl
          exact ⟨strOfNums [0, (y % 13)], [vi (x), vi (x % 10), .bool ((x % 10) == 7), vi (y), vi (y % 13), .string (strOfNums [0, (y % 13)])], by rw [it3]; split <;> first | rfl | (exfalso; omega), rfl, hp77⟩
        have hs75p : (x % 10) ≠ 7 := by simpa using hs75
        refine wp_cond_false (show Act.eval _ _ = .bool false from (congrArg Value.bool hs75)) (wp_skip (then_normal ?_))
        have hp78 := hst74.pick [0, 1, 2, 3, 4, 5, 6] (by decide) rfl
        exact ⟨(it2 x (it1 x (txD (itV n x y z)))), [vi (x), vi (x % 10), .bool ((x % 10) == 7), (gu u40_ 68), (gu u40_ 69), (gu u40_ 70)], by rw [it3]; split <;> first | rfl | (exfalso; omega), rfl, hp78⟩
      rintro a73 W73 ⟨s13, u73_, hs13, rfl, hst73⟩
      subst hs13
      rw [show it3 x y (it2 x (it1 x (txD (itV n x y z)))) = mdI V n i by rw [mdI, hN_x, hN_y, hN_z, itS]]
      refine wp_seq ?_
      have hri : rightB (mdK V) (V.getD 0 0) (mdSs V n i) = true := by rw [← hV]; exact mdSs_right s n i
      have hsi : (mdI V n i).size ≤ 400 := by obtain ⟨o, ho⟩ := itS_desc n (V.getD (3 * i) 0) (V.getD (3 * i + 1) 0) (V.getD (3 * i + 2) 0) (by omega); have := ho.le; rw [mdI]; omega
      rcases Decidable.em (putErr (mdK V) (V.getD 0 0) (mdSs V n i) (i : Int) (mdI V n i) = 0) with hpe | hpe
      · skip
        refine wp_region_Y [0, 0, 0, 7, 0, 31] [[6], [], [], [5], [], [8]] [[], [], [], [7], [8], [9]] [[], [], [], [], [], [8]] [.c 128 (.agg #[vi (mdK V), vi (V.getD 0 0), .slice IA ((mdSs V n i).length) IC]), .k 129 (vi ((i : Int))), .k 130 (.string ((mdI V n i))), .a 131, .a 14, .n] (fun ix σ β X => match ix with | 0 => True | 1 => True | 2 => True | 3 => σ 131 = .agg #[vi ((mdK V)), vi ((V.getD 0 0)), .slice (sA (tg (β 131) 2)) ((mdSs V n (i + 1)).length) (sC (tg (β 131) 2)), vi 0] ∧ X 7 = eO 9 1 (.slice (sA (tg (β 131) 2)) ((mdSs V n (i + 1)).length) (sC (tg (β 131) 2))) ((mdSs V n (i + 1)).length) ((mdSs V n (i + 1)).map Value.string) | 4 => σ 14 = vp (pb (β 14)) ∧ X 8 = eB (pb (β 14)) 224 #[vi 0, vi 0, .slice none 0 0, vi 0] | 5 => X 9 = eB (pb (β 14)) 224 #[vi ((mdK V)), vi ((V.getD 0 0)), .slice (sA (tg (β 131) 2)) ((mdSs V n (i + 1)).length) (sC (tg (β 131) 2)), vi 0] | _ => True) [0, 1, 2, 3, 4, 5, 6, 7, 9] [0, 3, 4, 5] [(14, 4, 1, 15), (113, 0, 4, 117)] hst73 ?_ ?_ ?_
        · exact fun ix _ _ _ _ _ _ hs hb hx h => match ix, h with
          | 3, h => by dsimp only at h ⊢; rw [← hs 131 rfl, ← hb 131 rfl, ← hx 7 rfl]; exact h
          | 4, h => by dsimp only at h ⊢; rw [← hs 14 rfl, ← hb 14 rfl, ← hx 8 rfl]; exact h
          | 5, h => by dsimp only at h ⊢; rw [← hb 14 rfl, ← hb 131 rfl, ← hx 9 rfl]; exact h
          | 0, _ | 1, _ | 2, _ | _ + 6, _ => trivial
        · refine ⟨?_, ?_, ?_, ?_, trivial⟩
          · exact xs4 rfl id fun cx => run_loadB (n := 3) rfl (by kernel_rfl) (by kernel_rfl) (cx.ou 8) (cx.bi 6 rfl) (nle rfl) rfl
          · refine sv_any rfl rfl fun ρ β W X cx => ?_
            refine DoesU.call (run_callF (args := #[.agg #[vi (mdK V), vi (V.getD 0 0), .slice IA ((mdSs V n i).length) IC], vi ((i : Int)), .string ((mdI V n i))]) rfl cx.sees rfl (by kernel_rfl) (map3 (cx.an 0) (cx.an 1) (cx.an 2))) ?_
            refine (rput_md hri (At.of_own (cx.ri 5 rfl)) (by have := eown_cap (cx.ri 5 rfl); simpa using this) hsi (by omega) hpe).mono ?_
            rintro e W1 ⟨A4, c4, rfl, ho, hx⟩
            refine ⟨_, rfl, post_call [eO 9 1 (.slice A4 ((mdSs V n (i + 1)).length) c4) ((mdSs V n (i + 1)).length) ((mdSs V n (i + 1)).map Value.string)] rfl rfl hx (one_new (eO_new ho)) (List.pairwise_singleton _ _) (fun σ β' X' hs hb hv hN => ?_)⟩
            have hv1 := (hv 131 rfl).1; have hv2 := (hv 131 rfl).2
            exact ⟨hv1.trans (by rw [hv2]; rfl), (by rw [hv2]; exact (List.cons.inj hN).1)⟩
          · refine sv_any rfl rfl fun ρ β W X cx => ?_
            exact dv_alloc (cs := #[vi 0, vi 0, .slice none 0 0, vi 0]) rfl (by kernel_rfl) rfl rfl (fun σ β' X' hs hb hv hx => ⟨hv, hx⟩)
          · refine sv_any rfl rfl fun ρ β W X cx => ?_
            exact dv_store (n := 4) rfl (dTn (cx.an 4)).1 (dTn (cx.an 3)).1 (by kernel_rfl) (by kernel_rfl) (by kernel_rfl) cx (dTn (cx.an 4)).2 rfl (nle rfl) (by kernel_rfl) rfl rfl rfl (fun σ β' X' hs hb hx => by rw [hb 14, hb 131]; exact hx)
        intro σ β X W79 hD hst79 fr hfr
        obtain ⟨A131_79, hu_A131_79⟩ : ∃ z, sA (tg (β 131) 2) = z := ⟨_, rfl⟩
        obtain ⟨c131_79, hu_c131_79⟩ : ∃ z, sC (tg (β 131) 2) = z := ⟨_, rfl⟩
        obtain ⟨B14_79, hu_B14_79⟩ : ∃ z, pb (β 14) = z := ⟨_, rfl⟩
        simp only [exq 7 ((dTn (hD 3 lq)).2), exq 9 ((dTn (hD 5 lq))), hu_A131_79, hu_c131_79, hu_B14_79] at hst79
        simp only [ed 131 ((dTn (hD 3 lq)).1), ed 14 ((dTn (hD 4 lq)).1), hu_A131_79, hu_c131_79, hu_B14_79] at hfr
        clear hD hu_A131_79 hu_c131_79 hu_B14_79; subst hfr; clear σ β X
        refine then_normal (wp_seq (wp_region_Z [0, 1, 3] [[], [8]] [.k 132 (.pointer (some ⟨B14_79, 3, none⟩)), .c 133 (vi 0), .k 134 (.bool true)] [0, 1, 2, 3, 4, 5, 6, 7, 8] [1] [(132, 0, 3, 135)] hst79 ?_ fun W80 hst80 => ?_))
        · refine ⟨?_, trivial⟩
          · exact xs4 rfl id fun cx => run_load1 rfl (by kernel_rfl) (cx.an 0) ((cx.bi 8 rfl).cell 3)
        refine then_normal (wp_cond_true (show Act.eval _ _ = .bool true from rfl) (wp_region_Y [0, 1, 3] [[], [8], [6]] [[], [], [9]] [[], [], [6]] [.k 135 (vp B14_79), .c 136 (.agg #[vi ((mdK V)), vi ((V.getD 0 0)), .slice A131_79 ((mdSs V n (i + 1)).length) c131_79]), .n] (fun ix σ β X => match ix with | 0 => True | 1 => True | 2 => X 9 = eB B8_26 64 #[vi ((mdK V)), vi ((V.getD 0 0)), .slice A131_79 ((mdSs V n (i + 1)).length) c131_79] | _ => True) [0, 1, 2, 3, 4, 5, 7, 8, 9] [1, 2] [(135, 0, 2, 137)] hst80 ?_ ?_ ?_))
        · exact fun ix _ _ _ _ _ _ hs hb hx h => match ix, h with
          | 2, h => by dsimp only at h ⊢; rw [← hx 9 rfl]; exact h
          | 0, _ | 1, _ | _ + 3, _ => trivial
        · refine ⟨?_, ?_, trivial⟩
          · exact xs4 rfl id fun cx => run_loadB (n := 3) rfl (by kernel_rfl) (by kernel_rfl) (cx.an 0) (cx.bi 8 rfl) (nle rfl) rfl
          · refine sv_any rfl rfl fun ρ β W X cx => ?_
            exact dv_store (n := 3) rfl (cx.ou 8) (cx.an 1) (by kernel_rfl) (by kernel_rfl) (by kernel_rfl) cx (cx.init 6 _ rfl) rfl (nle rfl) (by kernel_rfl) rfl rfl rfl (fun σ β' X' hs hb hx => hx)
        intro σ β X W81 hD hst81 fr hfr
        simp only [exq 9 ((dTn (hD 2 lq)))] at hst81
        clear hD; subst hfr; clear σ β X
        refine blk_normal (then_normal (wp_region_P [0, 1, 3] [.k 70 (vi ((i : Int))), tI 71 ((i : Int) + 1) (by omega), .k 9 (vi ((i : Int) + 1))] [(9, 2, 1, 10), (60, 0, 2, 62)] hst81 fun W82 hst82 => ?_))
        refine then_normal ?_
        refine ⟨12 - ((i + 1)), by omega, ?_⟩
        have hp83 := hst82.pick [0, 1, 2, 3, 4, 6, 8] (by decide) rfl
        exact ⟨(i + 1), A131_79, c131_79, [vi (x), vi (y), vp B12_46, .string ((mdI V n i)), vp B14_79, vi ((i : Int)), .bool (decide ((i : Int) < 12)), .bool (decide ((i : Int) < 12)), mb (decide ((i : Int) < 12)) (vi ((i : Int))), mb (decide ((i : Int) < 12)) (vi (((3 * i : Nat) : Int))), mb (decide ((i : Int) < 12)) (vi (((3 * i + 2 : Nat) : Int))), mb (decide ((i : Int) < 12)) (.bool (decide (((3 * i + 2 : Nat) : Int) < 40))), .bool ((decide ((i : Int) < 12)) && (decide (((3 * i + 2 : Nat) : Int) < 40))), vi ((i : Int)), vi ((i : Int) + 1), vi ((i : Int)), vi (((3 * i : Nat) : Int)), .pointer (some ⟨B6_11, ((3 * i : Nat)), none⟩), vi (x), vi ((i : Int)), vi (((3 * i : Nat) : Int)), vi (((3 * i + 1 : Nat) : Int)), .pointer (some ⟨B6_11, ((3 * i + 1 : Nat)), none⟩), vi (y), vi (x), vi (y), vi ((i : Int)), vi (((3 * i : Nat) : Int)), vi (((3 * i + 2 : Nat) : Int)), .pointer (some ⟨B6_11, ((3 * i + 2 : Nat)), none⟩), vi (V.getD ((3 * i + 2 : Nat)) 0), vi (x), vi (x % 2), vi (y), vi (x), .slice A92_46 6 6, .agg #[vi ((vminF (mdL x y z))), vi ((vmaxF (mdL x y z))), vi ((vpgF (mdL x y z))), vi ((vslF (mdL x y z))), .bool (vhotF (mdL x y z)), .slice A93_46 ((vrowF (mdL x y z)).length) c93_46], vi (x), vi (x % 59), vi (2 + (x % 59)), vp B12_46, (gu u48_ 0), (gu u48_ 1), (gu u48_ 2), (gu u48_ 3), (gu u48_ 4), (gu u48_ 5), (gu u48_ 6), (gu u54_ 0), (gu u54_ 1), (gu u54_ 2), (gu u54_ 3), (gu u54_ 4), (gu u54_ 5), (gu u54_ 6), (gu u54_ 7), (gu u54_ 8), .agg #[vi (2 + (x % 59)), vi (itV n x y z).2.1, vi (itV n x y z).2.2.1, vi (itV n x y z).2.2.2.1, .bool (vhotF (mdL x y z)), .slice A93_46 ((vrowF (mdL x y z)).length) c93_46], .string ((txD (itV n x y z))), (gu u61_ 0), (gu u61_ 1), (gu u61_ 2), (gu u67_ 0), (gu u67_ 1), (gu u67_ 2), (gu u73_ 0), (gu u73_ 1), (gu u73_ 2), (gu u73_ 3), (gu u73_ 4), (gu u73_ 5), .agg #[vi (mdK V), vi (V.getD 0 0), .slice IA ((mdSs V n i).length) IC], vi ((i : Int)), .string ((mdI V n i)), .agg #[vi ((mdK V)), vi ((V.getD 0 0)), .slice A131_79 ((mdSs V n (i + 1)).length) c131_79, vi 0], .pointer (some ⟨B14_79, 3, none⟩), vi 0, .bool true, vp B14_79, .agg #[vi ((mdK V)), vi ((V.getD 0 0)), .slice A131_79 ((mdSs V n (i + 1)).length) c131_79]], by omega, by omega, rfl, rfl, hp83⟩
      · skip
        refine wp_region_Y [0, 0, 0, 7, 0, 31] [[6], [], [], [5], [], [8]] [[], [], [], [7], [8], [9]] [[], [], [], [], [], [8]] [.c 128 (.agg #[vi (mdK V), vi (V.getD 0 0), .slice IA ((mdSs V n i).length) IC]), .k 129 (vi ((i : Int))), .k 130 (.string ((mdI V n i))), .a 131, .a 14, .n] (fun ix σ β X => match ix with | 0 => True | 1 => True | 2 => True | 3 => σ 131 = .agg #[vi 0, vi 0, .slice (sA (tg (β 131) 2)) (([] : List ByteArray).length) (sC (tg (β 131) 2)), vi ((putErr (mdK V) (V.getD 0 0) (mdSs V n i) (i : Int) (mdI V n i)))] ∧ X 7 = eO 9 1 (.slice (sA (tg (β 131) 2)) (([] : List ByteArray).length) (sC (tg (β 131) 2))) (([] : List ByteArray).length) (([] : List ByteArray).map Value.string) | 4 => σ 14 = vp (pb (β 14)) ∧ X 8 = eB (pb (β 14)) 224 #[vi 0, vi 0, .slice none 0 0, vi 0] | 5 => X 9 = eB (pb (β 14)) 224 #[vi 0, vi 0, .slice (sA (tg (β 131) 2)) (([] : List ByteArray).length) (sC (tg (β 131) 2)), vi ((putErr (mdK V) (V.getD 0 0) (mdSs V n i) (i : Int) (mdI V n i)))] | _ => True) [0, 1, 2, 3, 4, 5, 6, 7, 9] [0, 3, 4, 5] [(14, 4, 1, 15), (113, 0, 4, 117)] hst73 ?_ ?_ ?_
        · exact fun ix _ _ _ _ _ _ hs hb hx h => match ix, h with
          | 3, h => by dsimp only at h ⊢; rw [← hs 131 rfl, ← hb 131 rfl, ← hx 7 rfl]; exact h
          | 4, h => by dsimp only at h ⊢; rw [← hs 14 rfl, ← hb 14 rfl, ← hx 8 rfl]; exact h
          | 5, h => by dsimp only at h ⊢; rw [← hb 14 rfl, ← hb 131 rfl, ← hx 9 rfl]; exact h
          | 0, _ | 1, _ | 2, _ | _ + 6, _ => trivial
        · refine ⟨?_, ?_, ?_, ?_, trivial⟩
          · exact xs4 rfl id fun cx => run_loadB (n := 3) rfl (by kernel_rfl) (by kernel_rfl) (cx.ou 8) (cx.bi 6 rfl) (nle rfl) rfl
          · refine sv_any rfl rfl fun ρ β W X cx => ?_
            refine DoesU.call (run_callF (args := #[.agg #[vi (mdK V), vi (V.getD 0 0), .slice IA ((mdSs V n i).length) IC], vi ((i : Int)), .string ((mdI V n i))]) rfl cx.sees rfl (by kernel_rfl) (map3 (cx.an 0) (cx.an 1) (cx.an 2))) ?_
            refine (rput_bad (At.of_own (cx.ri 5 rfl)) (right_small' hri) (by have := eown_cap (cx.ri 5 rfl); simpa using this) hsi hpe).mono ?_
            rintro e W1 ⟨A4, c4, rfl, ho, hx⟩
            refine ⟨_, rfl, post_call [eO 9 1 (.slice A4 (([] : List ByteArray).length) c4) (([] : List ByteArray).length) (([] : List ByteArray).map Value.string)] rfl rfl hx (one_new (eO_new ho)) (List.pairwise_singleton _ _) (fun σ β' X' hs hb hv hN => ?_)⟩
            have hv1 := (hv 131 rfl).1; have hv2 := (hv 131 rfl).2
            exact ⟨hv1.trans (by rw [hv2]; rfl), (by rw [hv2]; exact (List.cons.inj hN).1)⟩
          · refine sv_any rfl rfl fun ρ β W X cx => ?_
            exact dv_alloc (cs := #[vi 0, vi 0, .slice none 0 0, vi 0]) rfl (by kernel_rfl) rfl rfl (fun σ β' X' hs hb hv hx => ⟨hv, hx⟩)
          · refine sv_any rfl rfl fun ρ β W X cx => ?_
            exact dv_store (n := 4) rfl (dTn (cx.an 4)).1 (dTn (cx.an 3)).1 (by kernel_rfl) (by kernel_rfl) (by kernel_rfl) cx (dTn (cx.an 4)).2 rfl (nle rfl) (by kernel_rfl) rfl rfl rfl (fun σ β' X' hs hb hx => by rw [hb 14, hb 131]; exact hx)
        intro σ β X W84 hD hst84 fr hfr
        obtain ⟨A131_84, hu_A131_84⟩ : ∃ z, sA (tg (β 131) 2) = z := ⟨_, rfl⟩
        obtain ⟨c131_84, hu_c131_84⟩ : ∃ z, sC (tg (β 131) 2) = z := ⟨_, rfl⟩
        obtain ⟨B14_84, hu_B14_84⟩ : ∃ z, pb (β 14) = z := ⟨_, rfl⟩
        simp only [exq 7 ((dTn (hD 3 lq)).2), exq 9 ((dTn (hD 5 lq))), hu_A131_84, hu_c131_84, hu_B14_84] at hst84
        simp only [ed 131 ((dTn (hD 3 lq)).1), ed 14 ((dTn (hD 4 lq)).1), hu_A131_84, hu_c131_84, hu_B14_84] at hfr
        clear hD hu_A131_84 hu_c131_84 hu_B14_84; subst hfr; clear σ β X
        refine then_normal (wp_seq ?_)
        have hd86 : ((putErr (mdK V) (V.getD 0 0) (mdSs V n i) (i : Int) (mdI V n i)) == 0) = false := (by simpa using hpe)
        refine wp_region_Z [0, 1, 3] [[], [8]] [.k 132 (.pointer (some ⟨B14_84, 3, none⟩)), .c 133 (vi ((putErr (mdK V) (V.getD 0 0) (mdSs V n i) (i : Int) (mdI V n i)))), .e 134 (.bool ((putErr (mdK V) (V.getD 0 0) (mdSs V n i) (i : Int) (mdI V n i)) == 0)) (.bool false) (congrArg Value.bool hd86)] [0, 1, 2, 3, 4, 5, 6, 7, 8] [1] [(132, 0, 3, 135)] hst84 ?_ fun W85 hst85 => ?_
        · refine ⟨?_, trivial⟩
          · exact xs4 rfl id fun cx => run_load1 rfl (by kernel_rfl) (cx.an 0) ((cx.bi 8 rfl).cell 3)
        refine then_normal (wp_cond_false (show Act.eval _ _ = .bool false from rfl) (wp_skip (blk_normal (then_normal (wp_region_P [0, 1, 3] [.k 70 (vi ((i : Int))), tI 71 ((i : Int) + 1) (by omega), .k 9 (vi ((i : Int) + 1))] [(9, 2, 1, 10), (60, 0, 2, 62)] hst85 fun W87 hst87 => ?_)))))
        refine then_normal ?_
        rw [← mdSs_no (by omega) hpe] at hst87
        refine ⟨12 - ((i + 1)), by omega, ?_⟩
        have hp88 := hst87.pick [0, 1, 2, 3, 4, 5, 6] (by decide) rfl
        exact ⟨(i + 1), IA, IC, [vi (x), vi (y), vp B12_46, .string ((mdI V n i)), vp B14_84, vi ((i : Int)), .bool (decide ((i : Int) < 12)), .bool (decide ((i : Int) < 12)), mb (decide ((i : Int) < 12)) (vi ((i : Int))), mb (decide ((i : Int) < 12)) (vi (((3 * i : Nat) : Int))), mb (decide ((i : Int) < 12)) (vi (((3 * i + 2 : Nat) : Int))), mb (decide ((i : Int) < 12)) (.bool (decide (((3 * i + 2 : Nat) : Int) < 40))), .bool ((decide ((i : Int) < 12)) && (decide (((3 * i + 2 : Nat) : Int) < 40))), vi ((i : Int)), vi ((i : Int) + 1), vi ((i : Int)), vi (((3 * i : Nat) : Int)), .pointer (some ⟨B6_11, ((3 * i : Nat)), none⟩), vi (x), vi ((i : Int)), vi (((3 * i : Nat) : Int)), vi (((3 * i + 1 : Nat) : Int)), .pointer (some ⟨B6_11, ((3 * i + 1 : Nat)), none⟩), vi (y), vi (x), vi (y), vi ((i : Int)), vi (((3 * i : Nat) : Int)), vi (((3 * i + 2 : Nat) : Int)), .pointer (some ⟨B6_11, ((3 * i + 2 : Nat)), none⟩), vi (V.getD ((3 * i + 2 : Nat)) 0), vi (x), vi (x % 2), vi (y), vi (x), .slice A92_46 6 6, .agg #[vi ((vminF (mdL x y z))), vi ((vmaxF (mdL x y z))), vi ((vpgF (mdL x y z))), vi ((vslF (mdL x y z))), .bool (vhotF (mdL x y z)), .slice A93_46 ((vrowF (mdL x y z)).length) c93_46], vi (x), vi (x % 59), vi (2 + (x % 59)), vp B12_46, (gu u48_ 0), (gu u48_ 1), (gu u48_ 2), (gu u48_ 3), (gu u48_ 4), (gu u48_ 5), (gu u48_ 6), (gu u54_ 0), (gu u54_ 1), (gu u54_ 2), (gu u54_ 3), (gu u54_ 4), (gu u54_ 5), (gu u54_ 6), (gu u54_ 7), (gu u54_ 8), .agg #[vi (2 + (x % 59)), vi (itV n x y z).2.1, vi (itV n x y z).2.2.1, vi (itV n x y z).2.2.2.1, .bool (vhotF (mdL x y z)), .slice A93_46 ((vrowF (mdL x y z)).length) c93_46], .string ((txD (itV n x y z))), (gu u61_ 0), (gu u61_ 1), (gu u61_ 2), (gu u67_ 0), (gu u67_ 1), (gu u67_ 2), (gu u73_ 0), (gu u73_ 1), (gu u73_ 2), (gu u73_ 3), (gu u73_ 4), (gu u73_ 5), .agg #[vi (mdK V), vi (V.getD 0 0), .slice IA ((mdSs V n i).length) IC], vi ((i : Int)), .string ((mdI V n i)), .agg #[vi 0, vi 0, .slice A131_84 (([] : List ByteArray).length) c131_84, vi ((putErr (mdK V) (V.getD 0 0) (mdSs V n i) (i : Int) (mdI V n i)))], .pointer (some ⟨B14_84, 3, none⟩), vi ((putErr (mdK V) (V.getD 0 0) (mdSs V n i) (i : Int) (mdI V n i))), .bool false, (gu u40_ 78), (gu u40_ 79)], by omega, by omega, rfl, rfl, hp88⟩
    have hs43p := hs43
    simp only [zB] at hs43p
    refine wp_cond_false (show Act.eval _ _ = .bool false from (congrArg Value.bool hs43)) (wp_exit (then_exit (then_exit (blk_eq (then_normal ?_)))))
    obtain rfl : i = 12 := by omega
    obtain ⟨its, hits, hdes⟩ := its_of (hV ▸ mdSs_desc s n 12 (by omega) : ∀ x ∈ mdSs V n 12, ∃ o, Desc x o)
    rw [← hits, List.length_map, ← strs_map] at hst42
    refine wp_region_Y [0, 1, 0, 4, 15, 31, 63] [[], [1], [6], [], [7, 2], [], [1]] [[], [], [], [7], [8], [], [9]] [[], [], [], [], [2], [], [1]] [.k 137 (vp B3_2), .c 138 (.slice PA n PC), .c 139 (.agg #[vi (mdK V), vi (V.getD 0 0), .slice IA its.length IC]), .a 140, .a 141, .k 142 (vp B3_2), .n] (fun ix σ β X => match ix with | 0 => True | 1 => True | 2 => True | 3 => σ 140 = .slice ((some ⟨(pb' (β 140)), 0, none⟩)) 1 1 ∧ X 7 = eO 64 3 (.slice ((some ⟨(pb' (β 140)), 0, none⟩)) 1 1) 1 (pgC (PgD.mk (mdK V) (V.getD 0 0) IA IC its)) | 4 => σ 141 = .slice (sA (β 141)) (n + 1) (sC (β 141)) ∧ X 8 = eO 64 3 (.slice (sA (β 141)) (n + 1) (sC (β 141))) (n + 1) ((Ps ++ [(PgD.mk (mdK V) (V.getD 0 0) IA IC its)]).flatMap pgC) | 5 => True | 6 => X 9 = eB B3_2 30 #[.slice (sA (β 141)) (n + 1) (sC (β 141))] | _ => True) [0, 3, 4, 5, 6, 7, 8, 9] [1, 2, 3, 4, 6] [(137, 0, 6, 143)] hst42 ?_ ?_ ?_
    · exact fun ix _ _ _ _ _ _ hs hb hx h => match ix, h with
      | 3, h => by dsimp only at h ⊢; rw [← hs 140 rfl, ← hb 140 rfl, ← hx 7 rfl]; exact h
      | 4, h => by dsimp only at h ⊢; rw [← hs 141 rfl, ← hb 141 rfl, ← hx 8 rfl]; exact h
      | 6, h => by dsimp only at h ⊢; rw [← hb 141 rfl, ← hx 9 rfl]; exact h
      | 0, _ | 1, _ | 2, _ | 5, _ | _ + 7, _ => trivial
    · refine ⟨?_, ?_, ?_, ?_, ?_, trivial⟩
      · exact xs4 rfl id fun cx => run_load1 rfl (by kernel_rfl) (cx.an 0) ((cx.bi 1 rfl).cell 0)
      · exact xs4 rfl id fun cx => run_loadB (n := 3) rfl (by kernel_rfl) (by kernel_rfl) (cx.ou 8) (cx.bi 6 rfl) (nle rfl) rfl
      · refine sv_any rfl rfl fun ρ β W X cx => ?_
        have fF139 : ρ (.tmp 139) = .agg #[vi (mdK V), vi (V.getD 0 0), .slice IA its.length IC] := (cx.an 2)
        exact dv_litN (e := 64) (sz := 3) (xs := [vi (mdK V), vi (V.getD 0 0), .slice IA its.length IC]) rfl (by simp [go_sem, fF139]) rfl (by decide) rfl rfl (fun σ β' X' hs hb hv hx => ⟨hv, hx⟩)
      · refine sv_any rfl rfl fun ρ β W X cx => ?_
        obtain ⟨i0, hi0, hz0, hz1, hz2⟩ := info_parts Tryz.infoPage
        refine dv_appendN (n := n) (m := 1) (nm := n + 1) (sz := 3) (xs := Ps.flatMap pgC) (news := pgC (PgD.mk (mdK V) (V.getD 0 0) IA IC its)) (xs' := (Ps ++ [(PgD.mk (mdK V) (V.getD 0 0) IA IC its)]).flatMap pgC) rfl (ty := 28) rfl (by kernel_rfl) hi0 hz0 hz1 hz2 rfl (by decide) (cx.an 1) cx (cx.init 2 _ rfl) rfl (dTn (cx.an 3)).1 (by rfl) (At.of_ownN (cx.row (dTn (cx.an 3)).2 rfl)) (by simp [pgC, Value.oneCell']) (by simp only [maxLen]; omega) (by omega) rfl rfl rfl (by omega) (pgs_snoc _ _) (fun σ β' X' hs hb hv hx => ?_)
        exact ⟨hv, hx⟩
      · refine sv_any rfl rfl fun ρ β W X cx => ?_
        exact dv_store (n := 1) rfl (cx.an 5) (dTn (cx.an 4)).1 (by kernel_rfl) (by kernel_rfl) (by kernel_rfl) cx (cx.init 1 _ rfl) rfl (nle rfl) (by kernel_rfl) rfl rfl rfl (fun σ β' X' hs hb hx => by rw [hb 141]; exact hx)
    intro σ β X W89 hD hst89 fr hfr
    obtain ⟨B140_89, hu_B140_89⟩ : ∃ z, pb' (β 140) = z := ⟨_, rfl⟩
    obtain ⟨A141_89, hu_A141_89⟩ : ∃ z, sA (β 141) = z := ⟨_, rfl⟩
    obtain ⟨c141_89, hu_c141_89⟩ : ∃ z, sC (β 141) = z := ⟨_, rfl⟩
    simp only [exq 7 ((dTn (hD 3 lq)).2), exq 8 ((dTn (hD 4 lq)).2), exq 9 ((dTn (hD 6 lq))), hu_B140_89, hu_A141_89, hu_c141_89] at hst89
    simp only [ed 140 ((dTn (hD 3 lq)).1), ed 141 ((dTn (hD 4 lq)).1), hu_B140_89, hu_A141_89, hu_c141_89] at hfr
    clear hD hu_B140_89 hu_A141_89 hu_c141_89; subst hfr; clear σ β X
    refine blk_normal (then_normal (wp_region_P [0, 1, 3] [.k 18 (vi ((n : Int))), tI 19 ((n : Int) + 1) (by omega), .k 5 (vi ((n : Int) + 1))] [(5, 2, 1, 6), (12, 0, 2, 14)] hst89 fun W90 hst90 => ?_))
    refine then_normal ?_
    have hm91 := St.mergeP (Ps := Ps) (p := (PgD.mk (mdK V) (V.getD 0 0) IA IC its)) (L := [eB B2_1 30 #[.slice none 0 0], eB B6_11 220 (V.map (Value.int .i64)).toArray, eB B8_26 64 #[vi (mdK V), vi (V.getD 0 0), .slice IA its.length IC], eO 64 3 (.slice ((some ⟨B140_89, 0, none⟩)) 1 1) 1 (pgC (PgD.mk (mdK V) (V.getD 0 0) IA IC its)), eO 64 3 (.slice A141_89 (n + 1) c141_89) (n + 1) ((Ps ++ [(PgD.mk (mdK V) (V.getD 0 0) IA IC its)]).flatMap pgC), eB B3_2 30 #[.slice A141_89 (n + 1) c141_89]]) (hst90.pick [0, 2, 4, 5, 6, 7, 1, 3] (by decide) rfl)
    refine ⟨5 - ((n + 1)), by omega, ?_⟩
    have hp92 := hm91.pick [0, 5, 4, 6] (by decide) rfl
    exact ⟨(n + 1), A141_89, c141_89, (Ps ++ [(PgD.mk (mdK V) (V.getD 0 0) IA IC its)]), [vp B6_11, vi (((40 : Nat) : Int)), vp B8_26, vi (((12 : Nat) : Int)), (gu u40_ 0), (gu u40_ 1), (gu u40_ 2), (gu u40_ 3), (gu u40_ 4), vi ((n : Int)), .bool (decide ((n : Int) < 5)), vi ((n : Int)), vi ((n : Int) + 1), .agg #[vi 0, vi 0, vi 0, vi 0, vi 0, vi 0, vi 0, vi 0, vi 0, vi 0, vi 0, vi 0, vi 0, vi 0, vi 0, vi 0, vi 0, vi 0, vi 0, vi 0, vi 0, vi 0, vi 0, vi 0, vi 0, vi 0, vi 0, vi 0, vi 0, vi 0, vi 0, vi 0, vi 0, vi 0, vi 0, vi 0, vi 0, vi 0, vi 0, vi 0], vi (((40 : Nat) : Int)), .bool (decide (((40 : Nat) : Int) < 40)), (gu u13_ 2), (gu u13_ 3), (gu u13_ 4), (gu u13_ 5), (gu u13_ 6), (gu u13_ 7), (gu u13_ 8), (gu u13_ 9), (gu u13_ 10), (gu u13_ 11), (gu u13_ 12), (gu u13_ 13), (gu u13_ 14), (gu u13_ 15), (gu u13_ 16), vp B6_11, vi (V.getD 0 0), .pointer (some ⟨B6_11, 1, none⟩), vi (V.getD 1 0), vi ((V.getD 1 0) % 2), vi (1 + ((V.getD 1 0) % 2)), .string (putS (1 + ((V.getD 1 0) % 2)) 2), .slice A45_26 1 1, .agg #[vi 1, vi (V.getD 0 0), .slice A45_26 1 1], (gu u27_ 0), (gu u27_ 1), (gu u27_ 2), (gu u27_ 3), (gu u27_ 4), (gu u27_ 5), (gu u27_ 6), (gu u27_ 7), (gu u33_ 0), (gu u33_ 1), (gu u33_ 2), (gu u33_ 3), (gu u33_ 4), (gu u33_ 5), (gu u33_ 6), vi (((12 : Nat) : Int)), .bool (decide (((12 : Nat) : Int) < 12)), .bool (decide (((12 : Nat) : Int) < 12)), mb (decide (((12 : Nat) : Int) < 12)) (vi (((12 : Nat) : Int))), mb (decide (((12 : Nat) : Int) < 12)) (vi (((3 * (12 : Nat) : Nat) : Int))), mb (decide (((12 : Nat) : Int) < 12)) (vi (((3 * (12 : Nat) + 2 : Nat) : Int))), mb (decide (((12 : Nat) : Int) < 12)) (.bool (decide (((3 * (12 : Nat) + 2 : Nat) : Int) < 40))), .bool ((decide (((12 : Nat) : Int) < 12)) && (decide (((3 * (12 : Nat) + 2 : Nat) : Int) < 40))), (gu u40_ 13), (gu u40_ 14), (gu u40_ 15), (gu u40_ 16), (gu u40_ 17), (gu u40_ 18), (gu u40_ 19), (gu u40_ 20), (gu u40_ 21), (gu u40_ 22), (gu u40_ 23), (gu u40_ 24), (gu u40_ 25), (gu u40_ 26), (gu u40_ 27), (gu u40_ 28), (gu u40_ 29), (gu u40_ 30), (gu u40_ 31), (gu u40_ 32), (gu u40_ 33), (gu u40_ 34), (gu u40_ 35), (gu u40_ 36), (gu u40_ 37), (gu u40_ 38), (gu u40_ 39), (gu u40_ 40), (gu u40_ 41), (gu u40_ 42), (gu u40_ 43), (gu u40_ 44), (gu u40_ 45), (gu u40_ 46), (gu u40_ 47), (gu u40_ 48), (gu u40_ 49), (gu u40_ 50), (gu u40_ 51), (gu u40_ 52), (gu u40_ 53), (gu u40_ 54), (gu u40_ 55), (gu u40_ 56), (gu u40_ 57), (gu u40_ 58), (gu u40_ 59), (gu u40_ 60), (gu u40_ 61), (gu u40_ 62), (gu u40_ 63), (gu u40_ 64), (gu u40_ 65), (gu u40_ 66), (gu u40_ 67), (gu u40_ 68), (gu u40_ 69), (gu u40_ 70), (gu u40_ 71), (gu u40_ 72), (gu u40_ 73), (gu u40_ 74), (gu u40_ 75), (gu u40_ 76), (gu u40_ 77), (gu u40_ 78), (gu u40_ 79), vp B3_2, .slice PA n PC, .agg #[vi (mdK V), vi (V.getD 0 0), .slice IA its.length IC], .slice ((some ⟨B140_89, 0, none⟩)) 1 1, .slice A141_89 (n + 1) c141_89, vp B3_2], by omega, by rw [List.length_append, hPl]; rfl, md_snoc hPl hM ⟨by rw [hV], by rw [hV], by rw [hV]; exact hits, hdes⟩, rfl, rfl, hp92⟩
  have hs10p : ¬ ((n : Int) < 5) := by simpa using hs10
  refine wp_cond_false (show Act.eval _ _ = .bool false from (congrArg Value.bool hs10)) (wp_exit (then_exit (then_exit (blk_eq (then_normal (wp_seq (wp_region_Y [0, 1] [[1], [0]] [[], [4]] [[], [0]] [.c 143 (.agg #[.slice PA n PC]), .n] (fun ix σ β X => match ix with | 0 => True | 1 => X 4 = eB B2_1 30 #[.slice PA n PC] | _ => True) [1, 2, 3, 4] [0, 1] [(143, 0, 1, 144)] hst9 ?_ ?_ ?_)))))))
  · exact fun ix _ _ _ _ _ _ hs hb hx h => match ix, h with
    | 1, h => by dsimp only at h ⊢; rw [← hx 4 rfl]; exact h
    | 0, _ | _ + 2, _ => trivial
  · refine ⟨?_, ?_, trivial⟩
    · exact xs4 rfl id fun cx => run_loadB (n := 1) rfl (by kernel_rfl) (by kernel_rfl) (cx.ou 3) (cx.bi 1 rfl) (nle rfl) rfl
    · refine sv_any rfl rfl fun ρ β W X cx => ?_
      exact dv_store (n := 1) rfl (cx.ou 2) (cx.an 0) (by kernel_rfl) (by kernel_rfl) (by kernel_rfl) cx (cx.init 0 _ rfl) rfl (nle rfl) (by kernel_rfl) rfl rfl rfl (fun σ β' X' hs hb hx => hx)
  intro σ β X W93 hD hst93 fr hfr
  simp only [exq 4 ((dTn (hD 1 lq)))] at hst93
  clear hD; subst hfr; clear σ β X
  refine then_normal (wp_ret ?_)
  refine bodyPost_ret (v := .agg #[.slice PA n PC]) (results_cell (n := 1) Tryz.results48 rfl (by kernel_rfl) (by kernel_rfl) (hst93.blk 3 rfl) rfl) rfl ?_
  exact St.made (by omega) hPl hM (hst93.pick [2, 1] (by decide) rfl)
end
end Go.Proofs.YtjnplglnnamfdaaGreatDoor
namespace Go.Proofs.YtjnplglnnamfdaaGreatDoor
section
open Go.RowKit
section
variable {ρ : Operand → Value}
theorem map5 {x0 x1 x2 x3 x4 : Operand} {v0 v1 v2 v3 v4 : Value} (h0 : ρ x0 = v0) (h1 : ρ x1 = v1) (h2 : ρ x2 = v2) (h3 : ρ x3 = v3) (h4 : ρ x4 = v4) : #[x0, x1, x2, x3, x4].map ρ = #[v0, v1, v2, v3, v4] := by simp [h0, h1, h2, h3, h4]
end
end
end Go.Proofs.YtjnplglnnamfdaaGreatDoor
namespace Go.Proofs.YtjnplglnnamfdaaGreatDoor
section
open Go.RowKit
set_option linter.unusedVariables false
set_option linter.unusedSimpArgs false
/-- a fresh vacuum's work -/
def eWk (b : Nat) : Ent := ⟨[b], fun W => ∃ q : Nat, Blk W b 297 #[.int .i64 0, .string ByteArray.empty, .slice none 0 0, .slice none 0 0, .slice none 0 0, .int .i64 5, .int .i64 0, .slice none 0 0, .slice none 0 0, .slice none 0 0, .int .i64 0, .int .i64 0, .bool false, .map (some q)]⟩
theorem eWk_loc (b : Nat) : (eWk b).loc := fun W W' hk h => by
  obtain ⟨q, h⟩ := h
  exact ⟨q, (hk b (by simp [eWk])).trans h⟩
theorem vacnew_e (w : World) : Calls Tryz.prog 116 #[.agg #[.int .i64 0, .string ByteArray.empty, .slice none 0 0, .slice none 0 0], .slice none 0 0, .int .i64 5] w (fun e w' => ∃ b, e = .returned (.pointer (some ⟨b, 0, none⟩)) ∧ ((eWk b).holds w' ∧ (eWk b).loc ∧ ∀ k ∈ (eWk b).fp, w.heap.size ≤ k ∧ k < w'.heap.size) ∧ Ext w w') :=
  (vacnew_0 w).mono fun e w' h => by
    obtain ⟨b, q, he, ⟨hb, hs⟩, hx⟩ := h
    exact ⟨b, he, ⟨⟨q, hb⟩, eWk_loc b, fun k hk => by
      have e1 : k = b := by simpa [eWk] using hk
      subst e1; exact ⟨hs, hb.lt⟩⟩, hx⟩
theorem vacdone_e {b : Nat} {w : World} (h : (eWk b).holds w) : Calls Tryz.prog 117 #[.pointer (some ⟨b, 0, none⟩)] w (Ret (.bool true) w) := by
  obtain ⟨q, h⟩ := h
  exact vacdone_0 b q w h
section
variable {b : Nat} {r : Option Nat} {n : Nat} {m : Int → Option KN} {w : World}
theorem St.vm {w0 W : World} {bor : List Nat} {b q n : Nat} {m : Int → Option KN} (h : St w0 bor [eB b 228 #[.map (some q)], eMg knC Tryz.prog 3 q n m] W) : St w0 bor [eVMo b (some q) (n, m)] W := by
  have h1 := h.ok _ (List.mem_cons_self ..)
  have h2 := h.ok (eMg knC Tryz.prog 3 q n m) (by simp)
  refine ⟨h.upd, fun x hx => ?_, List.pairwise_singleton _ _⟩
  rw [List.mem_singleton] at hx
  subst hx
  refine ⟨⟨q, rfl, h1.holds, h2.holds⟩, eVMo_loc _ _ _, fun k hk => ?_⟩
  simp only [eVMo, Option.toList_some, List.mem_cons, List.not_mem_nil, or_false] at hk
  rcases hk with rfl | rfl
  · exact h1.own _ (by simp [eB])
  · exact h2.own _ (by simp [eMg])
theorem vm_self {e : Ent} {b : Nat} {r : Option Nat} {l : Nat × (Int → Option KN)} (h : e = eVMo b r l) : e = eVMo b (rO e) l := by
  have h2 := rO_eVMo b r l
  subst h
  rw [h2]
theorem vnew_o (w : World) : Calls Tryz.prog 49 #[] w (fun e w' => ∃ b q, e = .returned (.pointer (some ⟨b, 0, none⟩)) ∧ St w [] [eVMo b (some q) (0, fun _ => none)] w') :=
  (vnew_any w).mono fun e w' ⟨b, q, he, h⟩ => ⟨b, q, he, h.vm⟩
theorem vlook_o (hV : VMAt w b r (n, m)) (tt : TypeId) (tv : Value) (pv : Int → PV) (p hz : Int) (t2 : TypeId) (tv2 : Value) (g : Int → Int) (hn : n < 1000000) (hp : -9223372036854775808 ≤ p ∧ p ≤ 9223372036854775807) (hS : PgsOk w tt tv pv) (hS2 : StOk w t2 tv2 g) (hN : NoneAt w) :
    Calls Tryz.prog 50 #[.pointer (some ⟨b, 0, none⟩), .iface tt tv, .int .i64 p, .int .i64 hz, .iface t2 tv2] w (fun e w' => e = .returned (.tuple #[]) ∧ VMPost b r (n + 1, putM m p (some (lookF g hz (pv p)))) w w') := by
  obtain ⟨q, rfl, h⟩ := hV
  exact (vlook_any b q n m tt tv pv p hz t2 tv2 g w h hn hp hS hS2 hN).mono fun e w' hp => VPost.obj h hp
theorem vchange_o (hV : VMAt w b r (n, m)) (x : Int) (hx : -9223372036854775808 ≤ x ∧ x ≤ 9223372036854775807) :
    Calls Tryz.prog 51 #[.pointer (some ⟨b, 0, none⟩), .int .i64 x] w (fun e w' => e = .returned (.tuple #[]) ∧ VMPost b r (n, putM m x none) w w') := by
  obtain ⟨q, rfl, h⟩ := hV
  exact (vchange_any b q n m x w h hx).mono fun e w' hp => VPost.obj h hp
theorem vallv_o (hV : VMAt w b r (n, m)) (x : Int) (hx : -9223372036854775808 ≤ x ∧ x ≤ 9223372036854775807) :
    Calls Tryz.prog 56 #[.pointer (some ⟨b, 0, none⟩), .int .i64 x] w (Ret (.bool ((m x).getD (false, 0)).1) w) := by
  obtain ⟨q, rfl, h⟩ := hV
  exact vallv_any b q n m x w h hx
theorem vroom_o (hV : VMAt w b r (n, m)) {SA : Option Addr} {sn sc : Nat} (ss : List Int) (rm : Int) (hn : sn = ss.length) (hA : At w SA (ss.map (Value.int .i64))) (hl : ss.length ≤ 100000) (hss : ∀ x ∈ ss, -9223372036854775808 ≤ x ∧ x ≤ 9223372036854775807) :
    Calls Tryz.prog 54 #[.pointer (some ⟨b, 0, none⟩), .slice SA sn sc, .int .i64 rm] w (Ret (.int .i64 (roomM m rm ss)) w) := by
  obtain ⟨q, rfl, h⟩ := hV
  subst hn
  exact vroom_any b q n m SA sc ss rm w h hA hl hss
variable {L : List KD}
theorem rallv_o (h : RMAt w b r L) (hL : L.length ≤ 1000000) (x : Int) :
    Calls Tryz.prog 57 #[.pointer (some ⟨b, 0, none⟩), .int .i64 x] w (Ret (.bool (fdR L x).2.2) w) := by
  obtain ⟨A, c, h1, h2, _⟩ := h
  exact rallv_any b A c L x w h1 (At.of_ownN h2) hL
theorem rroom_o (h : RMAt w b r L) (hL : L.length ≤ 1000000) {SA : Option Addr} {sn sc : Nat} (ss : List Int) (rm : Int) (hn : sn = ss.length) (hA : At w SA (ss.map (Value.int .i64))) (hl : ss.length ≤ 100000) :
    Calls Tryz.prog 55 #[.pointer (some ⟨b, 0, none⟩), .slice SA sn sc, .int .i64 rm] w (Ret (.int .i64 (roomR L rm ss)) w) := by
  obtain ⟨A, c, h1, h2, _⟩ := h
  subst hn
  exact rroom15_any b A c L SA sc ss rm w h1 (At.of_ownN h2) hL hA hl
end
theorem CtxV.far {ops : Array Oper} {L : List Nat} {a0 : Act} {w0 : World} {X0 : List Ent} {us : List (List Nat)} {D : Nat → (Tmp → Value) → (Tmp → Value) → (Nat → Ent) → Prop} {i : Nat} {ρ : Operand → Value} {β : Tmp → Value} {W : World} {X : Nat → Ent} {q : Nat} {E : Ent} (cx : CtxV ops L a0 w0 [] X0 us D i ρ β W X) (hX : X q = E) (hu : (atV us i).contains q = true) {W' : World} (h : Upd E.fp W W') : Ext w0 W' :=
  (cx.upd.join h (fun k hk => ((cx.ok q hu).own k (by rw [hX]; exact hk)).1)).to_ext
theorem rmade9_n (LA : Option Addr) (lc : Nat) (s : List Int) (n : Nat) (w : World) (hn : n = s.length) (hA : At w LA (s.map (Value.int .i64))) (hl : s.length ≤ 1000000) : Calls Tryz.prog 48 #[.slice LA n lc] w (MadePost s w) := by
  subst hn; exact rmade9_any LA lc s w hA hl
theorem stand9_n (LA : Option Addr) (lc : Nat) (s : List Int) (n : Nat) (w : World) (hn : n = s.length) (hA : At w LA (s.map (Value.int .i64))) (hl : s.length ≤ 1000) : Calls Tryz.prog 11 #[.slice LA n lc] w (Ret (.agg ((stdT s).map (Value.int .i64)).toArray) w) := by
  subst hn; exact stand9_any LA lc s w hA hl
abbrev T3 := Int × Int × Int
def t30 : T3 := (0, 0, 0)
def t3C (t : T3) : List Value := [.int .i64 t.1, .int .i64 t.2.1, .int .i64 t.2.2]
theorem t3C_len (t : T3) : (t3C t).length = 3 := rfl
theorem tmod_bd (a : Int) {b : Int} (h : 0 < b) : -b < a.tmod b ∧ a.tmod b < b := ⟨Int.lt_tmod_of_pos a h, Int.tmod_lt_of_pos a h⟩
theorem pgs_bd {x : Int} (h : -9223372036854775808 ≤ x ∧ x ≤ 9223372036854775807) : ∀ y ∈ [x, 4, 3, 2, 1, 0], -9223372036854775808 ≤ y ∧ y ≤ 9223372036854775807 := by
  intro y hy
  simp only [List.mem_cons, List.not_mem_nil, or_false] at hy
  omega
theorem t3_bd {cs : List T3} (h : ∀ t ∈ cs, -9223372036854775808 ≤ t.2.1 ∧ t.2.1 ≤ 9223372036854775807) {i : Nat} (hi : i < cs.length) : -9223372036854775808 ≤ (cs.getD i t30).2.1 ∧ (cs.getD i t30).2.1 ≤ 9223372036854775807 := by
  rw [List.getD_eq_getElem?_getD, List.getElem?_eq_getElem hi]
  exact h _ (List.getElem_mem hi)
theorem rlook_n (b : Nat) (r : Option Nat) (L : List KD) (PA : Option Addr) (pc : Nat) (Ps : List PgD) (p hz : Int) (T : List Int) (g : Int → Int) (w : World) (hPl : Ps.length = 5) (h : RMAt w b r L) (hL : L.length ≤ 100000) (hP : ∀ W, Upd (b :: r.toList) w W → PgsAt W PA Ps) (hT : T.length = 128) (hg : ∀ x, tabF T x = g x) : Calls Tryz.prog 52 #[.pointer (some ⟨b, 0, none⟩), .agg #[.slice PA 5 pc], .int .i64 p, .int .i64 hz, .agg (T.map (Value.int .i64)).toArray] w (RMDone b r (chL L p ++ [knR g hz p (pvF Ps p)]) w) := by
  have h_ := rlook_any b r L PA pc Ps p hz T g w h hL hP hT hg
  rw [hPl] at h_
  exact h_
set_option maxRecDepth 100000 in
set_option maxHeartbeats 2000000 in
theorem sanity15_any  (w : World) :
    Calls Tryz.prog 47 #[] w (Ret (.bool true) w) := by
  go_enter Tryz.func47, Tryz.ntmps47
  have hst0 := St.start w
  refine wp_seq (wp_region_P [0] [.k 0 (.bool false)] [(0, 0, 1, 1)] hst0 fun W1 hst1 => ?_)
  refine then_normal (wp_seq (wp_region_Y [0, 1, 3] [] [[], [0]] [] [.k 2 (.agg #[vi 0, .string ByteArray.empty, .slice none 0 0, .slice none 0 0]), .a 3, .a 1] (fun ix σ β X => match ix with | 0 => True | 1 => σ 3 = vp (pb (β 3)) ∧ X 0 = eWk (pb (β 3)) | 2 => σ 1 = vp (pb (β 3)) | _ => True) [0] [1, 2] [(1, 2, 1, 2), (0, 0, 2, 2)] hst1 ?_ ?_ ?_))
  · exact fun ix _ _ _ _ _ _ hs hb hx h => match ix, h with
    | 1, h => by dsimp only at h ⊢; rw [← hs 3 rfl, ← hb 3 rfl, ← hx 0 rfl]; exact h
    | 2, h => by dsimp only at h ⊢; rw [← hs 1 rfl, ← hb 3 rfl]; exact h
    | 0, _ | _ + 3, _ => trivial
  · refine ⟨?_, ?_, trivial⟩
    · refine sv_any rfl rfl fun ρ β W X cx => ?_
      refine DoesU.call (run_callF (args := #[.agg #[vi 0, .string ByteArray.empty, .slice none 0 0, .slice none 0 0], .slice none 0 0, vi 5]) rfl cx.sees rfl (by kernel_rfl) (map3 (cx.an 0) (cx.co _) (cx.co _))) ?_
      refine (vacnew_e _).mono ?_
      rintro e W1 ⟨b4, rfl, hn4, hx⟩
      refine ⟨_, rfl, post_call [eWk b4] rfl rfl hx (one_new hn4) (List.pairwise_singleton _ _) (fun σ β' X' hs hb hv hN => ?_)⟩
      have hv1 := (hv 3 rfl).1; have hv2 := (hv 3 rfl).2
      exact ⟨hv1.trans (by rw [hv2]; rfl), (by rw [hv2]; exact (List.cons.inj hN).1)⟩
    · exact sv rfl rfl rfl rfl rfl _ (fun _ _ _ h => h) (fun β β' h => by rw [h 3 (by decide)]) fun ρ β W X cx => run_assign' rfl (dTn (cx.an 1)).1
  intro σ β X W2 hD hst2 fr hfr
  obtain ⟨B3_2, hu_B3_2⟩ : ∃ z, pb (β 3) = z := ⟨_, rfl⟩
  simp only [exq 0 ((dTn (hD 1 lq)).2), hu_B3_2] at hst2
  simp only [ed 3 ((dTn (hD 1 lq)).1), ed 1 ((dTn (hD 2 lq))), hu_B3_2] at hfr
  clear hD hu_B3_2; subst hfr; clear σ β X
  refine then_normal (wp_seq (wp_region_Y [0, 1, 3, 7, 7, 31, 63, 127, 255] [[], [0], [], [], [], [2, 1]] [[], [], [], [1], [2]] [] [.k 4 (vp B3_2), .c 5 (.bool true), .k 6 (.bool true), .a 7, .a 8, .c 9 (vi ((roomM (fun _ => none) 0 [1, 2]))), .k 10 (.bool ((roomM (fun _ => none) 0 [1, 2]) == (-1))), .k 11 (.bool ((roomM (fun _ => none) 0 [1, 2]) == (-1))), .k 0 (.bool ((roomM (fun _ => none) 0 [1, 2]) == (-1)))] (fun ix σ β X => match ix with | 0 => True | 1 => True | 2 => True | 3 => σ 7 = vp (pb (β 7)) ∧ X 1 = eVMo (pb (β 7)) (rO (X 1)) (0, fun _ => none) | 4 => σ 8 = .slice (sA (β 8)) 2 2 ∧ X 2 = eO 3 1 (.slice (sA (β 8)) 2 2) 2 ([vi 1, vi 2]) | _ => True) [0, 1, 2] [1, 3, 4, 5] [(0, 8, 1, 1), (3, 0, 8, 11)] hst2 ?_ ?_ ?_))
  · exact fun ix _ _ _ _ _ _ hs hb hx h => match ix, h with
    | 3, h => by dsimp only at h ⊢; rw [← hs 7 rfl, ← hb 7 rfl, ← hx 1 rfl]; exact h
    | 4, h => by dsimp only at h ⊢; rw [← hs 8 rfl, ← hb 8 rfl, ← hx 2 rfl]; exact h
    | 0, _ | 1, _ | 2, _ | _ + 5, _ => trivial
  · refine ⟨?_, ?_, ?_, ?_, trivial⟩
    · exact xsc rfl id rfl rfl fun cx => ⟨_, vacdone_e (CtxV.holdE cx (cx.init 0 _ rfl) rfl), (map1 (cx.an 0))⟩
    · refine sv_any_on rfl rfl rfl (fun _ _ _ _ cx => (cx.an 2)) fun ρ β W X cx => ?_
      refine DoesU.call (run_callF (args := #[]) rfl cx.sees rfl (by kernel_rfl) map0) ?_
      refine (vnew_o _).mono ?_
      rintro e W1 ⟨b4, q4, rfl, hc⟩
      refine ⟨_, rfl, post_st [eVMo b4 (some q4) (0, fun _ => none)] rfl rfl hc (fun σ β' X' hs hb hv hN => ?_)⟩
      have hv1 := (hv 7 rfl).1; have hv2 := (hv 7 rfl).2
      exact ⟨hv1.trans (by rw [hv2]; rfl), (by rw [hv2]; exact vm_self ((List.cons.inj hN).1))⟩
    · refine sv_any_on rfl rfl rfl (fun _ _ _ _ cx => (cx.an 2)) fun ρ β W X cx => ?_
      exact dv_lit (e := 3) (xs := [vi 1, vi 2]) rfl (by simp [go_sem, cx.sees.const]) rfl (by decide) rfl rfl (fun σ β' X' hs hb hv hx => ⟨hv, hx⟩)
    · exact sv_call_on rfl rfl rfl rfl rfl rfl (fun _ _ _ h => h) (fun _ _ _ _ cx => (cx.an 2)) fun ρ β W X cx => ⟨_, _, run_callF (args := #[vp (pb (β 7)), .slice (sA (β 8)) 2 2, vi 0]) rfl cx.sees rfl (by kernel_rfl) (map3 (dTn (cx.an 3)).1 (dTn (cx.an 4)).1 (cx.co _)), vroom_o (CtxV.holdE cx (dTn (cx.an 3)).2 rfl) [1, 2] 0 rfl (At.of_own (cx.row (dTn (cx.an 4)).2 rfl)) (by simp) (by intro x hx; simp only [List.mem_cons, List.not_mem_nil, or_false] at hx; omega)⟩
  intro σ β X W3 hD hst3 fr hfr
  obtain ⟨B7_3, hu_B7_3⟩ : ∃ z, pb (β 7) = z := ⟨_, rfl⟩
  obtain ⟨A8_3, hu_A8_3⟩ : ∃ z, sA (β 8) = z := ⟨_, rfl⟩
  have xX1 : X 1 = _ := (dTn (hD 3 lq)).2
  obtain ⟨r1_3, hu_r1_3⟩ : ∃ z, rO (X 1) = z := ⟨_, rfl⟩
  rw [hu_r1_3] at xX1
  clear hu_r1_3
  simp only [xX1, exq 2 ((dTn (hD 4 lq)).2), hu_B7_3, hu_A8_3] at hst3
  simp only [ed 7 ((dTn (hD 3 lq)).1), ed 8 ((dTn (hD 4 lq)).1), hu_B7_3, hu_A8_3] at hfr
  clear hD xX1 hu_B7_3 hu_A8_3; subst hfr; clear σ β X
  refine then_normal (wp_ret ?_)
  refine bodyPost_ret (v := .bool ((roomM (fun _ => none) 0 [1, 2]) == (-1))) (results_tmp Tryz.results47 rfl) rfl ?_
  exact Ret.bool rfl hst3.ext
set_option maxRecDepth 100000 in
set_option maxHeartbeats 16000000 in
theorem vacuummap_any (SA : Option Addr) (sc : Nat) (s : List Int) (TA : Option Addr) (tc : Nat) (stand : List Int) (CA : Option Addr) (cc : Nat) (cs : List T3) (w : World) (hS : At w SA (s.map (Value.int .i64))) (hsc : s.length ≤ sc) (hT : At w TA (stand.map (Value.int .i64))) (htc : stand.length ≤ tc) (hC : At w CA (cs.flatMap t3C)) (hcl : cs.length ≤ 100000000000000) (hCb : ∀ t ∈ cs, -9223372036854775808 ≤ t.2.1 ∧ t.2.1 ≤ 9223372036854775807) (hN : NoneAt w) :
    Calls Tryz.prog 8 #[.slice SA s.length sc, .slice TA stand.length tc, .slice CA cs.length cc] w (Ret (.bool true) w) := by
  go_enter Tryz.func8, Tryz.ntmps8
  have hst0 := St.start w
  refine wp_seq (wp_region_P [0] [.k 6 (.bool false)] [(6, 0, 1, 7)] hst0 fun W1 hst1 => ?_)
  refine then_normal (wp_seq (wp_region_Z [0, 1] [] [.c 19 (.bool true), .k 7 (.bool true)] [] [0] [(7, 1, 1, 8), (11, 0, 1, 12)] hst1 ?_ fun W2 hst2 => ?_))
  · refine ⟨?_, trivial⟩
    · exact xsc rfl id rfl rfl fun cx => ⟨_, sanity15_any _, map0⟩
  refine then_normal (wp_seq ?_)
  obtain ⟨m1, hminm1, htkm1, hlem1, hem1⟩ := cut_len s 200
  refine wp_region_Y [0, 0, 2, 6, 15, 31, 0, 127] [[], [], [], [], [], [], [], [1]] [[], [], [], [], [], [0], [1], [2]] [[], [], [], [], [], [], [], [1]] [.k 20 (.slice SA s.length sc), .k 21 (.slice SA s.length sc), .k 22 (vi ((s.length : Int))), .c 23 (vi ((m1 : Int))), .c 24 (.slice SA m1 sc), .a 25, .a 8, .n] (fun ix σ β X => match ix with | 0 => True | 1 => True | 2 => True | 3 => True | 4 => True | 5 => σ 25 = .agg #[.slice (sA (tg (β 25) 0)) 5 (sC (tg (β 25) 0))] ∧ X 0 = eMd (s.take 200) (sA (tg (β 25) 0)) ((X 0).fp) | 6 => σ 8 = vp (pb (β 8)) ∧ X 1 = eB (pb (β 8)) 30 #[.slice none 0 0] | 7 => X 2 = eB (pb (β 8)) 30 #[.slice (sA (tg (β 25) 0)) 5 (sC (tg (β 25) 0))] | _ => True) [0, 2] [3, 4, 5, 6, 7] [(8, 6, 1, 9), (11, 0, 6, 17)] hst2 ?_ ?_ ?_
  · exact fun ix _ _ _ _ _ _ hs hb hx h => match ix, h with
    | 5, h => by dsimp only at h ⊢; rw [← hs 25 rfl, ← hb 25 rfl, ← hx 0 rfl]; exact h
    | 6, h => by dsimp only at h ⊢; rw [← hs 8 rfl, ← hb 8 rfl, ← hx 1 rfl]; exact h
    | 7, h => by dsimp only at h ⊢; rw [← hb 8 rfl, ← hb 25 rfl, ← hx 2 rfl]; exact h
    | 0, _ | 1, _ | 2, _ | 3, _ | 4, _ | _ + 8, _ => trivial
  · refine ⟨?_, ?_, ?_, ?_, ?_, trivial⟩
    · exact xs4 rfl id fun cx => run_min2 rfl (cx.an 2) (cx.co _) (hminm1)
    · exact xs4 rfl id fun cx => run_sliceL_hi (e := 3) (sz := 1) (m := m1) rfl (by kernel_rfl) (by kernel_rfl) (cx.an 0) (cx.an 3) (by omega) (by omega)
    · refine sv_any rfl rfl fun ρ β W X cx => ?_
      refine DoesU.call (run_callF (args := #[.slice SA m1 sc]) rfl cx.sees rfl (by kernel_rfl) (map1 (cx.an 4))) ?_
      refine (rmade9_n _ _ (s.take 200) _ _ hem1 (by rw [← htkm1]; exact (At.take_mapI (hS.ext cx.upd.to_ext) m1)) (by rw [List.length_take]; omega)).mono ?_
      rintro e W1 ⟨A4, c4, fp4, rfl, hc⟩
      refine ⟨_, rfl, post_st [eMd (s.take 200) A4 fp4] rfl rfl hc (fun σ β' X' hs hb hv hN => ?_)⟩
      have hv1 := (hv 25 rfl).1; have hv2 := (hv 25 rfl).2
      exact ⟨hv1.trans (by rw [hv2]; rfl), (by rw [hv2]; exact eMd_self ((List.cons.inj hN).1))⟩
    · refine sv_any rfl rfl fun ρ β W X cx => ?_
      exact dv_alloc (cs := #[.slice none 0 0]) rfl (by kernel_rfl) rfl rfl (fun σ β' X' hs hb hv hx => ⟨hv, hx⟩)
    · refine sv_any rfl rfl fun ρ β W X cx => ?_
      exact dv_store (n := 1) rfl (dTn (cx.an 6)).1 (dTn (cx.an 5)).1 (by kernel_rfl) (by kernel_rfl) (by kernel_rfl) cx (dTn (cx.an 6)).2 rfl (nle rfl) (by kernel_rfl) rfl rfl rfl (fun σ β' X' hs hb hx => by rw [hb 8, hb 25]; exact hx)
  intro σ β X W3 hD hst3 fr hfr
  obtain ⟨A25_3, hu_A25_3⟩ : ∃ z, sA (tg (β 25) 0) = z := ⟨_, rfl⟩
  obtain ⟨c25_3, hu_c25_3⟩ : ∃ z, sC (tg (β 25) 0) = z := ⟨_, rfl⟩
  obtain ⟨B8_3, hu_B8_3⟩ : ∃ z, pb (β 8) = z := ⟨_, rfl⟩
  have xX0 : X 0 = _ := (dTn (hD 5 lq)).2
  obtain ⟨r0_3, hu_r0_3⟩ : ∃ z, (X 0).fp = z := ⟨_, rfl⟩
  rw [hu_r0_3] at xX0
  clear hu_r0_3
  simp only [xX0, exq 2 ((dTn (hD 7 lq))), hu_A25_3, hu_c25_3, hu_B8_3] at hst3
  simp only [ed 25 ((dTn (hD 5 lq)).1), ed 8 ((dTn (hD 6 lq)).1), hu_A25_3, hu_c25_3, hu_B8_3] at hfr
  clear hD xX0 hu_A25_3 hu_c25_3 hu_B8_3; subst hfr; clear σ β X
  refine then_normal (wp_seq ?_)
  obtain ⟨m2, hminm2, htkm2, hlem2, hem2⟩ := cut_len stand 128
  refine wp_region_Y [0, 0, 2, 6, 15, 31, 0, 127] [[], [], [], [], [], [], [], [2]] [[], [], [], [], [], [], [2], [3]] [[], [], [], [], [], [], [], [2]] [.k 26 (.slice TA stand.length tc), .k 27 (.slice TA stand.length tc), .k 28 (vi ((stand.length : Int))), .c 29 (vi ((m2 : Int))), .c 30 (.slice TA m2 tc), .c 31 (.agg ((stdT (stand.take 128)).map (Value.int .i64)).toArray), .a 9, .n] (fun ix σ β X => match ix with | 0 => True | 1 => True | 2 => True | 3 => True | 4 => True | 5 => True | 6 => σ 9 = vp (pb (β 9)) ∧ X 2 = eB (pb (β 9)) 34 ((List.replicate 128 (0 : Int)).map (Value.int .i64)).toArray | 7 => X 3 = eB (pb (β 9)) 34 ((stdT (stand.take 128)).map (Value.int .i64)).toArray | _ => True) [0, 1, 3] [3, 4, 5, 6, 7] [(9, 6, 1, 10), (16, 0, 6, 22)] hst3 ?_ ?_ ?_
  · exact fun ix _ _ _ _ _ _ hs hb hx h => match ix, h with
    | 6, h => by dsimp only at h ⊢; rw [← hs 9 rfl, ← hb 9 rfl, ← hx 2 rfl]; exact h
    | 7, h => by dsimp only at h ⊢; rw [← hb 9 rfl, ← hx 3 rfl]; exact h
    | 0, _ | 1, _ | 2, _ | 3, _ | 4, _ | 5, _ | _ + 8, _ => trivial
  · refine ⟨?_, ?_, ?_, ?_, ?_, trivial⟩
    · exact xs4 rfl id fun cx => run_min2 rfl (cx.an 2) (cx.co _) (hminm2)
    · exact xs4 rfl id fun cx => run_sliceL_hi (e := 3) (sz := 1) (m := m2) rfl (by kernel_rfl) (by kernel_rfl) (cx.an 0) (cx.an 3) (by omega) (by omega)
    · exact xsc rfl id rfl rfl fun cx => ⟨_, stand9_n _ _ (stand.take 128) _ _ hem2 (by rw [← htkm2]; exact (At.take_mapI (hT.ext cx.upd.to_ext) m2)) (by rw [List.length_take]; omega), (map1 (cx.an 4))⟩
    · refine sv_any rfl rfl fun ρ β W X cx => ?_
      exact dv_alloc (cs := ((List.replicate 128 (0 : Int)).map (Value.int .i64)).toArray) rfl (by kernel_rfl) rfl rfl (fun σ β' X' hs hb hv hx => ⟨hv, hx⟩)
    · refine sv_any rfl rfl fun ρ β W X cx => ?_
      exact dv_storeL (n := 128) rfl (dTn (cx.an 6)).1 (cx.an 5) (by kernel_rfl) (by simp [stdT_len]) (by simp [stdT_len]) (int_one _) cx (dTn (cx.an 6)).2 rfl rfl rfl rfl (fun σ β' X' hs hb hx => by rw [hb 9]; exact hx)
  intro σ β X W4 hD hst4 fr hfr
  obtain ⟨B9_4, hu_B9_4⟩ : ∃ z, pb (β 9) = z := ⟨_, rfl⟩
  simp only [exq 3 ((dTn (hD 7 lq))), hu_B9_4] at hst4
  simp only [ed 9 ((dTn (hD 6 lq)).1), hu_B9_4] at hfr
  clear hD hu_B9_4; subst hfr; clear σ β X
  refine then_normal (wp_seq ?_)
  obtain ⟨Ps, hPl, hMd, hP⟩ := eMd_at ((hst4.get 0 rfl).holds)
  have hx0 := hst4.ext
  have hB8 := hst4.blk 1 rfl
  have hB9 := hst4.blk 2 rfl
  have hN3 := hN.ext hx0
  have hC3 := hC.ext hx0
  clear hst4
  have hstb := St.start W4
  refine wp_region_Y [0, 1] [] [[0]] [] [.a 32, .a 10] (fun ix σ β X => match ix with | 0 => σ 32 = vp (pb (β 32)) ∧ X 0 = eVMo (pb (β 32)) (rO (X 0)) (0, fun _ => none) | 1 => σ 10 = vp (pb (β 32)) | _ => True) [0] [0, 1] [(10, 1, 1, 11), (21, 0, 1, 22)] hstb ?_ ?_ ?_
  · exact fun ix _ _ _ _ _ _ hs hb hx h => match ix, h with
    | 0, h => by dsimp only at h ⊢; rw [← hs 32 rfl, ← hb 32 rfl, ← hx 0 rfl]; exact h
    | 1, h => by dsimp only at h ⊢; rw [← hs 10 rfl, ← hb 32 rfl]; exact h
    | _ + 2, _ => trivial
  · refine ⟨?_, ?_, trivial⟩
    · refine sv_any rfl rfl fun ρ β W X cx => ?_
      refine DoesU.call (run_callF (args := #[]) rfl cx.sees rfl (by kernel_rfl) map0) ?_
      refine (vnew_o _).mono ?_
      rintro e W1 ⟨b4, q4, rfl, hc⟩
      refine ⟨_, rfl, post_st [eVMo b4 (some q4) (0, fun _ => none)] rfl rfl hc (fun σ β' X' hs hb hv hN => ?_)⟩
      have hv1 := (hv 32 rfl).1; have hv2 := (hv 32 rfl).2
      exact ⟨hv1.trans (by rw [hv2]; rfl), (by rw [hv2]; exact vm_self ((List.cons.inj hN).1))⟩
    · exact sv rfl rfl rfl rfl rfl _ (fun _ _ _ h => h) (fun β β' h => by rw [h 32 (by decide)]) fun ρ β W X cx => run_assign' rfl (dTn (cx.an 0)).1
  intro σ β X W5 hD hst5 fr hfr
  obtain ⟨B32_5, hu_B32_5⟩ : ∃ z, pb (β 32) = z := ⟨_, rfl⟩
  have xX0 : X 0 = _ := (dTn (hD 0 lq)).2
  obtain ⟨r0_5, hu_r0_5⟩ : ∃ z, rO (X 0) = z := ⟨_, rfl⟩
  rw [hu_r0_5] at xX0
  clear hu_r0_5
  simp only [xX0, hu_B32_5] at hst5
  simp only [ed 32 ((dTn (hD 0 lq)).1), ed 10 ((dTn (hD 1 lq))), hu_B32_5] at hfr
  clear hD xX0 hu_B32_5; subst hfr; clear σ β X
  refine then_normal (wp_seq (wp_region_Y [0, 1, 3] [] [[], [1]] [] [.k 33 (.agg #[.slice none 0 0]), .a 34, .a 11] (fun ix σ β X => match ix with | 0 => True | 1 => σ 34 = vp (pb (β 34)) ∧ X 1 = eB (pb (β 34)) 119 #[.slice none 0 0] | 2 => σ 11 = vp (pb (β 34)) | _ => True) [0, 1] [1, 2] [(11, 2, 1, 12), (21, 0, 2, 23)] hst5 ?_ ?_ ?_))
  · exact fun ix _ _ _ _ _ _ hs hb hx h => match ix, h with
    | 1, h => by dsimp only at h ⊢; rw [← hs 34 rfl, ← hb 34 rfl, ← hx 1 rfl]; exact h
    | 2, h => by dsimp only at h ⊢; rw [← hs 11 rfl, ← hb 34 rfl]; exact h
    | 0, _ | _ + 3, _ => trivial
  · refine ⟨?_, ?_, trivial⟩
    · refine sv_any rfl rfl fun ρ β W X cx => ?_
      exact dv_box (cs := #[.slice none 0 0]) rfl (cx.an 0) rfl rfl rfl (fun σ β' X' hs hb hv hx => ⟨hv, hx⟩)
    · exact sv rfl rfl rfl rfl rfl _ (fun _ _ _ h => h) (fun β β' h => by rw [h 34 (by decide)]) fun ρ β W X cx => run_assign' rfl (dTn (cx.an 1)).1
  intro σ β X W6 hD hst6 fr hfr
  obtain ⟨B34_6, hu_B34_6⟩ : ∃ z, pb (β 34) = z := ⟨_, rfl⟩
  simp only [exq 1 ((dTn (hD 1 lq)).2), hu_B34_6] at hst6
  simp only [ed 34 ((dTn (hD 1 lq)).1), ed 11 ((dTn (hD 2 lq))), hu_B34_6] at hfr
  clear hD hu_B34_6; subst hfr; clear σ β X
  refine then_normal (wp_seq (wp_region_P [0] [.k 12 (.pointer none)] [(12, 0, 1, 13)] hst6 fun W7 hst7 => ?_))
  refine then_normal (wp_seq ?_)
  have hm8 := St.repl (L1 := [eVMo B32_5 r0_5 (0, fun _ => none)]) (L2 := []) (E' := eRM B34_6 none []) hst7 rfl (fun h_ => RMAt.fresh h_) (eRM_loc _ _ _)
  simp only [List.cons_append, List.nil_append] at hm8
  refine wp_region_Z [0, 0, 2, 0, 8, 31] [] [.k 35 (.pointer none), .c 36 (.agg #[.slice A25_3 5 c25_3]), .c 37 (.iface 30 (.agg #[.slice A25_3 5 c25_3])), .c 38 (.agg ((stdT (stand.take 128)).map (Value.int .i64)).toArray), .c 39 (.iface 34 (.agg ((stdT (stand.take 128)).map (Value.int .i64)).toArray)), .c 40 (.tuple #[])] [0, 1] [1, 2, 3, 4, 5] [(35, 0, 6, 41)] hm8 ?_ fun W9 hst9 => ?_
  · refine ⟨?_, ?_, ?_, ?_, ?_, trivial⟩
    · exact xs4 rfl id fun cx => run_loadB (n := 1) rfl (by kernel_rfl) (by kernel_rfl) (cx.ou 8) (Blk.ext hB8 cx.upd.to_ext) (nle rfl) rfl
    · exact sv0 rfl rfl rfl rfl rfl (fun _ _ _ h => h) fun ρ β W X cx => by
        have fF36 : ρ (.tmp 36) = .agg #[.slice A25_3 5 c25_3] := (cx.an 1)
        simp [go_sem, fF36]
    · exact xs4 rfl id fun cx => run_loadAr (n := 128) rfl (by kernel_rfl) (by kernel_rfl) (cx.ou 9) (Blk.ext hB9 cx.upd.to_ext) (by simp [stdT_len])
    · exact sv0 rfl rfl rfl rfl rfl (fun _ _ _ h => h) fun ρ β W X cx => by
        have fF38 : ρ (.tmp 38) = .agg ((stdT (stand.take 128)).map (Value.int .i64)).toArray := (cx.an 3)
        simp [go_sem, fF38]
    · exact xsc rfl id rfl rfl fun cx => ⟨_, vlook_nil _ _ 0 40 _ _ _, (map5 (cx.an 0) (cx.an 2) (cx.co _) (cx.co _) (cx.an 4))⟩
  refine then_normal (wp_seq (wp_region_Z [0, 1] [] [.k 41 (.pointer none), .c 42 (.tuple #[])] [0, 1] [1] [(41, 0, 2, 43)] hst9 ?_ fun W10 hst10 => ?_))
  · refine ⟨?_, trivial⟩
    · exact xsc rfl id rfl rfl fun cx => ⟨_, vchange_nil 0 _, (map2 (cx.an 0) (cx.co _))⟩
  refine then_normal (wp_seq (wp_seq (wp_region_P [0] [.k 13 (vi 0)] [(13, 0, 1, 14)] hst10 fun W11 hst11 => ?_)))
  refine then_normal (wp_block ?_)
  refine wp_loopN (fun mz az W => ∃ i : Nat, ∃ rV : Option Nat, ∃ nn : Nat, ∃ m : Int → Option KN, ∃ rR : Option Nat, ∃ L : List KD, ∃ u12_ : List Value, nn ≤ i ∧ L.length ≤ i ∧ Agr m L ∧ mz = 30 - i ∧ az = ⟨#[.slice SA s.length sc, .slice TA stand.length tc, .slice CA cs.length cc, undef, undef, undef, (gu u12_ 0), .bool true, vp B8_3, vp B9_4, vp B32_5, vp B34_6, .pointer none, vi ((i : Int)), (gu u12_ 1), (gu u12_ 2), (gu u12_ 3), (gu u12_ 4), (gu u12_ 5), .bool true, .slice SA s.length sc, .slice SA s.length sc, vi ((s.length : Int)), vi ((m1 : Int)), .slice SA m1 sc, .agg #[.slice A25_3 5 c25_3], .slice TA stand.length tc, .slice TA stand.length tc, vi ((stand.length : Int)), vi ((m2 : Int)), .slice TA m2 tc, .agg ((stdT (stand.take 128)).map (Value.int .i64)).toArray, vp B32_5, .agg #[.slice none 0 0], vp B34_6, .pointer none, .agg #[.slice A25_3 5 c25_3], .iface 30 (.agg #[.slice A25_3 5 c25_3]), .agg ((stdT (stand.take 128)).map (Value.int .i64)).toArray, .iface 34 (.agg ((stdT (stand.take 128)).map (Value.int .i64)).toArray), .tuple #[], .pointer none, .tuple #[], (gu u12_ 6), (gu u12_ 7), (gu u12_ 8), (gu u12_ 9), (gu u12_ 10), (gu u12_ 11), (gu u12_ 12), (gu u12_ 13), (gu u12_ 14), (gu u12_ 15), (gu u12_ 16), (gu u12_ 17), (gu u12_ 18), (gu u12_ 19), (gu u12_ 20), (gu u12_ 21), (gu u12_ 22), (gu u12_ 23), (gu u12_ 24), (gu u12_ 25), (gu u12_ 26), (gu u12_ 27), (gu u12_ 28), (gu u12_ 29), (gu u12_ 30), (gu u12_ 31), (gu u12_ 32), (gu u12_ 33), (gu u12_ 34), (gu u12_ 35), (gu u12_ 36), (gu u12_ 37), (gu u12_ 38), (gu u12_ 39), (gu u12_ 40), (gu u12_ 41), (gu u12_ 42), (gu u12_ 43), (gu u12_ 44), (gu u12_ 45), (gu u12_ 46), (gu u12_ 47), (gu u12_ 48), (gu u12_ 49), (gu u12_ 50), (gu u12_ 51), (gu u12_ 52), (gu u12_ 53), (gu u12_ 54), (gu u12_ 55), (gu u12_ 56), (gu u12_ 57), (gu u12_ 58), (gu u12_ 59), (gu u12_ 60), (gu u12_ 61), (gu u12_ 62), (gu u12_ 63), (gu u12_ 64), (gu u12_ 65), (gu u12_ 66), (gu u12_ 67), (gu u12_ 68), (gu u12_ 69), (gu u12_ 70), (gu u12_ 71), (gu u12_ 72), (gu u12_ 73), (gu u12_ 74), (gu u12_ 75), (gu u12_ 76), (gu u12_ 77), (gu u12_ 78), (gu u12_ 79), (gu u12_ 80), (gu u12_ 81), (gu u12_ 82), (gu u12_ 83), (gu u12_ 84), (gu u12_ 85), (gu u12_ 86), (gu u12_ 87), (gu u12_ 88), (gu u12_ 89), (gu u12_ 90), (gu u12_ 91), (gu u12_ 92), (gu u12_ 93), (gu u12_ 94), (gu u12_ 95), (gu u12_ 96), (gu u12_ 97), (gu u12_ 98), (gu u12_ 99), (gu u12_ 100), (gu u12_ 101), (gu u12_ 102), (gu u12_ 103), (gu u12_ 104), (gu u12_ 105), (gu u12_ 106), (gu u12_ 107), (gu u12_ 108), (gu u12_ 109), (gu u12_ 110), (gu u12_ 111), (gu u12_ 112), (gu u12_ 113), (gu u12_ 114), (gu u12_ 115), undef, undef, undef, undef, undef, undef, undef], []⟩ ∧ St W4 [] [eVMo B32_5 rV (nn, m), eRM B34_6 rR L] W) (30 - 0) ?_ ?_
  · -- the loop begins
    have hp13 := hst11.pick [0, 1] (by decide) rfl
    exact ⟨0, r0_5, 0, (fun _ => none), none, [], [.bool false, undef, undef, undef, undef, undef, undef, undef, undef, undef, undef, undef, undef, undef, undef, undef, undef, undef, undef, undef, undef, undef, undef, undef, undef, undef, undef, undef, undef, undef, undef, undef, undef, undef, undef, undef, undef, undef, undef, undef, undef, undef, undef, undef, undef, undef, undef, undef, undef, undef, undef, undef, undef, undef, undef, undef, undef, undef, undef, undef, undef, undef, undef, undef, undef, undef, undef, undef, undef, undef, undef, undef, undef, undef, undef, undef, undef, undef, undef, undef, undef, undef, undef, undef, undef, undef, undef, undef, undef, undef, undef, undef, undef, undef, undef, undef, undef, undef, undef, undef, undef, undef, undef, undef, undef, undef, undef, undef, undef, undef, undef, undef, undef, undef, undef, undef], Nat.le_refl _, Nat.le_refl _, agr_nil, rfl, rfl, hp13⟩
  rintro n12 a12 W12 ⟨i, rV, nn, m, rR, L, u12_, hnn, hLl, hag, rfl, rfl, hst12⟩
  refine wp_seq (wp_seq (wp_region_P [0, 0, 2, 7, 15, 31, 63, 127] [.k 43 (vi ((i : Int))), .k 44 (.slice CA cs.length cc), .k 45 (vi ((cs.length : Int))), .k 46 (.bool (decide ((i : Int) < (cs.length : Int)))), .k 47 (.bool (decide ((i : Int) < (cs.length : Int)))), .z 48 (decide ((i : Int) < (cs.length : Int))) (vi ((i : Int))), .z 49 (decide ((i : Int) < (cs.length : Int))) (.bool (decide ((i : Int) < 30))), tA 50 (decide ((i : Int) < (cs.length : Int))) (decide ((i : Int) < 30))] [(43, 0, 8, 51)] hst12 fun W14 hst14 => ?_))
  refine then_normal ?_
  rcases Bool.eq_false_or_eq_true ((decide ((i : Int) < (cs.length : Int))) && (decide ((i : Int) < 30))) with hs15 | hs15
  · skip
    have hs15p := hs15
    simp only [zB] at hs15p
    obtain ⟨hs15p1, hs15p2⟩ := hs15p
    refine wp_cond_true (show Act.eval _ _ = .bool true from (congrArg Value.bool hs15)) (wp_skip (then_normal (wp_seq (wp_block (wp_seq ?_)))))
    have hcb := t3_bd hCb (i := i) (by omega)
    refine wp_region_Y [0, 0, 3, 7, 0, 31] [[], [], [], [], [], [2]] [[], [], [], [], [2], [3]] [[], [], [], [], [], [2]] [.k 53 (.slice CA cs.length cc), .k 54 (vi ((i : Int))), .c 55 (.pointer (some ((ad CA).add (i * 3)))), .c 56 (.agg #[vi ((cs.getD i t30).1), vi ((cs.getD i t30).2.1), vi ((cs.getD i t30).2.2)]), .a 14, .n] (fun ix σ β X => match ix with | 0 => True | 1 => True | 2 => True | 3 => True | 4 => σ 14 = vp (pb (β 14)) ∧ X 2 = eB (pb (β 14)) 122 #[vi 0, vi 0, vi 0] | 5 => X 3 = eB (pb (β 14)) 122 #[vi ((cs.getD i t30).1), vi ((cs.getD i t30).2.1), vi ((cs.getD i t30).2.2)] | _ => True) [0, 1, 3] [2, 3, 4, 5] [(14, 4, 1, 15), (38, 0, 4, 42)] hst14 ?_ ?_ ?_
    · exact fun ix _ _ _ _ _ _ hs hb hx h => match ix, h with
      | 4, h => by dsimp only at h ⊢; rw [← hs 14 rfl, ← hb 14 rfl, ← hx 2 rfl]; exact h
      | 5, h => by dsimp only at h ⊢; rw [← hb 14 rfl, ← hx 3 rfl]; exact h
      | 0, _ | 1, _ | 2, _ | 3, _ | _ + 6, _ => trivial
    · refine ⟨?_, ?_, ?_, ?_, trivial⟩
      · exact xs4 rfl id fun cx => run_indexSlM (e := 122) (m := i) (sz := 3) rfl (by kernel_rfl) (by kernel_rfl) (cx.an 0) (cx.an 1) (by omega) (by omega) (hC3.ext cx.upd.to_ext) (by have h_ := flatLen (f := t3C) (sz := 3) t3C_len cs; show 0 < (List.flatMap t3C cs).length; omega)
      · exact xs4 rfl id fun cx => run_loadElt (f := t3C) (m := i) (sz := 3) (off := 0) (n := 3) rfl (by kernel_rfl) (by kernel_rfl) (cx.an 2) rfl t3C_len (hC3.ext cx.upd.to_ext) (getD_some (ts := cs) (m := i) t30 (by omega)) (fun k hk => match k, hk with | 0, _ => rfl | 1, _ => rfl | 2, _ => rfl | k + 3, hk => absurd hk (by omega))
      · refine sv_any rfl rfl fun ρ β W X cx => ?_
        exact dv_alloc (cs := #[vi 0, vi 0, vi 0]) rfl (by kernel_rfl) rfl rfl (fun σ β' X' hs hb hv hx => ⟨hv, hx⟩)
      · refine sv_any rfl rfl fun ρ β W X cx => ?_
        exact dv_store (n := 3) rfl (dTn (cx.an 4)).1 (cx.an 3) (by kernel_rfl) (by kernel_rfl) (by kernel_rfl) cx (dTn (cx.an 4)).2 rfl (nle rfl) (by kernel_rfl) rfl rfl rfl (fun σ β' X' hs hb hx => by rw [hb 14]; exact hx)
    intro σ β X W16 hD hst16 fr hfr
    obtain ⟨B14_16, hu_B14_16⟩ : ∃ z, pb (β 14) = z := ⟨_, rfl⟩
    simp only [exq 3 ((dTn (hD 5 lq))), hu_B14_16] at hst16
    simp only [ed 14 ((dTn (hD 4 lq)).1), hu_B14_16] at hfr
    clear hD hu_B14_16; subst hfr; clear σ β X
    refine then_normal (wp_seq ?_)
    obtain ⟨c, hN_c⟩ : ∃ z, (cs.getD i t30) = z := ⟨_, rfl⟩
    rw [hN_c]
    rw [hN_c] at hcb hst16
    have hm8 := tmod_bd c.2.1 (b := 8) (by decide)
    have hm50 := tmod_bd c.2.2 (b := 50) (by decide)
    have hm3 := tmod_bd c.1 (b := 3) (by decide)
    refine wp_region_Z [0, 1, 3, 7, 15, 31, 63] [[], [2]] [.c 57 (.pointer (some ⟨B14_16, 1, none⟩)), .c 58 (vi c.2.1), tRe 59 .i64 c.2.1 8 (c.2.1.tmod 8) (rfl), tI 60 ((c.2.1.tmod 8) + 8) (by omega), tRe 61 .i64 (c.2.1.tmod 8 + 8) 8 ((c.2.1.tmod 8 + 8) % 8) (Int.tmod_eq_emod_of_nonneg (by omega)), tI 62 (((c.2.1.tmod 8 + 8) % 8) - 1) (by omega), .k 15 (vi ((c.2.1.tmod 8 + 8) % 8 - 1))] [0, 1, 2] [0, 1] [(15, 6, 1, 16), (41, 0, 6, 47)] hst16 ?_ fun W17 hst17 => ?_
    · refine ⟨?_, ?_, trivial⟩
      · exact xs4 rfl id fun cx => run_indexArrB (n := 3) (sz := 1) (m := 1) (q := 1) rfl (by kernel_rfl) (cx.ou 14) (cx.co _) (by omega) (by omega) (by omega)
      · exact xs4 rfl id fun cx => run_load1 rfl (by kernel_rfl) (cx.an 0) ((cx.bi 2 rfl).cell 1)
    refine then_normal (wp_seq (wp_region_Z [0, 1, 3, 7, 15, 31, 63] [[], [2]] [.c 63 (.pointer (some ⟨B14_16, 2, none⟩)), .c 64 (vi c.2.2), tRe 65 .i64 c.2.2 50 (c.2.2.tmod 50) (rfl), tI 66 ((c.2.2.tmod 50) + 50) (by omega), tRe 67 .i64 (c.2.2.tmod 50 + 50) 50 ((c.2.2.tmod 50 + 50) % 50) (Int.tmod_eq_emod_of_nonneg (by omega)), tI 68 (3 + ((c.2.2.tmod 50 + 50) % 50)) (by omega), .k 16 (vi (3 + ((c.2.2.tmod 50 + 50) % 50)))] [0, 1, 2] [0, 1] [(16, 6, 1, 17), (46, 0, 6, 52)] hst17 ?_ fun W18 hst18 => ?_))
    · refine ⟨?_, ?_, trivial⟩
      · exact xs4 rfl id fun cx => run_indexArrB (n := 3) (sz := 1) (m := 2) (q := 2) rfl (by kernel_rfl) (cx.ou 14) (cx.co _) (by omega) (by omega) (by omega)
      · exact xs4 rfl id fun cx => run_load1 rfl (by kernel_rfl) (cx.an 0) ((cx.bi 2 rfl).cell 2)
    refine then_normal ?_
    refine wp_cut (fun az W => ∃ rV2 : Option Nat, ∃ nJ : Nat, ∃ mJ : Int → Option KN, ∃ rR2 : Option Nat, ∃ L2 : List KD, ∃ u19_ : List Value, nJ ≤ i + 1 ∧ L2.length ≤ i + 1 ∧ Agr mJ L2 ∧ az = ⟨#[.slice SA s.length sc, .slice TA stand.length tc, .slice CA cs.length cc, undef, undef, undef, (gu u12_ 0), .bool true, vp B8_3, vp B9_4, vp B32_5, vp B34_6, .pointer none, vi ((i : Int)), vp B14_16, vi ((c.2.1.tmod 8 + 8) % 8 - 1), vi (3 + ((c.2.2.tmod 50 + 50) % 50)), (gu u12_ 4), (gu u12_ 5), .bool true, .slice SA s.length sc, .slice SA s.length sc, vi ((s.length : Int)), vi ((m1 : Int)), .slice SA m1 sc, .agg #[.slice A25_3 5 c25_3], .slice TA stand.length tc, .slice TA stand.length tc, vi ((stand.length : Int)), vi ((m2 : Int)), .slice TA m2 tc, .agg ((stdT (stand.take 128)).map (Value.int .i64)).toArray, vp B32_5, .agg #[.slice none 0 0], vp B34_6, .pointer none, .agg #[.slice A25_3 5 c25_3], .iface 30 (.agg #[.slice A25_3 5 c25_3]), .agg ((stdT (stand.take 128)).map (Value.int .i64)).toArray, .iface 34 (.agg ((stdT (stand.take 128)).map (Value.int .i64)).toArray), .tuple #[], .pointer none, .tuple #[], vi ((i : Int)), .slice CA cs.length cc, vi ((cs.length : Int)), .bool (decide ((i : Int) < (cs.length : Int))), .bool (decide ((i : Int) < (cs.length : Int))), mb (decide ((i : Int) < (cs.length : Int))) (vi ((i : Int))), mb (decide ((i : Int) < (cs.length : Int))) (.bool (decide ((i : Int) < 30))), .bool ((decide ((i : Int) < (cs.length : Int))) && (decide ((i : Int) < 30))), (gu u12_ 14), (gu u12_ 15), .slice CA cs.length cc, vi ((i : Int)), .pointer (some ((ad CA).add (i * 3))), .agg #[vi (c.1), vi (c.2.1), vi (c.2.2)], .pointer (some ⟨B14_16, 1, none⟩), vi c.2.1, vi (c.2.1.tmod 8), vi (c.2.1.tmod 8 + 8), vi ((c.2.1.tmod 8 + 8) % 8), vi ((c.2.1.tmod 8 + 8) % 8 - 1), .pointer (some ⟨B14_16, 2, none⟩), vi c.2.2, vi (c.2.2.tmod 50), vi (c.2.2.tmod 50 + 50), vi ((c.2.2.tmod 50 + 50) % 50), vi (3 + ((c.2.2.tmod 50 + 50) % 50)), (gu u19_ 0), (gu u19_ 1), (gu u19_ 2), (gu u19_ 3), (gu u19_ 4), (gu u19_ 5), (gu u19_ 6), (gu u19_ 7), (gu u19_ 8), (gu u19_ 9), (gu u19_ 10), (gu u19_ 11), (gu u19_ 12), (gu u19_ 13), (gu u19_ 14), (gu u19_ 15), (gu u19_ 16), (gu u19_ 17), (gu u19_ 18), (gu u19_ 19), (gu u19_ 20), (gu u19_ 21), (gu u19_ 22), (gu u19_ 23), (gu u19_ 24), (gu u19_ 25), (gu u19_ 26), (gu u19_ 27), (gu u12_ 60), (gu u12_ 61), (gu u12_ 62), (gu u12_ 63), (gu u12_ 64), (gu u12_ 65), (gu u12_ 66), (gu u12_ 67), (gu u12_ 68), (gu u12_ 69), (gu u12_ 70), (gu u12_ 71), (gu u12_ 72), (gu u12_ 73), (gu u12_ 74), (gu u12_ 75), (gu u12_ 76), (gu u12_ 77), (gu u12_ 78), (gu u12_ 79), (gu u12_ 80), (gu u12_ 81), (gu u12_ 82), (gu u12_ 83), (gu u12_ 84), (gu u12_ 85), (gu u12_ 86), (gu u12_ 87), (gu u12_ 88), (gu u12_ 89), (gu u12_ 90), (gu u12_ 91), (gu u12_ 92), (gu u12_ 93), (gu u12_ 94), (gu u12_ 95), (gu u12_ 96), (gu u12_ 97), (gu u12_ 98), (gu u12_ 99), (gu u12_ 100), (gu u12_ 101), (gu u12_ 102), (gu u12_ 103), (gu u12_ 104), (gu u12_ 105), (gu u12_ 106), (gu u12_ 107), (gu u12_ 108), (gu u12_ 109), (gu u12_ 110), (gu u12_ 111), (gu u12_ 112), (gu u12_ 113), (gu u12_ 114), (gu u12_ 115), undef, undef, undef, undef, undef, undef, undef], []⟩ ∧ St W4 [] [eVMo B32_5 rV2 (nJ, mJ), eRM B34_6 rR2 L2, eB B14_16 122 #[vi c.1, vi c.2.1, vi c.2.2]] W) ?_ ?_
    · skip
      refine wp_seq (wp_region_Z [0, 1, 3, 7, 15] [[], [2]] [.c 69 (vp B14_16), .c 70 (vi c.1), tRe 71 .i64 c.1 3 (c.1.tmod 3) (rfl), tI 72 ((c.1.tmod 3) + 3) (by omega), tRe 73 .i64 (c.1.tmod 3 + 3) 3 ((c.1.tmod 3 + 3) % 3) (Int.tmod_eq_emod_of_nonneg (by omega))] [0, 1, 2] [0, 1] [(69, 0, 5, 74)] hst18 ?_ fun W20 hst20 => ?_)
      · refine ⟨?_, ?_, trivial⟩
        · exact xs4 rfl id fun cx => run_indexArrB (n := 3) (sz := 1) (m := 0) (q := 0) rfl (by kernel_rfl) (cx.ou 14) (cx.co _) (by omega) (by omega) (by omega)
        · exact xs4 rfl id fun cx => run_load1 rfl (by kernel_rfl) (cx.an 0) ((cx.bi 2 rfl).cell 0)
      refine then_normal (wp_block (wp_seq (wp_seq (wp_region_P [0, 1] [.k 81 (.bool (((c.1.tmod 3 + 3) % 3) == 0)), .k 80 (.bool (((c.1.tmod 3 + 3) % 3) == 0))] [(80, 1, 1, 81), (0, 0, 1, 1)] hst20 fun W21 hst21 => ?_))))
      refine then_normal ?_
      rcases Bool.eq_false_or_eq_true (((c.1.tmod 3 + 3) % 3) == 0) with hs22 | hs22
      · skip
        have hs22p : ((c.1.tmod 3 + 3) % 3) = 0 := by simpa using hs22
        refine wp_cond_true (show Act.eval _ _ = .bool true from (congrArg Value.bool hs22)) (wp_skip (then_normal (wp_cond_true (show Act.eval _ _ = .bool true from (congrArg Value.bool hs22)) (wp_seq (wp_region_Y [0, 0, 2, 0, 0, 0, 32, 127] [[], [], [], [], [], [], [], [0]] [[], [], [], [], [], [], [], [3]] [[], [], [], [], [], [], [], [0]] [.k 83 (vp B32_5), .c 84 (.agg #[.slice A25_3 5 c25_3]), .c 85 (.iface 30 (.agg #[.slice A25_3 5 c25_3])), .k 86 (vi ((c.2.1.tmod 8 + 8) % 8 - 1)), .k 87 (vi (3 + ((c.2.2.tmod 50 + 50) % 50))), .c 88 (.agg ((stdT (stand.take 128)).map (Value.int .i64)).toArray), .c 89 (.iface 34 (.agg ((stdT (stand.take 128)).map (Value.int .i64)).toArray)), .a 90] (fun ix σ β X => match ix with | 0 => True | 1 => True | 2 => True | 3 => True | 4 => True | 5 => True | 6 => True | 7 => σ 90 = .tuple #[] ∧ X 3 = eVMo B32_5 (rO (X 3)) (nn + 1, putM m ((c.2.1.tmod 8 + 8) % 8 - 1) (some (lookF (tabF (stdT (stand.take 128))) (3 + ((c.2.2.tmod 50 + 50) % 50)) (pvF Ps ((c.2.1.tmod 8 + 8) % 8 - 1))))) | _ => True) [1, 2, 3] [1, 2, 5, 6, 7] [(83, 0, 8, 91)] hst21 ?_ ?_ ?_)))))
        · exact fun ix _ _ _ _ _ _ hs hb hx h => match ix, h with
          | 7, h => by dsimp only at h ⊢; rw [← hs 90 rfl, ← hx 3 rfl]; exact h
          | 0, _ | 1, _ | 2, _ | 3, _ | 4, _ | 5, _ | 6, _ | _ + 8, _ => trivial
        · refine ⟨?_, ?_, ?_, ?_, ?_, trivial⟩
          · exact xs4 rfl id fun cx => run_loadB (n := 1) rfl (by kernel_rfl) (by kernel_rfl) (cx.ou 8) (Blk.ext hB8 cx.upd.to_ext) (nle rfl) rfl
          · exact sv0 rfl rfl rfl rfl rfl (fun _ _ _ h => h) fun ρ β W X cx => by
              have fF84 : ρ (.tmp 84) = .agg #[.slice A25_3 5 c25_3] := (cx.an 1)
              simp [go_sem, fF84]
          · exact xs4 rfl id fun cx => run_loadAr (n := 128) rfl (by kernel_rfl) (by kernel_rfl) (cx.ou 9) (Blk.ext hB9 cx.upd.to_ext) (by simp [stdT_len])
          · exact sv0 rfl rfl rfl rfl rfl (fun _ _ _ h => h) fun ρ β W X cx => by
              have fF88 : ρ (.tmp 88) = .agg ((stdT (stand.take 128)).map (Value.int .i64)).toArray := (cx.an 5)
              simp [go_sem, fF88]
          · refine sv_any rfl rfl fun ρ β W X cx => ?_
            refine DoesU.call (run_callF (args := #[vp B32_5, .iface 30 (.agg #[.slice A25_3 5 c25_3]), vi ((c.2.1.tmod 8 + 8) % 8 - 1), vi (3 + ((c.2.2.tmod 50 + 50) % 50)), .iface 34 (.agg ((stdT (stand.take 128)).map (Value.int .i64)).toArray)]) rfl cx.sees rfl (by kernel_rfl) (map5 (cx.an 0) (cx.an 2) (cx.an 3) (cx.an 4) (cx.an 6))) ?_
            refine (vlook_o (CtxV.holdE cx (cx.init 0 _ rfl) rfl) _ _ (pvF Ps) ((c.2.1.tmod 8 + 8) % 8 - 1) (3 + ((c.2.2.tmod 50 + 50) % 50)) _ _ (tabF (stdT (stand.take 128))) (by omega) (by omega) ((rpages_ok _ _ Ps _ hP).ext cx.upd.to_ext |> fun h_ => by rw [hPl] at h_; exact h_) ((table_ok _ _ (stdT_len _)).ext cx.upd.to_ext) (hN3.ext cx.upd.to_ext)).mono ?_
            rintro e W1 ⟨rfl, hu⟩
            refine ⟨_, rfl, post_vm (by rw [(cx.init 0 _ rfl)]; rfl) rfl rfl hu (fun σ β' X' hs hb hv hx => ?_)⟩
            exact ⟨(hv 90 rfl).1, hx⟩
        intro σ β X W23 hD hst23 fr hfr
        have xX3 : X 3 = _ := (dTn (hD 7 lq)).2
        obtain ⟨r3_23, hu_r3_23⟩ : ∃ z, rO (X 3) = z := ⟨_, rfl⟩
        rw [hu_r3_23] at xX3
        clear hu_r3_23
        simp only [xX3] at hst23
        simp only [ed 90 ((dTn (hD 7 lq)).1)] at hfr
        clear hD xX3; subst hfr; clear σ β X
        refine then_normal (wp_region_Y [0, 0, 0, 0, 0, 31] [[], [], [], [], [], [0]] [[], [], [], [], [], [3]] [[], [], [], [], [], [0]] [.k 91 (vp B34_6), .c 92 (.agg #[.slice A25_3 5 c25_3]), .k 93 (vi ((c.2.1.tmod 8 + 8) % 8 - 1)), .k 94 (vi (3 + ((c.2.2.tmod 50 + 50) % 50))), .c 95 (.agg ((stdT (stand.take 128)).map (Value.int .i64)).toArray), .a 96] (fun ix σ β X => match ix with | 0 => True | 1 => True | 2 => True | 3 => True | 4 => True | 5 => σ 96 = .tuple #[] ∧ X 3 = eRM B34_6 (rO (X 3)) (chL L ((c.2.1.tmod 8 + 8) % 8 - 1) ++ [knR (tabF (stdT (stand.take 128))) (3 + ((c.2.2.tmod 50 + 50) % 50)) ((c.2.1.tmod 8 + 8) % 8 - 1) (pvF Ps ((c.2.1.tmod 8 + 8) % 8 - 1))]) | _ => True) [1, 2, 3] [1, 4, 5] [(91, 0, 6, 97)] hst23 ?_ ?_ ?_)
        · exact fun ix _ _ _ _ _ _ hs hb hx h => match ix, h with
          | 5, h => by dsimp only at h ⊢; rw [← hs 96 rfl, ← hx 3 rfl]; exact h
          | 0, _ | 1, _ | 2, _ | 3, _ | 4, _ | _ + 6, _ => trivial
        · refine ⟨?_, ?_, ?_, trivial⟩
          · exact xs4 rfl id fun cx => run_loadB (n := 1) rfl (by kernel_rfl) (by kernel_rfl) (cx.ou 8) (Blk.ext hB8 cx.upd.to_ext) (nle rfl) rfl
          · exact xs4 rfl id fun cx => run_loadAr (n := 128) rfl (by kernel_rfl) (by kernel_rfl) (cx.ou 9) (Blk.ext hB9 cx.upd.to_ext) (by simp [stdT_len])
          · refine sv_any rfl rfl fun ρ β W X cx => ?_
            refine DoesU.call (run_callF (args := #[vp B34_6, .agg #[.slice A25_3 5 c25_3], vi ((c.2.1.tmod 8 + 8) % 8 - 1), vi (3 + ((c.2.2.tmod 50 + 50) % 50)), .agg ((stdT (stand.take 128)).map (Value.int .i64)).toArray]) rfl cx.sees rfl (by kernel_rfl) (map5 (cx.an 0) (cx.an 1) (cx.an 2) (cx.an 3) (cx.an 4))) ?_
            refine (rlook_n _ _ L _ _ Ps ((c.2.1.tmod 8 + 8) % 8 - 1) (3 + ((c.2.2.tmod 50 + 50) % 50)) _ (tabF (stdT (stand.take 128))) _ hPl (CtxV.holdE cx (cx.init 0 _ rfl) rfl) (by omega) (fun W hW => hP.ext (CtxV.far cx (cx.init 0 _ rfl) rfl hW)) (stdT_len _) (fun _ => rfl)).mono ?_
            rintro e W1 ⟨rfl, hu⟩
            refine ⟨_, rfl, post_rm (by rw [(cx.init 0 _ rfl)]; rfl) rfl rfl hu (fun σ β' X' hs hb hv hx => ?_)⟩
            exact ⟨(hv 96 rfl).1, hx⟩
        intro σ β X W24 hD hst24 fr hfr
        have xX3 : X 3 = _ := (dTn (hD 5 lq)).2
        obtain ⟨r3_24, hu_r3_24⟩ : ∃ z, rO (X 3) = z := ⟨_, rfl⟩
        rw [hu_r3_24] at xX3
        clear hu_r3_24
        simp only [xX3] at hst24
        simp only [ed 96 ((dTn (hD 5 lq)).1)] at hfr
        clear hD xX3; subst hfr; clear σ β X
        refine blk_normal (then_normal ?_)
        have hp25 := hst24.pick [1, 2, 0] (by decide) rfl
        exact ⟨r3_23, nn + 1, (putM m ((c.2.1.tmod 8 + 8) % 8 - 1) (some (lookF (tabF (stdT (stand.take 128))) (3 + ((c.2.2.tmod 50 + 50) % 50)) (pvF Ps ((c.2.1.tmod 8 + 8) % 8 - 1))))), r3_24, (chL L ((c.2.1.tmod 8 + 8) % 8 - 1) ++ [knR (tabF (stdT (stand.take 128))) (3 + ((c.2.2.tmod 50 + 50) % 50)) ((c.2.1.tmod 8 + 8) % 8 - 1) (pvF Ps ((c.2.1.tmod 8 + 8) % 8 - 1))]), [vp B14_16, vi c.1, vi (c.1.tmod 3), vi (c.1.tmod 3 + 3), vi ((c.1.tmod 3 + 3) % 3), (gu u12_ 37), (gu u12_ 38), (gu u12_ 39), (gu u12_ 40), (gu u12_ 41), (gu u12_ 42), .bool (((c.1.tmod 3 + 3) % 3) == 0), .bool (((c.1.tmod 3 + 3) % 3) == 0), (gu u12_ 45), vp B32_5, .agg #[.slice A25_3 5 c25_3], .iface 30 (.agg #[.slice A25_3 5 c25_3]), vi ((c.2.1.tmod 8 + 8) % 8 - 1), vi (3 + ((c.2.2.tmod 50 + 50) % 50)), .agg ((stdT (stand.take 128)).map (Value.int .i64)).toArray, .iface 34 (.agg ((stdT (stand.take 128)).map (Value.int .i64)).toArray), .tuple #[], vp B34_6, .agg #[.slice A25_3 5 c25_3], vi ((c.2.1.tmod 8 + 8) % 8 - 1), vi (3 + ((c.2.2.tmod 50 + 50) % 50)), .agg ((stdT (stand.take 128)).map (Value.int .i64)).toArray, .tuple #[]], by omega, by have := agr_len (L := L) ((c.2.1.tmod 8 + 8) % 8 - 1) (knR (tabF (stdT (stand.take 128))) (3 + ((c.2.2.tmod 50 + 50) % 50)) ((c.2.1.tmod 8 + 8) % 8 - 1) (pvF Ps ((c.2.1.tmod 8 + 8) % 8 - 1))); omega, agr_look hag _ _ _ _, rfl, hp25⟩
      have hs22p : ((c.1.tmod 3 + 3) % 3) ≠ 0 := by simpa using hs22
      refine wp_cond_false (show Act.eval _ _ = .bool false from (congrArg Value.bool hs22)) (wp_region_P [0, 1] [.k 82 (.bool (((c.1.tmod 3 + 3) % 3) == 1)), .k 80 (.bool (((c.1.tmod 3 + 3) % 3) == 1))] [(80, 1, 1, 81), (1, 0, 1, 2)] hst21 fun W26 hst26 => ?_)
      refine then_normal ?_
      rcases Bool.eq_false_or_eq_true (((c.1.tmod 3 + 3) % 3) == 1) with hs27 | hs27
      · skip
        have hs27p : ((c.1.tmod 3 + 3) % 3) = 1 := by simpa using hs27
        refine wp_cond_true (show Act.eval _ _ = .bool true from (congrArg Value.bool hs27)) (wp_seq (wp_region_Y [0, 0, 2, 0, 0, 0, 32, 127] [[], [], [], [], [], [], [], [0]] [[], [], [], [], [], [], [], [3]] [[], [], [], [], [], [], [], [0]] [.k 83 (vp B32_5), .c 84 (.agg #[.slice A25_3 5 c25_3]), .c 85 (.iface 30 (.agg #[.slice A25_3 5 c25_3])), .k 86 (vi ((c.2.1.tmod 8 + 8) % 8 - 1)), .k 87 (vi (3 + ((c.2.2.tmod 50 + 50) % 50))), .c 88 (.agg ((stdT (stand.take 128)).map (Value.int .i64)).toArray), .c 89 (.iface 34 (.agg ((stdT (stand.take 128)).map (Value.int .i64)).toArray)), .a 90] (fun ix σ β X => match ix with | 0 => True | 1 => True | 2 => True | 3 => True | 4 => True | 5 => True | 6 => True | 7 => σ 90 = .tuple #[] ∧ X 3 = eVMo B32_5 (rO (X 3)) (nn + 1, putM m ((c.2.1.tmod 8 + 8) % 8 - 1) (some (lookF (tabF (stdT (stand.take 128))) (3 + ((c.2.2.tmod 50 + 50) % 50)) (pvF Ps ((c.2.1.tmod 8 + 8) % 8 - 1))))) | _ => True) [1, 2, 3] [1, 2, 5, 6, 7] [(83, 0, 8, 91)] hst26 ?_ ?_ ?_))
        · exact fun ix _ _ _ _ _ _ hs hb hx h => match ix, h with
          | 7, h => by dsimp only at h ⊢; rw [← hs 90 rfl, ← hx 3 rfl]; exact h
          | 0, _ | 1, _ | 2, _ | 3, _ | 4, _ | 5, _ | 6, _ | _ + 8, _ => trivial
        · refine ⟨?_, ?_, ?_, ?_, ?_, trivial⟩
          · exact xs4 rfl id fun cx => run_loadB (n := 1) rfl (by kernel_rfl) (by kernel_rfl) (cx.ou 8) (Blk.ext hB8 cx.upd.to_ext) (nle rfl) rfl
          · exact sv0 rfl rfl rfl rfl rfl (fun _ _ _ h => h) fun ρ β W X cx => by
              have fF84 : ρ (.tmp 84) = .agg #[.slice A25_3 5 c25_3] := (cx.an 1)
              simp [go_sem, fF84]
          · exact xs4 rfl id fun cx => run_loadAr (n := 128) rfl (by kernel_rfl) (by kernel_rfl) (cx.ou 9) (Blk.ext hB9 cx.upd.to_ext) (by simp [stdT_len])
          · exact sv0 rfl rfl rfl rfl rfl (fun _ _ _ h => h) fun ρ β W X cx => by
              have fF88 : ρ (.tmp 88) = .agg ((stdT (stand.take 128)).map (Value.int .i64)).toArray := (cx.an 5)
              simp [go_sem, fF88]
          · refine sv_any rfl rfl fun ρ β W X cx => ?_
            refine DoesU.call (run_callF (args := #[vp B32_5, .iface 30 (.agg #[.slice A25_3 5 c25_3]), vi ((c.2.1.tmod 8 + 8) % 8 - 1), vi (3 + ((c.2.2.tmod 50 + 50) % 50)), .iface 34 (.agg ((stdT (stand.take 128)).map (Value.int .i64)).toArray)]) rfl cx.sees rfl (by kernel_rfl) (map5 (cx.an 0) (cx.an 2) (cx.an 3) (cx.an 4) (cx.an 6))) ?_
            refine (vlook_o (CtxV.holdE cx (cx.init 0 _ rfl) rfl) _ _ (pvF Ps) ((c.2.1.tmod 8 + 8) % 8 - 1) (3 + ((c.2.2.tmod 50 + 50) % 50)) _ _ (tabF (stdT (stand.take 128))) (by omega) (by omega) ((rpages_ok _ _ Ps _ hP).ext cx.upd.to_ext |> fun h_ => by rw [hPl] at h_; exact h_) ((table_ok _ _ (stdT_len _)).ext cx.upd.to_ext) (hN3.ext cx.upd.to_ext)).mono ?_
            rintro e W1 ⟨rfl, hu⟩
            refine ⟨_, rfl, post_vm (by rw [(cx.init 0 _ rfl)]; rfl) rfl rfl hu (fun σ β' X' hs hb hv hx => ?_)⟩
            exact ⟨(hv 90 rfl).1, hx⟩
        intro σ β X W28 hD hst28 fr hfr
        have xX3 : X 3 = _ := (dTn (hD 7 lq)).2
        obtain ⟨r3_28, hu_r3_28⟩ : ∃ z, rO (X 3) = z := ⟨_, rfl⟩
        rw [hu_r3_28] at xX3
        clear hu_r3_28
        simp only [xX3] at hst28
        simp only [ed 90 ((dTn (hD 7 lq)).1)] at hfr
        clear hD xX3; subst hfr; clear σ β X
        refine then_normal (wp_region_Y [0, 0, 0, 0, 0, 31] [[], [], [], [], [], [0]] [[], [], [], [], [], [3]] [[], [], [], [], [], [0]] [.k 91 (vp B34_6), .c 92 (.agg #[.slice A25_3 5 c25_3]), .k 93 (vi ((c.2.1.tmod 8 + 8) % 8 - 1)), .k 94 (vi (3 + ((c.2.2.tmod 50 + 50) % 50))), .c 95 (.agg ((stdT (stand.take 128)).map (Value.int .i64)).toArray), .a 96] (fun ix σ β X => match ix with | 0 => True | 1 => True | 2 => True | 3 => True | 4 => True | 5 => σ 96 = .tuple #[] ∧ X 3 = eRM B34_6 (rO (X 3)) (chL L ((c.2.1.tmod 8 + 8) % 8 - 1) ++ [knR (tabF (stdT (stand.take 128))) (3 + ((c.2.2.tmod 50 + 50) % 50)) ((c.2.1.tmod 8 + 8) % 8 - 1) (pvF Ps ((c.2.1.tmod 8 + 8) % 8 - 1))]) | _ => True) [1, 2, 3] [1, 4, 5] [(91, 0, 6, 97)] hst28 ?_ ?_ ?_)
        · exact fun ix _ _ _ _ _ _ hs hb hx h => match ix, h with
          | 5, h => by dsimp only at h ⊢; rw [← hs 96 rfl, ← hx 3 rfl]; exact h
          | 0, _ | 1, _ | 2, _ | 3, _ | 4, _ | _ + 6, _ => trivial
        · refine ⟨?_, ?_, ?_, trivial⟩
          · exact xs4 rfl id fun cx => run_loadB (n := 1) rfl (by kernel_rfl) (by kernel_rfl) (cx.ou 8) (Blk.ext hB8 cx.upd.to_ext) (nle rfl) rfl
          · exact xs4 rfl id fun cx => run_loadAr (n := 128) rfl (by kernel_rfl) (by kernel_rfl) (cx.ou 9) (Blk.ext hB9 cx.upd.to_ext) (by simp [stdT_len])
          · refine sv_any rfl rfl fun ρ β W X cx => ?_
            refine DoesU.call (run_callF (args := #[vp B34_6, .agg #[.slice A25_3 5 c25_3], vi ((c.2.1.tmod 8 + 8) % 8 - 1), vi (3 + ((c.2.2.tmod 50 + 50) % 50)), .agg ((stdT (stand.take 128)).map (Value.int .i64)).toArray]) rfl cx.sees rfl (by kernel_rfl) (map5 (cx.an 0) (cx.an 1) (cx.an 2) (cx.an 3) (cx.an 4))) ?_
            refine (rlook_n _ _ L _ _ Ps ((c.2.1.tmod 8 + 8) % 8 - 1) (3 + ((c.2.2.tmod 50 + 50) % 50)) _ (tabF (stdT (stand.take 128))) _ hPl (CtxV.holdE cx (cx.init 0 _ rfl) rfl) (by omega) (fun W hW => hP.ext (CtxV.far cx (cx.init 0 _ rfl) rfl hW)) (stdT_len _) (fun _ => rfl)).mono ?_
            rintro e W1 ⟨rfl, hu⟩
            refine ⟨_, rfl, post_rm (by rw [(cx.init 0 _ rfl)]; rfl) rfl rfl hu (fun σ β' X' hs hb hv hx => ?_)⟩
            exact ⟨(hv 96 rfl).1, hx⟩
        intro σ β X W29 hD hst29 fr hfr
        have xX3 : X 3 = _ := (dTn (hD 5 lq)).2
        obtain ⟨r3_29, hu_r3_29⟩ : ∃ z, rO (X 3) = z := ⟨_, rfl⟩
        rw [hu_r3_29] at xX3
        clear hu_r3_29
        simp only [xX3] at hst29
        simp only [ed 96 ((dTn (hD 5 lq)).1)] at hfr
        clear hD xX3; subst hfr; clear σ β X
        refine blk_normal (then_normal ?_)
        have hp30 := hst29.pick [1, 2, 0] (by decide) rfl
        exact ⟨r3_28, nn + 1, (putM m ((c.2.1.tmod 8 + 8) % 8 - 1) (some (lookF (tabF (stdT (stand.take 128))) (3 + ((c.2.2.tmod 50 + 50) % 50)) (pvF Ps ((c.2.1.tmod 8 + 8) % 8 - 1))))), r3_29, (chL L ((c.2.1.tmod 8 + 8) % 8 - 1) ++ [knR (tabF (stdT (stand.take 128))) (3 + ((c.2.2.tmod 50 + 50) % 50)) ((c.2.1.tmod 8 + 8) % 8 - 1) (pvF Ps ((c.2.1.tmod 8 + 8) % 8 - 1))]), [vp B14_16, vi c.1, vi (c.1.tmod 3), vi (c.1.tmod 3 + 3), vi ((c.1.tmod 3 + 3) % 3), (gu u12_ 37), (gu u12_ 38), (gu u12_ 39), (gu u12_ 40), (gu u12_ 41), (gu u12_ 42), .bool (((c.1.tmod 3 + 3) % 3) == 1), .bool (((c.1.tmod 3 + 3) % 3) == 0), .bool (((c.1.tmod 3 + 3) % 3) == 1), vp B32_5, .agg #[.slice A25_3 5 c25_3], .iface 30 (.agg #[.slice A25_3 5 c25_3]), vi ((c.2.1.tmod 8 + 8) % 8 - 1), vi (3 + ((c.2.2.tmod 50 + 50) % 50)), .agg ((stdT (stand.take 128)).map (Value.int .i64)).toArray, .iface 34 (.agg ((stdT (stand.take 128)).map (Value.int .i64)).toArray), .tuple #[], vp B34_6, .agg #[.slice A25_3 5 c25_3], vi ((c.2.1.tmod 8 + 8) % 8 - 1), vi (3 + ((c.2.2.tmod 50 + 50) % 50)), .agg ((stdT (stand.take 128)).map (Value.int .i64)).toArray, .tuple #[]], by omega, by have := agr_len (L := L) ((c.2.1.tmod 8 + 8) % 8 - 1) (knR (tabF (stdT (stand.take 128))) (3 + ((c.2.2.tmod 50 + 50) % 50)) ((c.2.1.tmod 8 + 8) % 8 - 1) (pvF Ps ((c.2.1.tmod 8 + 8) % 8 - 1))); omega, agr_look hag _ _ _ _, rfl, hp30⟩
      have hs27p : ((c.1.tmod 3 + 3) % 3) ≠ 1 := by simpa using hs27
      refine wp_cond_false (show Act.eval _ _ = .bool false from (congrArg Value.bool hs27)) (wp_seq (wp_region_Y [0, 0, 3] [[], [], [0]] [[], [], [3]] [[], [], [0]] [.k 74 (vp B32_5), .k 75 (vi ((c.2.1.tmod 8 + 8) % 8 - 1)), .a 76] (fun ix σ β X => match ix with | 0 => True | 1 => True | 2 => σ 76 = .tuple #[] ∧ X 3 = eVMo B32_5 (rO (X 3)) (nn, putM m ((c.2.1.tmod 8 + 8) % 8 - 1) none) | _ => True) [1, 2, 3] [2] [(74, 0, 3, 77)] hst26 ?_ ?_ ?_))
      · exact fun ix _ _ _ _ _ _ hs hb hx h => match ix, h with
        | 2, h => by dsimp only at h ⊢; rw [← hs 76 rfl, ← hx 3 rfl]; exact h
        | 0, _ | 1, _ | _ + 3, _ => trivial
      · refine ⟨?_, trivial⟩
        · refine sv_any rfl rfl fun ρ β W X cx => ?_
          refine DoesU.call (run_callF (args := #[vp B32_5, vi ((c.2.1.tmod 8 + 8) % 8 - 1)]) rfl cx.sees rfl (by kernel_rfl) (map2 (cx.an 0) (cx.an 1))) ?_
          refine (vchange_o (CtxV.holdE cx (cx.init 0 _ rfl) rfl) ((c.2.1.tmod 8 + 8) % 8 - 1) (by omega)).mono ?_
          rintro e W1 ⟨rfl, hu⟩
          refine ⟨_, rfl, post_vm (by rw [(cx.init 0 _ rfl)]; rfl) rfl rfl hu (fun σ β' X' hs hb hv hx => ?_)⟩
          exact ⟨(hv 76 rfl).1, hx⟩
      intro σ β X W31 hD hst31 fr hfr
      have xX3 : X 3 = _ := (dTn (hD 2 lq)).2
      obtain ⟨r3_31, hu_r3_31⟩ : ∃ z, rO (X 3) = z := ⟨_, rfl⟩
      rw [hu_r3_31] at xX3
      clear hu_r3_31
      simp only [xX3] at hst31
      simp only [ed 76 ((dTn (hD 2 lq)).1)] at hfr
      clear hD xX3; subst hfr; clear σ β X
      refine then_normal (wp_region_Y [0, 0, 3] [[], [], [0]] [[], [], [3]] [[], [], [0]] [.k 77 (vp B34_6), .k 78 (vi ((c.2.1.tmod 8 + 8) % 8 - 1)), .a 79] (fun ix σ β X => match ix with | 0 => True | 1 => True | 2 => σ 79 = .tuple #[] ∧ X 3 = eRM B34_6 (rO (X 3)) (chL L ((c.2.1.tmod 8 + 8) % 8 - 1)) | _ => True) [1, 2, 3] [2] [(77, 0, 3, 80)] hst31 ?_ ?_ ?_)
      · exact fun ix _ _ _ _ _ _ hs hb hx h => match ix, h with
        | 2, h => by dsimp only at h ⊢; rw [← hs 79 rfl, ← hx 3 rfl]; exact h
        | 0, _ | 1, _ | _ + 3, _ => trivial
      · refine ⟨?_, trivial⟩
        · refine sv_any rfl rfl fun ρ β W X cx => ?_
          refine DoesU.call (run_callF (args := #[vp B34_6, vi ((c.2.1.tmod 8 + 8) % 8 - 1)]) rfl cx.sees rfl (by kernel_rfl) (map2 (cx.an 0) (cx.an 1))) ?_
          refine (rchange_any _ _ L ((c.2.1.tmod 8 + 8) % 8 - 1) _ (CtxV.holdE cx (cx.init 0 _ rfl) rfl) (by omega)).mono ?_
          rintro e W1 ⟨rfl, hu⟩
          refine ⟨_, rfl, post_rm (by rw [(cx.init 0 _ rfl)]; rfl) rfl rfl hu (fun σ β' X' hs hb hv hx => ?_)⟩
          exact ⟨(hv 79 rfl).1, hx⟩
      intro σ β X W32 hD hst32 fr hfr
      have xX3 : X 3 = _ := (dTn (hD 2 lq)).2
      obtain ⟨r3_32, hu_r3_32⟩ : ∃ z, rO (X 3) = z := ⟨_, rfl⟩
      rw [hu_r3_32] at xX3
      clear hu_r3_32
      simp only [xX3] at hst32
      simp only [ed 79 ((dTn (hD 2 lq)).1)] at hfr
      clear hD xX3; subst hfr; clear σ β X
      refine blk_normal (then_normal ?_)
      have hp33 := hst32.pick [1, 2, 0] (by decide) rfl
      exact ⟨r3_31, nn, (putM m ((c.2.1.tmod 8 + 8) % 8 - 1) none), r3_32, (chL L ((c.2.1.tmod 8 + 8) % 8 - 1)), [vp B14_16, vi c.1, vi (c.1.tmod 3), vi (c.1.tmod 3 + 3), vi ((c.1.tmod 3 + 3) % 3), vp B32_5, vi ((c.2.1.tmod 8 + 8) % 8 - 1), .tuple #[], vp B34_6, vi ((c.2.1.tmod 8 + 8) % 8 - 1), .tuple #[], .bool (((c.1.tmod 3 + 3) % 3) == 1), .bool (((c.1.tmod 3 + 3) % 3) == 0), .bool (((c.1.tmod 3 + 3) % 3) == 1), (gu u12_ 46), (gu u12_ 47), (gu u12_ 48), (gu u12_ 49), (gu u12_ 50), (gu u12_ 51), (gu u12_ 52), (gu u12_ 53), (gu u12_ 54), (gu u12_ 55), (gu u12_ 56), (gu u12_ 57), (gu u12_ 58), (gu u12_ 59)], by omega, by have := chL_len L ((c.2.1.tmod 8 + 8) % 8 - 1); omega, agr_del hag _, rfl, hp33⟩
    rintro a19 W19 ⟨rV2, nJ, mJ, rR2, L2, u19_, hnn2, hLl2, hag2, rfl, hst19⟩
    refine wp_seq (wp_region_Y [0, 1, 3, 7] [[], [2]] [[], [], [3]] [] [.c 97 (.pointer (some ⟨B14_16, 1, none⟩)), .c 98 (vi c.2.1), .a 99, .a 17] (fun ix σ β X => match ix with | 0 => True | 1 => True | 2 => σ 99 = .slice (sA (β 99)) 6 6 ∧ X 3 = eO 3 1 (.slice (sA (β 99)) 6 6) 6 ([vi c.2.1, vi 4, vi 3, vi 2, vi 1, vi 0]) | 3 => σ 17 = .slice (sA (β 99)) 6 6 | _ => True) [0, 1, 2, 3] [0, 1, 2, 3] [(17, 3, 1, 18), (79, 0, 3, 82)] hst19 ?_ ?_ ?_)
    · exact fun ix _ _ _ _ _ _ hs hb hx h => match ix, h with
      | 2, h => by dsimp only at h ⊢; rw [← hs 99 rfl, ← hb 99 rfl, ← hx 3 rfl]; exact h
      | 3, h => by dsimp only at h ⊢; rw [← hs 17 rfl, ← hb 99 rfl]; exact h
      | 0, _ | 1, _ | _ + 4, _ => trivial
    · refine ⟨?_, ?_, ?_, ?_, trivial⟩
      · exact xs4 rfl id fun cx => run_indexArrB (n := 3) (sz := 1) (m := 1) (q := 1) rfl (by kernel_rfl) (cx.ou 14) (cx.co _) (by omega) (by omega) (by omega)
      · exact xs4 rfl id fun cx => run_load1 rfl (by kernel_rfl) (cx.an 0) ((cx.bi 2 rfl).cell 1)
      · refine sv_any rfl rfl fun ρ β W X cx => ?_
        have fF98 : ρ (.tmp 98) = vi c.2.1 := (cx.an 1)
        exact dv_lit (e := 3) (xs := [vi c.2.1, vi 4, vi 3, vi 2, vi 1, vi 0]) rfl (by simp [go_sem, fF98, cx.sees.const]) rfl (by decide) rfl rfl (fun σ β' X' hs hb hv hx => ⟨hv, hx⟩)
      · exact sv rfl rfl rfl rfl rfl _ (fun _ _ _ h => h) (fun β β' h => by rw [h 99 (by decide)]) fun ρ β W X cx => run_assign' rfl (dTn (cx.an 2)).1
    intro σ β X W34 hD hst34 fr hfr
    obtain ⟨A99_34, hu_A99_34⟩ : ∃ z, sA (β 99) = z := ⟨_, rfl⟩
    simp only [exq 3 ((dTn (hD 2 lq)).2), hu_A99_34] at hst34
    simp only [ed 99 ((dTn (hD 2 lq)).1), ed 17 ((dTn (hD 3 lq))), hu_A99_34] at hfr
    clear hD hu_A99_34; subst hfr; clear σ β X
    refine then_normal (wp_seq (wp_seq ?_))
    have hd36 : ((roomM mJ c.2.2 [c.2.1, 4, 3, 2, 1, 0]) != (roomR L2 c.2.2 [c.2.1, 4, 3, 2, 1, 0])) = false := (by rw [agr_room hag2]; exact bne_self_eq_false _)
    have hd37 : ((roomM mJ (c.2.2 % 512) [c.2.1, 4, 3, 2, 1, 0]) != (roomR L2 (c.2.2 % 512) [c.2.1, 4, 3, 2, 1, 0])) = false := (by rw [agr_room hag2]; exact bne_self_eq_false _)
    have hd38 : (!((((mJ c.2.1).getD (false, 0)).1) == ((fdR L2 c.2.1).2.2))) = false := (by rw [agr_all hag2]; simp)
    refine wp_region_Z [0, 0, 0, 4, 15, 0, 0, 0, 128, 511, 1023, 2047, 4095, 4095, 4095, 20479, 53247, 131071, 4095, 4095, 4095, 1052671, 3149823, 8388607, 16777215, 33554431, 67108863, 134217727, 134217727, 402653183, 1073741823, 134217727, 134217727, 4429185023, 17179869183, 34359738367, 68719476735] [[], [], [], [2], [3, 0], [], [], [], [2], [3, 1], [], [], [], [], [], [2], [], [3, 0], [], [], [], [2], [], [3, 1], [], [], [], [], [], [2], [0], [], [], [2], [1]] [.k 100 (vp B32_5), .k 101 (.slice A99_34 6 6), .c 102 (.pointer (some ⟨B14_16, 2, none⟩)), .c 103 (vi c.2.2), .c 104 (vi ((roomM mJ c.2.2 [c.2.1, 4, 3, 2, 1, 0]))), .k 105 (vp B34_6), .k 106 (.slice A99_34 6 6), .c 107 (.pointer (some ⟨B14_16, 2, none⟩)), .c 108 (vi c.2.2), .c 109 (vi ((roomR L2 c.2.2 [c.2.1, 4, 3, 2, 1, 0]))), .e 110 (.bool ((roomM mJ c.2.2 [c.2.1, 4, 3, 2, 1, 0]) != (roomR L2 c.2.2 [c.2.1, 4, 3, 2, 1, 0]))) (.bool false) (congrArg Value.bool hd36), .k 111 (.bool false), .k 112 (vp B32_5), .k 113 (.slice A99_34 6 6), .c 114 (.pointer (some ⟨B14_16, 2, none⟩)), .c 115 (vi c.2.2), tAn 116 .i64 c.2.2 511 (c.2.2 % 512) (bits_mask c.2.2 9 (by decide)), .c 117 (vi ((roomM mJ (c.2.2 % 512) [c.2.1, 4, 3, 2, 1, 0]))), .k 118 (vp B34_6), .k 119 (.slice A99_34 6 6), .c 120 (.pointer (some ⟨B14_16, 2, none⟩)), .c 121 (vi c.2.2), tAn 122 .i64 c.2.2 511 (c.2.2 % 512) (bits_mask c.2.2 9 (by decide)), .c 123 (vi ((roomR L2 (c.2.2 % 512) [c.2.1, 4, 3, 2, 1, 0]))), .e 124 (.bool ((roomM mJ (c.2.2 % 512) [c.2.1, 4, 3, 2, 1, 0]) != (roomR L2 (c.2.2 % 512) [c.2.1, 4, 3, 2, 1, 0]))) (.bool false) (congrArg Value.bool hd37), .k 125 (.bool false), .k 126 (.bool false), .k 127 (vp B32_5), .c 128 (.pointer (some ⟨B14_16, 1, none⟩)), .c 129 (vi c.2.1), .c 130 (.bool (((mJ c.2.1).getD (false, 0)).1)), .k 131 (vp B34_6), .c 132 (.pointer (some ⟨B14_16, 1, none⟩)), .c 133 (vi c.2.1), .c 134 (.bool ((fdR L2 c.2.1).2.2)), .c 135 (.bool false), .k 136 (.bool false)] [0, 1, 2, 3] [2, 3, 4, 7, 8, 9, 14, 15, 17, 20, 21, 23, 28, 29, 30, 32, 33, 34, 35] [(100, 0, 37, 137)] hst34 ?_ fun W35 hst35 => ?_
    · refine ⟨?_, ?_, ?_, ?_, ?_, ?_, ?_, ?_, ?_, ?_, ?_, ?_, ?_, ?_, ?_, ?_, ?_, ?_, ?_, trivial⟩
      · exact xs4 rfl id fun cx => run_indexArrB (n := 3) (sz := 1) (m := 2) (q := 2) rfl (by kernel_rfl) (cx.ou 14) (cx.co _) (by omega) (by omega) (by omega)
      · exact xs4 rfl id fun cx => run_load1 rfl (by kernel_rfl) (cx.an 2) ((cx.bi 2 rfl).cell 2)
      · exact xsc rfl id rfl rfl fun cx => ⟨_, vroom_o (CtxV.holdE cx (cx.init 0 _ rfl) rfl) [c.2.1, 4, 3, 2, 1, 0] c.2.2 rfl (At.of_own (cx.ri 3 rfl)) (by simp) (pgs_bd hcb), (map3 (cx.an 0) (cx.an 1) (cx.an 3))⟩
      · exact xs4 rfl id fun cx => run_indexArrB (n := 3) (sz := 1) (m := 2) (q := 2) rfl (by kernel_rfl) (cx.ou 14) (cx.co _) (by omega) (by omega) (by omega)
      · exact xs4 rfl id fun cx => run_load1 rfl (by kernel_rfl) (cx.an 7) ((cx.bi 2 rfl).cell 2)
      · exact xsc rfl id rfl rfl fun cx => ⟨_, rroom_o (CtxV.holdE cx (cx.init 1 _ rfl) rfl) (by omega) [c.2.1, 4, 3, 2, 1, 0] c.2.2 rfl (At.of_own (cx.ri 3 rfl)) (by simp), (map3 (cx.an 5) (cx.an 6) (cx.an 8))⟩
      · exact xs5 rfl id (fun cx => (cx.an 11)) fun cx => run_indexArrB (n := 3) (sz := 1) (m := 2) (q := 2) rfl (by kernel_rfl) (cx.ou 14) (cx.co _) (by omega) (by omega) (by omega)
      · exact xs5 rfl id (fun cx => (cx.an 11)) fun cx => run_load1 rfl (by kernel_rfl) (cx.an 14) ((cx.bi 2 rfl).cell 2)
      · exact sv_call_on rfl rfl rfl rfl rfl rfl (fun _ _ _ h => h) (fun _ _ _ _ cx => (cx.an 11)) fun ρ β W X cx => ⟨_, _, run_callF (args := #[vp B32_5, .slice A99_34 6 6, vi (c.2.2 % 512)]) rfl cx.sees rfl (by kernel_rfl) (map3 (cx.an 12) (cx.an 13) (cx.an 16)), vroom_o (CtxV.holdE cx (cx.init 0 _ rfl) rfl) [c.2.1, 4, 3, 2, 1, 0] (c.2.2 % 512) rfl (At.of_own (cx.ri 3 rfl)) (by simp) (pgs_bd hcb)⟩
      · exact xs5 rfl id (fun cx => (cx.an 11)) fun cx => run_indexArrB (n := 3) (sz := 1) (m := 2) (q := 2) rfl (by kernel_rfl) (cx.ou 14) (cx.co _) (by omega) (by omega) (by omega)
      · exact xs5 rfl id (fun cx => (cx.an 11)) fun cx => run_load1 rfl (by kernel_rfl) (cx.an 20) ((cx.bi 2 rfl).cell 2)
      · exact sv_call_on rfl rfl rfl rfl rfl rfl (fun _ _ _ h => h) (fun _ _ _ _ cx => (cx.an 11)) fun ρ β W X cx => ⟨_, _, run_callF (args := #[vp B34_6, .slice A99_34 6 6, vi (c.2.2 % 512)]) rfl cx.sees rfl (by kernel_rfl) (map3 (cx.an 18) (cx.an 19) (cx.an 22)), rroom_o (CtxV.holdE cx (cx.init 1 _ rfl) rfl) (by omega) [c.2.1, 4, 3, 2, 1, 0] (c.2.2 % 512) rfl (At.of_own (cx.ri 3 rfl)) (by simp)⟩
      · exact xs5 rfl id (fun cx => (cx.an 26)) fun cx => run_indexArrB (n := 3) (sz := 1) (m := 1) (q := 1) rfl (by kernel_rfl) (cx.ou 14) (cx.co _) (by omega) (by omega) (by omega)
      · exact xs5 rfl id (fun cx => (cx.an 26)) fun cx => run_load1 rfl (by kernel_rfl) (cx.an 28) ((cx.bi 2 rfl).cell 1)
      · exact sv_call_on rfl rfl rfl rfl rfl rfl (fun _ _ _ h => h) (fun _ _ _ _ cx => (cx.an 26)) fun ρ β W X cx => ⟨_, _, run_callF (args := #[vp B32_5, vi c.2.1]) rfl cx.sees rfl (by kernel_rfl) (map2 (cx.an 27) (cx.an 29)), vallv_o (CtxV.holdE cx (cx.init 0 _ rfl) rfl) c.2.1 (by omega)⟩
      · exact xs5 rfl id (fun cx => (cx.an 26)) fun cx => run_indexArrB (n := 3) (sz := 1) (m := 1) (q := 1) rfl (by kernel_rfl) (cx.ou 14) (cx.co _) (by omega) (by omega) (by omega)
      · exact xs5 rfl id (fun cx => (cx.an 26)) fun cx => run_load1 rfl (by kernel_rfl) (cx.an 32) ((cx.bi 2 rfl).cell 1)
      · exact sv_call_on rfl rfl rfl rfl rfl rfl (fun _ _ _ h => h) (fun _ _ _ _ cx => (cx.an 26)) fun ρ β W X cx => ⟨_, _, run_callF (args := #[vp B34_6, vi c.2.1]) rfl cx.sees rfl (by kernel_rfl) (map2 (cx.an 31) (cx.an 33)), rallv_o (CtxV.holdE cx (cx.init 1 _ rfl) rfl) (by omega) c.2.1⟩
      · exact sv0_on rfl rfl rfl rfl rfl rfl (fun _ _ _ h => h.trans (congrArg Value.bool hd38)) (fun _ _ _ _ cx => (cx.an 26)) fun ρ β W X cx => by
          have fF130 : ρ (.tmp 130) = .bool (((mJ c.2.1).getD (false, 0)).1) := (cx.an 30)
          have fF134 : ρ (.tmp 134) = .bool ((fdR L2 c.2.1).2.2) := (cx.an 34)
          simp [go_sem, fF130, fF134]
    refine then_normal (wp_cond_false (show Act.eval _ _ = .bool false from rfl) (wp_skip (then_normal (wp_seq (wp_region_P [0] [.k 18 (vi (-1))] [(18, 0, 1, 19)] hst35 fun W39 hst39 => ?_)))))
    refine then_normal (wp_block ?_)
    refine wp_loopN (fun mz az W => ∃ k : Int, ∃ u40_ : List Value, -1 ≤ k ∧ mz = (7 - k).toNat ∧ az = ⟨#[.slice SA s.length sc, .slice TA stand.length tc, .slice CA cs.length cc, undef, undef, undef, (gu u40_ 0), .bool true, vp B8_3, vp B9_4, vp B32_5, vp B34_6, .pointer none, vi ((i : Int)), vp B14_16, vi ((c.2.1.tmod 8 + 8) % 8 - 1), vi (3 + ((c.2.2.tmod 50 + 50) % 50)), .slice A99_34 6 6, vi k, .bool true, .slice SA s.length sc, .slice SA s.length sc, vi ((s.length : Int)), vi ((m1 : Int)), .slice SA m1 sc, .agg #[.slice A25_3 5 c25_3], .slice TA stand.length tc, .slice TA stand.length tc, vi ((stand.length : Int)), vi ((m2 : Int)), .slice TA m2 tc, .agg ((stdT (stand.take 128)).map (Value.int .i64)).toArray, vp B32_5, .agg #[.slice none 0 0], vp B34_6, .pointer none, .agg #[.slice A25_3 5 c25_3], .iface 30 (.agg #[.slice A25_3 5 c25_3]), .agg ((stdT (stand.take 128)).map (Value.int .i64)).toArray, .iface 34 (.agg ((stdT (stand.take 128)).map (Value.int .i64)).toArray), .tuple #[], .pointer none, .tuple #[], vi ((i : Int)), .slice CA cs.length cc, vi ((cs.length : Int)), .bool (decide ((i : Int) < (cs.length : Int))), .bool (decide ((i : Int) < (cs.length : Int))), mb (decide ((i : Int) < (cs.length : Int))) (vi ((i : Int))), mb (decide ((i : Int) < (cs.length : Int))) (.bool (decide ((i : Int) < 30))), .bool ((decide ((i : Int) < (cs.length : Int))) && (decide ((i : Int) < 30))), (gu u12_ 14), (gu u12_ 15), .slice CA cs.length cc, vi ((i : Int)), .pointer (some ((ad CA).add (i * 3))), .agg #[vi (c.1), vi (c.2.1), vi (c.2.2)], .pointer (some ⟨B14_16, 1, none⟩), vi c.2.1, vi (c.2.1.tmod 8), vi (c.2.1.tmod 8 + 8), vi ((c.2.1.tmod 8 + 8) % 8), vi ((c.2.1.tmod 8 + 8) % 8 - 1), .pointer (some ⟨B14_16, 2, none⟩), vi c.2.2, vi (c.2.2.tmod 50), vi (c.2.2.tmod 50 + 50), vi ((c.2.2.tmod 50 + 50) % 50), vi (3 + ((c.2.2.tmod 50 + 50) % 50)), (gu u19_ 0), (gu u19_ 1), (gu u19_ 2), (gu u19_ 3), (gu u19_ 4), (gu u19_ 5), (gu u19_ 6), (gu u19_ 7), (gu u19_ 8), (gu u19_ 9), (gu u19_ 10), (gu u19_ 11), (gu u19_ 12), (gu u19_ 13), (gu u19_ 14), (gu u19_ 15), (gu u19_ 16), (gu u19_ 17), (gu u19_ 18), (gu u19_ 19), (gu u19_ 20), (gu u19_ 21), (gu u19_ 22), (gu u19_ 23), (gu u19_ 24), (gu u19_ 25), (gu u19_ 26), (gu u19_ 27), .pointer (some ⟨B14_16, 1, none⟩), vi c.2.1, .slice A99_34 6 6, vp B32_5, .slice A99_34 6 6, .pointer (some ⟨B14_16, 2, none⟩), vi c.2.2, vi ((roomM mJ c.2.2 [c.2.1, 4, 3, 2, 1, 0])), vp B34_6, .slice A99_34 6 6, .pointer (some ⟨B14_16, 2, none⟩), vi c.2.2, vi ((roomR L2 c.2.2 [c.2.1, 4, 3, 2, 1, 0])), .bool false, .bool false, vp B32_5, .slice A99_34 6 6, .pointer (some ⟨B14_16, 2, none⟩), vi c.2.2, vi (c.2.2 % 512), vi ((roomM mJ (c.2.2 % 512) [c.2.1, 4, 3, 2, 1, 0])), vp B34_6, .slice A99_34 6 6, .pointer (some ⟨B14_16, 2, none⟩), vi c.2.2, vi (c.2.2 % 512), vi ((roomR L2 (c.2.2 % 512) [c.2.1, 4, 3, 2, 1, 0])), .bool false, .bool false, .bool false, vp B32_5, .pointer (some ⟨B14_16, 1, none⟩), vi c.2.1, .bool (((mJ c.2.1).getD (false, 0)).1), vp B34_6, .pointer (some ⟨B14_16, 1, none⟩), vi c.2.1, .bool ((fdR L2 c.2.1).2.2), .bool false, .bool false, (gu u40_ 1), (gu u40_ 2), (gu u40_ 3), (gu u40_ 4), (gu u40_ 5), (gu u40_ 6), (gu u40_ 7), (gu u40_ 8), (gu u40_ 9), (gu u40_ 10), (gu u40_ 11), (gu u40_ 12), (gu u40_ 13), (gu u40_ 14), (gu u40_ 15), (gu u40_ 16), undef, undef, undef, undef, undef, undef, undef], []⟩ ∧ St W4 [] [eVMo B32_5 rV2 (nJ, mJ), eRM B34_6 rR2 L2] W) ((7 - ((-1))).toNat) ?_ ?_
    · -- the loop begins
      have hp41 := hst39.pick [0, 1] (by decide) rfl
      exact ⟨(-1), [(gu u12_ 0), (gu u12_ 100), (gu u12_ 101), (gu u12_ 102), (gu u12_ 103), (gu u12_ 104), (gu u12_ 105), (gu u12_ 106), (gu u12_ 107), (gu u12_ 108), (gu u12_ 109), (gu u12_ 110), (gu u12_ 111), (gu u12_ 112), (gu u12_ 113), (gu u12_ 114), (gu u12_ 115)], by omega, rfl, rfl, hp41⟩
    rintro n40 a40 W40 ⟨k, u40_, hk, rfl, rfl, hst40⟩
    refine wp_seq (wp_seq (wp_region_P [0, 1] [.k 137 (vi k), .k 138 (.bool (decide (k < 7)))] [(137, 0, 2, 139)] hst40 fun W42 hst42 => ?_))
    refine then_normal ?_
    rcases Bool.eq_false_or_eq_true (decide (k < 7)) with hs43 | hs43
    · skip
      have hs43p : k < 7 := by simpa using hs43
      refine wp_cond_true (show Act.eval _ _ = .bool true from (congrArg Value.bool hs43)) (wp_skip (then_normal (wp_seq (wp_block (wp_seq ?_)))))
      have hd45 : (!((((mJ k).getD (false, 0)).1) == ((fdR L2 k).2.2))) = false := (by rw [agr_all hag2]; simp)
      refine wp_region_Z [0, 0, 3, 0, 0, 31, 63, 127, 255, 255, 1023, 2047] [[], [], [0], [], [], [1]] [.k 141 (vp B32_5), .k 142 (vi k), .c 143 (.bool (((mJ k).getD (false, 0)).1)), .k 144 (vp B34_6), .k 145 (vi k), .c 146 (.bool ((fdR L2 k).2.2)), .c 147 (.bool false), .k 148 (.bool false), .k 149 (.pointer none), .k 150 (vi k), .c 151 (.bool false), .k 152 (.bool false)] [0, 1] [2, 5, 6, 10] [(141, 0, 12, 153)] hst42 ?_ fun W44 hst44 => ?_
      · refine ⟨?_, ?_, ?_, ?_, trivial⟩
        · exact xsc rfl id rfl rfl fun cx => ⟨_, vallv_o (CtxV.holdE cx (cx.init 0 _ rfl) rfl) k (by omega), (map2 (cx.an 0) (cx.an 1))⟩
        · exact xsc rfl id rfl rfl fun cx => ⟨_, rallv_o (CtxV.holdE cx (cx.init 1 _ rfl) rfl) (by omega) k, (map2 (cx.an 3) (cx.an 4))⟩
        · exact sv0 rfl rfl rfl rfl rfl (fun _ _ _ h => h.trans (congrArg Value.bool hd45)) fun ρ β W X cx => by
            have fF143 : ρ (.tmp 143) = .bool (((mJ k).getD (false, 0)).1) := (cx.an 2)
            have fF146 : ρ (.tmp 146) = .bool ((fdR L2 k).2.2) := (cx.an 5)
            simp [go_sem, fF143, fF146]
        · exact sv_call_on rfl rfl rfl rfl rfl rfl (fun _ _ _ h => h) (fun _ _ _ _ cx => (cx.an 7)) fun ρ β W X cx => ⟨_, _, run_callF (args := #[.pointer none, vi k]) rfl cx.sees rfl (by kernel_rfl) (map2 (cx.an 8) (cx.an 9)), vallv_nil k _⟩
      refine then_normal (wp_cond_false (show Act.eval _ _ = .bool false from rfl) (wp_skip (blk_normal (then_normal (wp_region_P [0, 1, 3] [.k 139 (vi k), tI 140 (k + 1) (by omega), .k 18 (vi (k + 1))] [(18, 2, 1, 19), (120, 0, 2, 122)] hst44 fun W46 hst46 => ?_)))))
      refine then_normal ?_
      refine ⟨(7 - ((k + 1))).toNat, by omega, ?_⟩
      have hp47 := hst46.pick [0, 1] (by decide) rfl
      exact ⟨(k + 1), [(gu u40_ 0), vi k, .bool (decide (k < 7)), vi k, vi (k + 1), vp B32_5, vi k, .bool (((mJ k).getD (false, 0)).1), vp B34_6, vi k, .bool ((fdR L2 k).2.2), .bool false, .bool false, .pointer none, vi k, .bool false, .bool false], by omega, rfl, rfl, hp47⟩
    have hs43p : ¬ (k < 7) := by simpa using hs43
    refine wp_cond_false (show Act.eval _ _ = .bool false from (congrArg Value.bool hs43)) (wp_exit (then_exit (then_exit (blk_eq (blk_normal (then_normal (wp_region_P [0, 1, 3] [.k 51 (vi ((i : Int))), tI 52 ((i : Int) + 1) (by omega), .k 13 (vi ((i : Int) + 1))] [(13, 2, 1, 14), (37, 0, 2, 39)] hst42 fun W48 hst48 => ?_)))))))
    refine then_normal ?_
    refine ⟨30 - ((i + 1)), by omega, ?_⟩
    have hp49 := hst48.pick [0, 1] (by decide) rfl
    exact ⟨(i + 1), rV2, nJ, mJ, rR2, L2, [(gu u40_ 0), vp B14_16, vi ((c.2.1.tmod 8 + 8) % 8 - 1), vi (3 + ((c.2.2.tmod 50 + 50) % 50)), .slice A99_34 6 6, vi k, vi ((i : Int)), .slice CA cs.length cc, vi ((cs.length : Int)), .bool (decide ((i : Int) < (cs.length : Int))), .bool (decide ((i : Int) < (cs.length : Int))), mb (decide ((i : Int) < (cs.length : Int))) (vi ((i : Int))), mb (decide ((i : Int) < (cs.length : Int))) (.bool (decide ((i : Int) < 30))), .bool ((decide ((i : Int) < (cs.length : Int))) && (decide ((i : Int) < 30))), vi ((i : Int)), vi ((i : Int) + 1), .slice CA cs.length cc, vi ((i : Int)), .pointer (some ((ad CA).add (i * 3))), .agg #[vi (c.1), vi (c.2.1), vi (c.2.2)], .pointer (some ⟨B14_16, 1, none⟩), vi c.2.1, vi (c.2.1.tmod 8), vi (c.2.1.tmod 8 + 8), vi ((c.2.1.tmod 8 + 8) % 8), vi ((c.2.1.tmod 8 + 8) % 8 - 1), .pointer (some ⟨B14_16, 2, none⟩), vi c.2.2, vi (c.2.2.tmod 50), vi (c.2.2.tmod 50 + 50), vi ((c.2.2.tmod 50 + 50) % 50), vi (3 + ((c.2.2.tmod 50 + 50) % 50)), (gu u19_ 0), (gu u19_ 1), (gu u19_ 2), (gu u19_ 3), (gu u19_ 4), (gu u19_ 5), (gu u19_ 6), (gu u19_ 7), (gu u19_ 8), (gu u19_ 9), (gu u19_ 10), (gu u19_ 11), (gu u19_ 12), (gu u19_ 13), (gu u19_ 14), (gu u19_ 15), (gu u19_ 16), (gu u19_ 17), (gu u19_ 18), (gu u19_ 19), (gu u19_ 20), (gu u19_ 21), (gu u19_ 22), (gu u19_ 23), (gu u19_ 24), (gu u19_ 25), (gu u19_ 26), (gu u19_ 27), .pointer (some ⟨B14_16, 1, none⟩), vi c.2.1, .slice A99_34 6 6, vp B32_5, .slice A99_34 6 6, .pointer (some ⟨B14_16, 2, none⟩), vi c.2.2, vi ((roomM mJ c.2.2 [c.2.1, 4, 3, 2, 1, 0])), vp B34_6, .slice A99_34 6 6, .pointer (some ⟨B14_16, 2, none⟩), vi c.2.2, vi ((roomR L2 c.2.2 [c.2.1, 4, 3, 2, 1, 0])), .bool false, .bool false, vp B32_5, .slice A99_34 6 6, .pointer (some ⟨B14_16, 2, none⟩), vi c.2.2, vi (c.2.2 % 512), vi ((roomM mJ (c.2.2 % 512) [c.2.1, 4, 3, 2, 1, 0])), vp B34_6, .slice A99_34 6 6, .pointer (some ⟨B14_16, 2, none⟩), vi c.2.2, vi (c.2.2 % 512), vi ((roomR L2 (c.2.2 % 512) [c.2.1, 4, 3, 2, 1, 0])), .bool false, .bool false, .bool false, vp B32_5, .pointer (some ⟨B14_16, 1, none⟩), vi c.2.1, .bool (((mJ c.2.1).getD (false, 0)).1), vp B34_6, .pointer (some ⟨B14_16, 1, none⟩), vi c.2.1, .bool ((fdR L2 c.2.1).2.2), .bool false, .bool false, vi k, .bool (decide (k < 7)), (gu u40_ 3), (gu u40_ 4), (gu u40_ 5), (gu u40_ 6), (gu u40_ 7), (gu u40_ 8), (gu u40_ 9), (gu u40_ 10), (gu u40_ 11), (gu u40_ 12), (gu u40_ 13), (gu u40_ 14), (gu u40_ 15), (gu u40_ 16)], by omega, by omega, hag2, rfl, rfl, hp49⟩
  have hs15p := hs15
  simp only [zB] at hs15p
  refine wp_cond_false (show Act.eval _ _ = .bool false from (congrArg Value.bool hs15)) (wp_exit (then_exit (then_exit (blk_eq (then_normal (wp_seq (wp_region_Y [0, 1, 3, 3, 15, 31, 63, 127] [[], [], [], [], [2]] [[], [], [], [2]] [] [.k 153 (.bool true), .k 154 (.bool true), .k 155 (.pointer none), .a 156, .c 157 (vi (-1)), .k 158 (.bool true), .k 159 (.bool true), .k 6 (.bool true)] (fun ix σ β X => match ix with | 0 => True | 1 => True | 2 => True | 3 => σ 156 = .slice (sA (β 156)) 1 1 ∧ X 2 = eO 3 1 (.slice (sA (β 156)) 1 1) 1 ([vi 0]) | _ => True) [0, 1, 2] [3, 4] [(6, 7, 1, 7), (146, 0, 7, 153)] hst14 ?_ ?_ ?_)))))))
  · exact fun ix _ _ _ _ _ _ hs hb hx h => match ix, h with
    | 3, h => by dsimp only at h ⊢; rw [← hs 156 rfl, ← hb 156 rfl, ← hx 2 rfl]; exact h
    | 0, _ | 1, _ | 2, _ | _ + 4, _ => trivial
  · refine ⟨?_, ?_, trivial⟩
    · refine sv_any_on rfl rfl rfl (fun _ _ _ _ cx => (cx.an 1)) fun ρ β W X cx => ?_
      exact dv_lit (e := 3) (xs := [vi 0]) rfl (by simp [go_sem, cx.sees.const]) rfl (by decide) rfl rfl (fun σ β' X' hs hb hv hx => ⟨hv, hx⟩)
    · exact sv_call_on rfl rfl rfl rfl rfl rfl (fun _ _ _ h => h) (fun _ _ _ _ cx => (cx.an 1)) fun ρ β W X cx => ⟨_, _, run_callF (args := #[.pointer none, .slice (sA (β 156)) 1 1, vi 0]) rfl cx.sees rfl (by kernel_rfl) (map3 (cx.an 2) (dTn (cx.an 3)).1 (cx.co _)), vroom_nil _ _ [0] 0 _ (At.of_own (cx.row (dTn (cx.an 3)).2 rfl)) (by simp) (by intro x hx; simp only [List.mem_cons, List.not_mem_nil, or_false] at hx; omega)⟩
  intro σ β X W50 hD hst50 fr hfr
  obtain ⟨A156_50, hu_A156_50⟩ : ∃ z, sA (β 156) = z := ⟨_, rfl⟩
  simp only [exq 2 ((dTn (hD 3 lq)).2), hu_A156_50] at hst50
  simp only [ed 156 ((dTn (hD 3 lq)).1), hu_A156_50] at hfr
  clear hD hu_A156_50; subst hfr; clear σ β X
  refine then_normal (wp_ret ?_)
  refine bodyPost_ret (v := .bool true) (results_tmp Tryz.results8 rfl) rfl ?_
  exact Ret.bool rfl (hx0.trans hst50.ext)
end
end Go.Proofs.YtjnplglnnamfdaaGreatDoor
namespace Go.Proofs.YtjnplglnnamfdaaGreatDoor
section
open Go.ChangeShapes Go.WideShapes Go.ChangeAt Go.RowKit Go.Deep Go.Joins
set_option linter.unusedVariables false
set_option linter.unusedSimpArgs false
theorem ownKnob_none : ownKnob Tryz.prog.godebug = none := by kernel_rfl
theorem laidOut : laidOutB Tryz.prog = true := by kernel_rfl
section
variable {H : Type} {enc : TypeId × Value → H} {P : Program}
theorem trodAll_stays (hl : laidOutB P = true) {W W' : World} {sp : Nat → Bool} : ∀ {ts : List TypeId} {vs : List Value} {ds : List (DataW H)} {ps : List MemPlace}, (∀ t ∈ ts, P.readableRec t = true ∧ t < P.types.size) →
    DataW.TrodAll enc P W 0 (fun _ => true) true ts vs ds ps → (∀ p ∈ ps, W.sameAt W' p) → (∀ p ∈ ps, sp p.block = true) → DataW.TrodAll enc P W' 0 sp true ts vs ds ps
  | [], [], [], _, _, h, _, _ => h
  | t :: _, _ :: _, _ :: _, _, hT, ⟨p, q, h1, h2, e⟩, hsm, hs =>
    ⟨p, q, WideElems.Trod_stays hl (hT t (by simp)).1 (hT t (by simp)).2 h1 (fun x hx => hsm x (by rw [e]; exact List.mem_append_left _ hx)) (fun x hx => hs x (by rw [e]; exact List.mem_append_left _ hx)),
      trodAll_stays hl (fun t ht => hT t (by simp [ht])) h2 (fun x hx => hsm x (by rw [e]; exact List.mem_append_right _ hx)) (fun x hx => hs x (by rw [e]; exact List.mem_append_right _ hx)), e⟩
/-- THE POST OF A LAW: true, and the input reads as it did, where the call wrote nothing that was there. -/
theorem law_post {f : Func} {s : ChangeSpec} {fresh handsOn again : Bool} {W W' : World} {args : Array Value} {ds gs : List (DataW H)} {before : List MemPlace} {tb : TypeId}
    (hl : laidOutB P = true) (hT : ∀ t ∈ f.params.toList, P.readableRec t = true ∧ t < P.types.size) (hr : f.resultTypes = #[tb]) (hb : P.underlying tb = some .bool)
    (hW : DataW.Whole enc P f.params.toList s.vars false W args.toList ds gs before) (hvs : s.vars = [])
    (hres : (s.fn H (ds ++ gs)).results = [.lit (.bool true)]) (hargs : (s.fn H (ds ++ gs)).args = ds) (hvars : (s.fn H (ds ++ gs)).vars = []) (hx : Ext W W') :
    s.post enc P f false fresh handsOn again W args (.bool true) W' := by
  have hlt : ∀ p ∈ before, p.block < W.heap.size := fun p hp => hW.lt p hp
  have hold : ∀ p ∈ before, (fun b => decide (b < W.heap.size)) p.block = true := fun p hp => by simpa using hlt p hp
  have hW0 := hW
  obtain ⟨p, q, hA, hV, rfl, hz, hn⟩ := hW
  rw [hvs] at hV
  obtain ⟨rfl, rfl⟩ := trodVars_none hV
  rw [List.append_nil] at hlt hold hz
  have HA : ∀ sp : Nat → Bool, (∀ x ∈ p, sp x.block = true) → DataW.TrodAll enc P W' 0 sp true f.params.toList args.toList (s.fn H (ds ++ [])).args p := fun sp hs => by
    rw [hargs]
    exact trodAll_stays hl hT hA (fun x hx' => hx.out.same (hlt x hx')) hs
  have HR : ∀ (b : Nat) (sp : Nat → Bool) (hd : Bool), DataW.TrodAll enc P W' b sp hd f.resultTypes.toList ((Value.bool true).resultList f.resultTypes.size) (s.fn H (ds ++ [])).results [] := fun b sp hd => by
    rw [hres, hr]
    exact trodAll_cons_mk (shut_bool hb _) trodAll_mk0
  have HV : ∀ sp : Nat → Bool, DataW.TrodVars enc P W' sp s.vars (s.fn H (ds ++ [])).vars [] := fun sp => by
    rw [hvs, hvars]
    rfl
  refine ⟨ds, [], p ++ [], [], p, [], hW0, HR _ _ _, HA _ hold, HV _, World.keptBut_mono (fun x hx' => ⟨hx', ?_⟩) (hx.out.frame (· ∈ p ++ [])), fun _ => ?_⟩
  · rw [List.append_nil] at hx'
    exact Or.inr (Or.inl hx')
  · refine ⟨?_, _, _, ([] ++ p) ++ [], ⟨[] ++ p, [], trodAll_append (HA _ (fun _ _ => rfl)) (HR _ _ _), HV _, rfl, ?_, fun ha => by cases ha⟩, ?_⟩
    · exact ok_one hr rfl (okWide_bool_mk hb _)
    · intro b off hp
      have hin : MemPlace.cell b off ∈ p := by simpa using hp
      rw [hx.out.frozen (hlt _ hin)]
      exact hz b off hin
    · intro x hx' _
      simpa using hx'
end
end
end Go.Proofs.YtjnplglnnamfdaaGreatDoor
namespace Go.Proofs.YtjnplglnnamfdaaGreatDoor
section
open Go.ChangeShapes Go.WideShapes Go.ChangeAt Go.RowKit Go.Deep Go.Joins
set_option linter.unusedVariables false
set_option linter.unusedSimpArgs false
/-- the shape of a type; 'sl e by': a slice, an element takes 'by' bytes; 'st': a struct or an array -/
inductive Sh where
  | int (k : IntKind)
  | bool
  | str
  | sl (e : Sh) (bs : Nat)
  | st (fs : List Sh)
mutual
def Sh.n : Sh → Nat
  | .st fs => Sh.ns fs
  | .int _ => 1
  | .bool => 1
  | .str => 1
  | .sl _ _ => 1
def Sh.ns : List Sh → Nat
  | [] => 0
  | f :: fs => f.n + Sh.ns fs
end
mutual
def Shows (w : World) : Sh → List Value → Prop
  | .int k, cs => ∃ z, cs = [.int k z] ∧ (Lit.int k z).wf = true
  | .bool, cs => ∃ b, cs = [.bool b]
  | .str, cs => ∃ s : ByteArray, cs = [.string s] ∧ s.size ≤ 140737488351232
  | .sl e bs, cs => ∃ (A : Option Addr) (n c : Nat) (xs : List Value), cs = [.slice A n c] ∧ At w A xs ∧ xs.length = n * e.n ∧ n ≤ c ∧ c * bs ≤ 140737488351232 ∧ ∀ i, i < n → Shows w e ((xs.drop (i * e.n)).take e.n)
  | .st fs, cs => ShowsL w fs cs
def ShowsL (w : World) : List Sh → List Value → Prop
  | [], cs => cs = []
  | f :: fs, cs => ∃ a b, cs = a ++ b ∧ Shows w f a ∧ ShowsL w fs b
end
mutual
def Sh.fits (P : Program) : Sh → TypeId → Bool
  | .int k, t => match P.underlying t with | some (.int k') => decide (k' = k) | _ => false
  | .bool, t => match P.underlying t with | some .bool => true | _ => false
  | .str, t => match P.underlying t with | some .string => true | _ => false
  | .sl e bs, t => match P.underlying t with | some (.slice u) => e.fits P u && decide (P.cellsOf u = e.n) && decide (P.bytesOf u = bs) && decide (0 < e.n) | _ => false
  | .st fs, t => match P.underlying t with
    | some (.struct gs) => decide (P.cellsOf t = Sh.ns fs) && Sh.fitsF P fs gs.toList 0
    | some (.array n u) => decide (P.cellsOf t = Sh.ns fs) && decide (fs.length = n) && Sh.fitsA P fs u
    | _ => false
def Sh.fitsF (P : Program) : List Sh → List Field → Nat → Bool
  | [], [], _ => true
  | f :: fs, g :: gs, off => decide (g.offset = off) && decide (P.cellsOf g.type = f.n) && f.fits P g.type && Sh.fitsF P fs gs (off + f.n)
  | _, _, _ => false
def Sh.fitsA (P : Program) : List Sh → TypeId → Bool
  | [], _ => true
  | f :: fs, u => decide (P.cellsOf u = f.n) && f.fits P u && Sh.fitsA P fs u
end
theorem mapM_at {α β : Type} {f : α → Option β} : ∀ {l : List α} {ys : List β}, l.mapM f = some ys → ys.length = l.length ∧ ∀ (i : Nat) (a : α), l[i]? = some a → f a = ys[i]?
  | [], ys, h => by simp at h; subst h; simp
  | a :: l, ys, h => by
    simp only [List.mapM_cons, Option.bind_eq_bind, Option.pure_def, Option.bind_eq_some_iff] at h
    obtain ⟨b, hb, bs, hbs, he⟩ := h
    obtain rfl : b :: bs = ys := by simpa using he
    obtain ⟨h1, h2⟩ := mapM_at hbs
    refine ⟨by simp [h1], fun i x hx => ?_⟩
    cases i with
    | zero => simp at hx; subst hx; simpa using hb
    | succ i => simpa using h2 i x (by simpa using hx)
section
variable {H : Type} {enc : TypeId × Value → H} {P : Program}
theorem weightsAll_at {e : TypeId} : ∀ {ds : List (DataW H)} (i : Nat) (d : DataW H), ds[i]? = some d → ∀ x ∈ d.weights P e, x ∈ DataW.weightsAll P e ds
  | [], i, d, h, x, hx => by simp at h
  | d0 :: ds, 0, d, h, x, hx => by
    simp at h; subst h
    simp only [DataW.weightsAll, List.mem_append]; exact .inl hx
  | d0 :: ds, i + 1, d, h, x, hx => by
    simp only [DataW.weightsAll, List.mem_append]
    exact .inr (weightsAll_at i d (by simpa using h) x hx)
/-- the cells of a slice's elements -/
theorem cells_row {w : World} {a : Addr} {m len : Nat} (hm : 0 < m) (h : ∀ i, i < len → ∃ csi, w.cells? 0 (a.add (i * m)) m = some csi) :
    ∃ xs : List Value, xs.length = len * m ∧ At w (some a) xs ∧ ∀ i, i < len → ∀ csi, w.cells? 0 (a.add (i * m)) m = some csi → (xs.drop (i * m)).take m = csi := by
  have key : ∀ i, i < len → ∀ csi, w.cells? 0 (a.add (i * m)) m = some csi → csi.length = m ∧ ∀ r, r < m → w.cell? (a.add (i * m + r)) = csi[r]? := by
    intro i hi csi hc
    unfold World.cells? at hc
    rw [if_pos (Nat.zero_le _)] at hc
    obtain ⟨h1, h2⟩ := mapM_at hc
    refine ⟨by simpa using h1, fun r hr => ?_⟩
    have := h2 r r (by simp [hr])
    rw [add_add'] at this
    exact this
  have each : ∀ j, j < len * m → ∃ u, w.cell? (a.add j) = some u := by
    intro j hj
    have hi : j / m < len := by rw [Nat.div_lt_iff_lt_mul hm]; exact hj
    obtain ⟨csi, hc⟩ := h _ hi
    obtain ⟨h1, h2⟩ := key _ hi _ hc
    have hr := Nat.mod_lt j hm
    have := h2 _ hr
    rw [show j / m * m + j % m = j by rw [Nat.mul_comm]; exact Nat.div_add_mod j m] at this
    rw [List.getElem?_eq_getElem (by omega)] at this
    exact ⟨_, this⟩
  refine ⟨(List.range (len * m)).map fun j => (w.cell? (a.add j)).getD undef, by simp, fun j u hu => ?_, fun i hi csi hc => ?_⟩
  · rw [List.getElem?_map] at hu
    rcases Nat.lt_or_ge j (len * m) with hj | hj
    · obtain ⟨v, hv⟩ := each j hj
      rw [List.getElem?_range hj] at hu
      simp only [Option.map_some, hv, Option.getD_some, Option.some.injEq] at hu
      subst hu
      have := World.block_lt_of_cell? _ _ hv
      rw [add_block] at this
      exact ⟨a, rfl, this, hv⟩
    · rw [List.getElem?_eq_none (by simpa using hj)] at hu; cases hu
  · obtain ⟨h1, h2⟩ := key i hi csi hc
    have hb : i * m + m ≤ len * m := by
      have : (i + 1) * m ≤ len * m := Nat.mul_le_mul_right m hi
      rw [Nat.add_mul, Nat.one_mul] at this
      exact this
    apply List.ext_getElem?
    intro r
    rw [List.getElem?_take]
    by_cases hr : r < m
    · rw [if_pos hr, List.getElem?_drop, List.getElem?_map, List.getElem?_range (by omega), Option.map_some, h2 r hr, List.getElem?_eq_getElem (by omega)]
      rfl
    · rw [if_neg hr, List.getElem?_eq_none (by omega)]
mutual
theorem sees_of {w : World} : ∀ (s : Sh) (t : TypeId) (fuel : Nat) (cs : List Value) (x : DataW H × List MemPlace), s.fits P t = true → DataW.trod enc P w 0 (fun _ => true) true fuel t cs = some x →
    (∀ n ∈ x.1.weights P t, n ≤ reachBytes) → Shows w s cs
  | .int k, t, fuel, cs, x, hf, h, hw => by
    simp only [Sh.fits] at hf
    split at hf
    · rename_i k' hu
      obtain rfl := of_decide_eq_true hf
      obtain ⟨z, hc, _, hz⟩ := DataW.trod_int hu h
      exact ⟨z, hc, hz⟩
    · cases hf
  | .bool, t, fuel, cs, x, hf, h, hw => by
    simp only [Sh.fits] at hf
    split at hf
    · rename_i hu
      obtain ⟨b, hc, _⟩ := DataW.trod_bool hu h
      exact ⟨b, hc⟩
    · cases hf
  | .str, t, fuel, cs, x, hf, h, hw => by
    simp only [Sh.fits] at hf
    split at hf
    · rename_i hu
      obtain ⟨s, hc, rfl, _⟩ := DataW.trod_string hu h
      refine ⟨s, hc, ?_⟩
      have := hw s.data.toList.length (by simp [DataW.weights])
      exact this
    · cases hf
  | .sl e bs, t, fuel, cs, x, hf, h, hw => by
    simp only [Sh.fits] at hf
    split at hf
    · rename_i u hu
      simp only [Bool.and_eq_true, decide_eq_true_eq] at hf
      obtain ⟨⟨⟨he, hm⟩, hb⟩, hp⟩ := hf
      rcases DataW.trod_slice hu h with ⟨rfl, rfl⟩ | ⟨a, len, cap, elems, rest, n, _, rfl, rfl, _, hl, _, hlen, hel, hsp, _⟩
      · exact ⟨none, 0, 0, [], rfl, At.nil _ _, by simp, by simp, by simp, fun i hi => by omega⟩
      · obtain ⟨hrl, _⟩ := hsp rfl
        rw [hm] at hel
        have hsz := hw ((elems.length + rest.length) * P.bytesOf u) (by simp [DataW.weights, hu])
        rw [hlen, hrl, hb] at hsz
        have hR : reachBytes = 140737488351232 := rfl
        rw [hR] at hsz
        have hex : ∀ i, i < len → ∃ csi y, w.cells? 0 (a.add (i * e.n)) e.n = some csi ∧ elems[i]? = some y ∧ DataW.trod enc P w 0 (fun _ => true) true n u csi = some y := by
          intro i hi
          have h1 := hel i hi
          rw [List.getElem?_eq_getElem (by omega), Option.bind_eq_some_iff] at h1
          obtain ⟨csi, hc, hy⟩ := h1
          exact ⟨csi, _, hc, List.getElem?_eq_getElem (by omega), hy⟩
        obtain ⟨xs, hxl, hxa, hxe⟩ := cells_row (w := w) (a := a) (len := len) hp (fun i hi => let ⟨csi, _, hc, _⟩ := hex i hi; ⟨csi, hc⟩)
        refine ⟨some a, len, cap, xs, rfl, hxa, hxl, hl, ?_, fun i hi => ?_⟩
        · rw [show len + (cap - len) = cap by omega] at hsz
          exact hsz
        · obtain ⟨csi, y, hc, hy, ht⟩ := hex i hi
          rw [hxe i hi csi hc]
          refine sees_of e u n csi y he ht fun z hz => hw z ?_
          simp only [DataW.weights, hu, List.mem_cons, List.mem_append]
          refine .inr (.inl ?_)
          exact weightsAll_at i y.1 (by rw [List.getElem?_map, hy]; rfl) z hz
    · cases hf
  | .st fs, t, fuel, cs, x, hf, h, hw => by
    simp only [Sh.fits] at hf
    split at hf
    · rename_i gs hu
      simp only [Bool.and_eq_true, decide_eq_true_eq] at hf
      obtain ⟨hc, hF⟩ := hf
      obtain ⟨xs, n, _, rfl, hcl, hxl, hat⟩ := DataW.trod_struct hu h
      have := seesF_of fs gs.toList 0 cs xs n hF (fun i g hg => hat i g (by rw [← hg]; exact (Array.getElem?_toList ..).symm)) (by simpa using hxl) (by omega) (fun z hz => hw z (by simp only [DataW.weights, hu]; exact hz))
      rw [List.drop_zero, List.take_of_length_le (by omega)] at this
      exact this
    · rename_i n u hu
      simp only [Bool.and_eq_true, decide_eq_true_eq] at hf
      obtain ⟨⟨hc, hn⟩, hF⟩ := hf
      obtain ⟨xs, m, _, rfl, hcl, hxl, hat⟩ := DataW.trod_array hu h
      have := seesA_of fs u 0 cs xs m hF (fun i hi => by rw [Nat.zero_add]; exact hat i (by omega)) (by omega) (by rw [Nat.zero_mul, Nat.zero_add]; omega) (fun z hz => hw z (by simp only [DataW.weights, hu]; exact hz))
      rw [Nat.zero_mul, List.drop_zero, List.take_of_length_le (by omega)] at this
      exact this
    · cases hf
theorem seesF_of {w : World} : ∀ (fs : List Sh) (gs : List Field) (off : Nat) (cs : List Value) (xs : List (DataW H × List MemPlace)) (m : Nat), Sh.fitsF P fs gs off = true →
    (∀ (i : Nat) (g : Field), gs[i]? = some g → DataW.trod enc P w 0 (fun _ => true) true m g.type ((cs.drop g.offset).take (P.cellsOf g.type)) = xs[i]?) → xs.length = gs.length → off + Sh.ns fs ≤ cs.length →
    (∀ n ∈ DataW.weightsEach P (gs.map (·.type)) (xs.map (·.1)), n ≤ reachBytes) → ShowsL w fs ((cs.drop off).take (Sh.ns fs))
  | [], [], off, cs, xs, m, hf, h, hx, hl, hw => by simp [ShowsL, Sh.ns]
  | f :: fs, g :: gs, off, cs, xs, m, hf, h, hx, hl, hw => by
    simp only [Sh.fitsF, Bool.and_eq_true, decide_eq_true_eq] at hf
    obtain ⟨⟨⟨ho, hc⟩, hff⟩, hF⟩ := hf
    simp only [Sh.ns] at hl
    match xs, hx with
    | y :: ys, hx =>
      have h0 := h 0 g rfl
      simp only [List.getElem?_cons_zero] at h0
      rw [ho, hc] at h0
      refine ⟨(cs.drop off).take f.n, (cs.drop (off + f.n)).take (Sh.ns fs), ?_, sees_of f g.type m _ y hff h0 (fun z hz => hw z ?_), seesF_of fs gs (off + f.n) cs ys m hF (fun i g' hg => ?_) (by simpa using hx) (by omega) (fun z hz => hw z ?_)⟩
      · rw [Sh.ns, ← List.drop_drop, List.take_add]
      · simp only [List.map_cons, DataW.weightsEach, List.mem_append]; exact .inl hz
      · simpa using h (i + 1) g' (by simpa using hg)
      · simp only [List.map_cons, DataW.weightsEach, List.mem_append]; exact .inr hz
  | [], _ :: _, off, cs, xs, m, hf, h, hx, hl, hw => by simp [Sh.fitsF] at hf
  | _ :: _, [], off, cs, xs, m, hf, h, hx, hl, hw => by simp [Sh.fitsF] at hf
theorem seesA_of {w : World} : ∀ (fs : List Sh) (u : TypeId) (k : Nat) (cs : List Value) (xs : List (DataW H × List MemPlace)) (m : Nat), Sh.fitsA P fs u = true →
    (∀ i, i < fs.length → DataW.trod enc P w 0 (fun _ => true) true m u ((cs.drop ((k + i) * P.cellsOf u)).take (P.cellsOf u)) = xs[i]?) → xs.length = fs.length → k * P.cellsOf u + Sh.ns fs ≤ cs.length →
    (∀ n ∈ DataW.weightsAll P u (xs.map (·.1)), n ≤ reachBytes) → ShowsL w fs ((cs.drop (k * P.cellsOf u)).take (Sh.ns fs))
  | [], u, k, cs, xs, m, hf, h, hx, hl, hw => by simp [ShowsL, Sh.ns]
  | f :: fs, u, k, cs, xs, m, hf, h, hx, hl, hw => by
    simp only [Sh.fitsA, Bool.and_eq_true, decide_eq_true_eq] at hf
    obtain ⟨⟨hc, hff⟩, hF⟩ := hf
    simp only [Sh.ns] at hl
    match xs, hx with
    | y :: ys, hx =>
      have h0 := h 0 (by simp)
      simp only [List.getElem?_cons_zero, Nat.add_zero] at h0
      have hk : (k + 1) * P.cellsOf u = k * P.cellsOf u + f.n := by rw [Nat.add_mul, Nat.one_mul, hc]
      refine ⟨(cs.drop (k * P.cellsOf u)).take f.n, (cs.drop ((k + 1) * P.cellsOf u)).take (Sh.ns fs), ?_, sees_of f u m _ y hff (by rw [← hc]; exact h0) (fun z hz => hw z ?_), seesA_of fs u (k + 1) cs ys m hF (fun i hi => ?_) (by simpa using hx) (by rw [hk]; omega) (fun z hz => hw z ?_)⟩
      · rw [Sh.ns, hk, ← List.drop_drop, List.take_add]
      · simp only [List.map_cons, DataW.weightsAll, List.mem_append]; exact .inl hz
      · rw [show k + 1 + i = k + (i + 1) by omega]
        simpa using h (i + 1) (by simp; omega)
      · simp only [List.map_cons, DataW.weightsAll, List.mem_append]; exact .inr hz
end
end
/-- an argument opened -/
theorem sees_arg {H : Type} {enc : TypeId × Value → H} {P : Program} {w : World} {ts : List TypeId} {ds : List (DataW H)} (hsz : (DataW.weightsEach P ts ds).all (· ≤ reachBytes) = true) (j : Nat) {t : TypeId} {v : Value} {d : DataW H} {p : List MemPlace} (s : Sh)
    (hf : s.fits P t = true) (ht : ts[j]? = some t) (hd : ds[j]? = some d) (h : DataW.Trod enc P w 0 (fun _ => true) true t v d p) : Shows w s v.cells.toList := by
  obtain ⟨fuel, h⟩ := h
  exact sees_of s t fuel _ (d, p) hf h fun n hn => of_decide_eq_true (List.all_eq_true.1 hsz n (DataW.weights_mem_each ht hd n hn))
/-- the elements of a slice as a list -/
theorem chunks {T : Type} (f : T → List Value) (p : T → Prop) (m : Nat) : ∀ (n : Nat) (xs : List Value), xs.length = n * m → (∀ i, i < n → ∃ t, (xs.drop (i * m)).take m = f t ∧ p t) →
    ∃ ts : List T, ts.length = n ∧ xs = ts.flatMap f ∧ ∀ t ∈ ts, p t
  | 0, xs, hl, h => ⟨[], rfl, by simpa using hl, by simp⟩
  | n + 1, xs, hl, h => by
    obtain ⟨t, ht, hp⟩ := h 0 (by omega)
    rw [Nat.zero_mul, List.drop_zero] at ht
    have hle : (n + 1) * m = m + n * m := by rw [Nat.add_mul, Nat.one_mul, Nat.add_comm]
    obtain ⟨ts, h1, h2, h3⟩ := chunks f p m n (xs.drop m) (by rw [List.length_drop]; omega) (fun i hi => by
      obtain ⟨t', ht', hp'⟩ := h (i + 1) (by omega)
      refine ⟨t', ?_, hp'⟩
      rw [List.drop_drop, show m + i * m = (i + 1) * m by rw [Nat.add_mul, Nat.one_mul, Nat.add_comm]]
      exact ht')
    refine ⟨t :: ts, by simp [h1], ?_, by simpa using ⟨hp, h3⟩⟩
    rw [List.flatMap_cons, ← h2, ← ht, List.take_append_drop]
theorem flatMap_one {T : Type} (f : T → Value) : ∀ ts : List T, (ts.flatMap fun t => [f t]) = ts.map f
  | [] => rfl
  | t :: ts => by simp [flatMap_one f ts]
/-- a slice of ints -/
theorem sees_ints {w : World} {k : IntKind} {bs : Nat} {cs : List Value} (h : Shows w (.sl (.int k) bs) cs) :
    ∃ (A : Option Addr) (c : Nat) (zs : List Int), cs = [.slice A zs.length c] ∧ At w A (zs.map (Value.int k)) ∧ zs.length ≤ c ∧ c * bs ≤ 140737488351232 ∧ ∀ z ∈ zs, (Lit.int k z).wf = true := by
  simp only [Shows, Sh.n, Nat.mul_one] at h
  obtain ⟨A, n, c, xs, rfl, hA, hl, hc, hb, he⟩ := h
  obtain ⟨zs, h1, h2, h3⟩ := chunks (fun z => [Value.int k z]) (fun z => (Lit.int k z).wf = true) 1 n xs (by omega) (fun i hi => by rw [Nat.mul_one]; exact he i hi)
  rw [flatMap_one] at h2
  subst h1 h2
  exact ⟨A, c, zs, rfl, hA, hc, hb, h3⟩
/-- what an argument is -/
def ShowsV (w : World) (s : Sh) (v : Value) : Prop := match s with
  | .st fs => ∃ cs : List Value, v = .agg ⟨cs⟩ ∧ ShowsL w fs cs
  | s => Shows w s [v]
theorem sees_val {P : Program} {W w : World} {r : Reach} {b0 : Nat} {t : TypeId} {v : Value} (s : Sh) (hf : s.fits P t = true) (hv : Value.okWide P W r b0 t v) (h : Shows w s v.cells.toList) : ShowsV w s v := by
  cases s with
  | int k =>
    simp only [Sh.fits] at hf
    split at hf
    · rename_i k' hu
      obtain ⟨n, rfl⟩ := okWide_int hu hv
      exact h
    · cases hf
  | bool =>
    simp only [Sh.fits] at hf
    split at hf
    · rename_i hu
      obtain ⟨n, rfl⟩ := okWide_bool hu hv
      exact h
    · cases hf
  | str =>
    simp only [Sh.fits] at hf
    split at hf
    · rename_i hu
      obtain ⟨n, rfl⟩ := okWide_string hu hv
      exact h
    · cases hf
  | sl e bs =>
    simp only [Sh.fits] at hf
    split at hf
    · rename_i u hu
      obtain ⟨a, l, c, rfl⟩ := okWide_slice hu hv
      exact h
    · cases hf
  | st fs =>
    simp only [Sh.fits] at hf
    split at hf
    · rename_i gs hu
      obtain ⟨cs, rfl, _⟩ := okWide_struct hu hv
      exact ⟨cs.toList, rfl, h⟩
    · rename_i n u hu
      simp only [Value.okWide, hu] at hv
      obtain ⟨cs, rfl, _⟩ := hv
      exact ⟨cs.toList, rfl, h⟩
    · cases hf
end
end Go.Proofs.YtjnplglnnamfdaaGreatDoor
namespace Go.Proofs.YtjnplglnnamfdaaGreatDoor
section
open Go.ChangeShapes Go.WideShapes Go.ChangeAt Go.RowKit Go.Deep Go.Joins
set_option linter.unusedVariables false
set_option linter.unusedSimpArgs false
abbrev laid1 : List (String × DataW Unit) := [("vintner/tuple.none", Rows.laid_vintner_tuple_none)]
theorem gNone : Tryz.prog.globalNamed "vintner/tuple.none" = some 0 := by kernel_rfl
theorem tNone : (Tryz.prog.globals[0]?).map (·.type) = some 24 := by kernel_rfl
theorem door_met (os : Os) (args : Array Value) : laidMetH Tryz.prog laid1 ((World.doorLaid Tryz.prog 400 os).forCall (fun _ _ => 0) ⟨#[], args, []⟩).memory :=
  laidMetH_of_parts3 (fuel := 8) (laidMet_of_run' 8 (by kernel_rfl) (by kernel_rfl)) (by kernel_rfl) (by kernel_rfl)
set_option maxRecDepth 100000 in
theorem none_of_laid {W : World} (h : laidMetH Tryz.prog laid1 W) : NoneAt W := by
  rw [MakeChecks.laidMetH_plain _ _ _ (by kernel_rfl)] at h
  obtain ⟨ps, ⟨g0, t0, cs0, f0, p0, q0, hg0, ht0, hv0, hd0, _, _⟩, _, _⟩ := h
  obtain rfl := Option.some.inj (gNone.symm.trans hg0)
  obtain rfl := Option.some.inj (tNone.symm.trans ht0)
  obtain ⟨xs, m, _, hx, hc, hl, hat⟩ := DataW.trod_struct Tryz.underlying24 hd0
  have c2 : Tryz.prog.cellsOf 24 = 2 := by kernel_rfl
  have c1 : Tryz.prog.cellsOf 3 = 1 := by kernel_rfl
  rw [c2] at hc
  obtain ⟨l0⟩ := cs0
  match l0, hc with
  | [a, b], _ =>
    have hl2 : xs.length = 2 := hl
    match xs, hl2, hx, hat with
    | [x0, x1], _, hx, hat =>
      have e0 := hat 0 _ rfl
      have e1 := hat 1 _ rfl
      obtain ⟨k, k1, k2, _⟩ := DataW.trod_int Tryz.underlying3 (show DataW.trod _ Tryz.prog W 0 _ _ m 3 _ = some x0 from e0)
      obtain ⟨n, n1, n2, _⟩ := DataW.trod_int Tryz.underlying3 (show DataW.trod _ Tryz.prog W 0 _ _ m 3 _ = some x1 from e1)
      subst k2 n2
      have hh : DataW.agg [DataW.lit (Lit.int .i64 (-1)), DataW.lit (Lit.int .i64 0)] = DataW.agg [(DataW.lit (Lit.int .i64 k) : DataW Unit), DataW.lit (Lit.int .i64 n)] := (Prod.mk.inj hx).1
      injection hh with hh
      injection hh with h0 h1
      injection h1 with h1 _
      injection h0 with h0
      injection h0 with _ hk
      injection h1 with h1
      injection h1 with _ hn
      subst hk hn
      have ka : a = .int .i64 (-1) := by
        have h3 : List.take (Tryz.prog.cellsOf 3) [a, b] = [Value.int .i64 (-1)] := k1
        rw [c1] at h3
        simpa using h3
      have nb : b = .int .i64 0 := by
        have h3 : List.take (Tryz.prog.cellsOf 3) [b] = [Value.int .i64 0] := n1
        rw [c1] at h3
        simpa using h3
      subst ka nb
      have h0 : W.cell? ⟨0, 0, none⟩ = some (.int .i64 (-1)) := (World.var?_cell hg0 hv0 0).trans rfl
      have h1 : W.cell? ⟨0, 1, none⟩ = some (.int .i64 0) := (World.var?_cell hg0 hv0 1).trans rfl
      intro j u hj
      match j, hj with
      | 0, hj =>
        obtain rfl : Value.int .i64 (-1) = u := by simpa using hj
        exact ⟨_, rfl, World.block_lt_of_cell? _ _ h0, h0⟩
      | 1, hj =>
        obtain rfl : Value.int .i64 0 = u := by simpa using hj
        exact ⟨_, rfl, World.block_lt_of_cell? _ _ h0, by rw [Addr.add_lit]; exact h1⟩
      | j + 2, hj => simp at hj
theorem i64_bd {z : Int} (h : (Lit.int .i64 z).wf = true) : -9223372036854775808 ≤ z ∧ z ≤ 9223372036854775807 := by
  rw [Lit.wf, Bool.and_eq_true, decide_eq_true_eq, decide_eq_true_eq, show IntKind.i64.min = -9223372036854775808 from rfl, show IntKind.i64.max = 9223372036854775807 from rfl] at h
  exact h
end
end Go.Proofs.YtjnplglnnamfdaaGreatDoor
namespace Go.Proofs.YtjnplglnnamfdaaGreatDoor.vacuumMap
section
open Go.ChangeShapes Go.WideShapes Go.ChangeAt Go.RowKit Go.Deep Go.Joins
set_option linter.unusedVariables false
set_option maxRecDepth 100000 in
theorem lifted (os : Os) (started : os.Started) (H : Type) (enc : TypeId × Value → H) :
    ReturnsInHanded {} Tryz.checked os 8 .any (fun w args => (Rows.vacuumMapSpec.pre enc Tryz.prog Tryz.f8 [] false w args ∧ laidMetH Tryz.prog laid1 w) ∧ sizedMet enc Tryz.prog Tryz.f8 (OpenSpec.ofChange Rows.vacuumMapSpec) false w args) (Rows.vacuumMapSpec.post enc Tryz.prog Tryz.f8 false true false false) := by
  refine returnsInHanded_of_change_and (C := Tryz.checked) (X := fun w _ => laidMetH Tryz.prog laid1 w) (fun _ _ _ hh h => h.of_heap hh) ownKnob_none started (by kernel_rfl) Tryz.func8
    (ChangeSpec.witness_shaped (enc := enc) (C := Tryz.checked) (os := os) (X := fun w _ => laidMetH Tryz.prog laid1 w) false (World.doorLaid Tryz.prog 400 os) #[.slice none 0 0, .slice none 0 0, .slice none 0 0] 8 rfl (World.shaped_of_RefB (by kernel_rfl) (by kernel_rfl)) (by kernel_rfl) (by kernel_rfl) (by kernel_rfl) (door_met os _)) ?_
  intro W base args ds gs before hval0 hW hcnd hsz0 hLaid _
  have hN := none_of_laid hLaid
  have hval : ∀ (j : Nat) t v, Tryz.f8.params[j]? = some t → args[j]? = some v → Value.okWide Tryz.prog W .any base t v := hval0
  have hsz : (DataW.weightsEach Tryz.prog (Tryz.f8.params.toList ++ Rows.vacuumMapSpec.plain.varTypes Tryz.prog) (ds ++ gs)).all (· ≤ reachBytes) = true := hsz0
  clear hsz0 hval0
  have hW' := hW
  obtain ⟨p, q, hA0, hV, rfl, hfz, hnd⟩ := hW
  have hA : DataW.TrodAll enc Tryz.prog W 0 (fun _ => true) true Tryz.f8.params.toList args.toList ds p := hA0
  clear hA0
  rw [Tryz.params8] at hA hval hsz
  obtain ⟨v0, vs0, d0, ds0, p0, q0, hargs, rfl, rfl, h0, r0⟩ := trodAll_cons hA
  obtain ⟨v1, vs1, d1, ds1, p1, q1, rfl, rfl, rfl, h1, r1⟩ := trodAll_cons r0
  obtain ⟨v2, vs2, d2, ds2, p2, q2, rfl, rfl, rfl, h2, r2⟩ := trodAll_cons r1
  obtain ⟨rfl, rfl, rfl⟩ := trodAll_nil r2
  obtain rfl : args = #[v0, v1, v2] := by cases args; simp_all
  obtain ⟨rfl, rfl⟩ := trodVars_none hV
  have s0 := sees_val (.sl (.int .i64) 8) (by kernel_rfl) (hval 0 _ _ rfl rfl) (sees_arg hsz 0 (.sl (.int .i64) 8) (by kernel_rfl) rfl rfl h0)
  have s1 := sees_val (.sl (.int .i64) 8) (by kernel_rfl) (hval 1 _ _ rfl rfl) (sees_arg hsz 1 (.sl (.int .i64) 8) (by kernel_rfl) rfl rfl h1)
  have s2 := sees_val (.sl (.st [.int .i64, .int .i64, .int .i64]) 24) (by kernel_rfl) (hval 2 _ _ rfl rfl) (sees_arg hsz 2 (.sl (.st [.int .i64, .int .i64, .int .i64]) 24) (by kernel_rfl) rfl rfl h2)
  clear hsz
  obtain ⟨SA, sc, s, hE, atSA, lSA, bSA, wSA⟩ := sees_ints s0
  cases hE
  obtain ⟨TA, tc, stand, hE, atTA, lTA, bTA, wTA⟩ := sees_ints s1
  cases hE
  obtain ⟨CA, n_, cc, xs_, hE, atCA, e_, lCA, bCA, p_⟩ := s2
  cases hE
  obtain ⟨cs, e1_, e2_, wCA⟩ := chunks (T := T3) t3C (fun t => -9223372036854775808 ≤ t.2.1 ∧ t.2.1 ≤ 9223372036854775807) 3 n_ xs_ e_ (fun i_ hi_ => by
    have g_ := p_ i_ hi_
    obtain ⟨a0_, b0_, e0_, s0_, g_⟩ := g_
    obtain ⟨a1_, b1_, e1_, s1_, g_⟩ := g_
    obtain ⟨a2_, b2_, e2_, s2_, g0_⟩ := g_
    obtain ⟨k, f0_, wk⟩ := s0_
    obtain ⟨x, f1_, wx⟩ := s1_
    obtain ⟨z, f2_, wz⟩ := s2_
    have g_ : _ = _ := e0_
    rw [f0_, e1_, f1_, e2_, f2_, show b2_ = [] from g0_] at g_
    exact ⟨(k, x, z), g_, i64_bd wx⟩)
  subst e1_ e2_
  refine (vacuummap_any SA sc s TA tc stand CA cc cs W atSA (by omega) atTA (by omega) atCA (by omega) (fun t ht => wCA t ht) hN).mono fun e W' ⟨he, hx⟩ => ?_
  subst he
  exact ⟨_, rfl, law_post laidOut (by rw [Tryz.params8]; exact (by decide +kernel)) rfl Tryz.underlying4 hW' rfl rfl rfl rfl hx⟩
theorem over : Rows.vacuumMapRow.holds Tryz.pinned (OpenSpec.ofChange Rows.vacuumMapSpec) :=
  OpenClaim.holds_of_wide 8 Tryz.f8 rfl rfl rfl rfl rfl rfl rfl ⟨rfl, rfl, rfl, rfl, rfl⟩ rfl rfl rfl rfl rfl (by kernel_rfl) Tryz.func8 (by kernel_rfl)
    (of_decide_eq_true (by kernel_rfl)) (by unfold Func.isWrapper; first | (rw [if_pos (by decide +kernel)]; kernel_rfl) | (rw [if_neg (by decide +kernel)]; exact ⟨rfl, rfl⟩))
    (fun os started H enc _ => lifted os started H enc)
theorem proved : Rows.VacuumMapCardSaid :=
  Claim7.holds_tied_plain_at .later [] [.data] true (true, "0534fde15a7cf9e11f91172a4db23648e64874bb25525f842c5fe204828ffe26") true
    over (fun _ h => by cases h) (by kernel_rfl) (fun _ h => by cases h) vacuumMap_row_tie rfl ⟨rfl, rfl⟩ (by kernel_rfl) rfl
    (fun f fn hf hfn => by
      obtain rfl : f = 8 := Option.some.inj ((show Tryz.prog.funcNamed "vintner/vintnerlaw15.VacuumMap" = some 8 by kernel_rfl).symm.trans hf) |>.symm
      obtain rfl : fn = Tryz.f8 := (Option.some.inj (Tryz.func8.symm.trans hfn)).symm
      exact ⟨by kernel_rfl, fun j t ht => by
        rw [Tryz.params8] at ht
        have hm : t ∈ [22, 22, 113] := by simpa using Array.mem_of_getElem? ht
        have hall : ([22, 22, 113].all fun u => !Tryz.prog.wantsStandIn u) = true := by kernel_rfl
        exact (show Tryz.prog.wantsStandIn t = false by simpa using List.all_eq_true.1 hall t hm)⟩)
    (by kernel_rfl)
end
end Go.Proofs.YtjnplglnnamfdaaGreatDoor.vacuumMap

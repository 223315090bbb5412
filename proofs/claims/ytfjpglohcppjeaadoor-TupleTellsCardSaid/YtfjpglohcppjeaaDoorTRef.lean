/- The references of tuple, over states that lie in an array. -/
import Derived.Test.YtfjpglohcppjeaaDoorT3
import Derived.Test.YtfjpglohcppjeaaDoorT2b
import Derived.Test.YtfjpglohcppjeaaDoorT6
namespace Go.Proofs.YtfjpglohcppjeaaDoor
open Go.RowKit
set_option linter.unusedVariables false
set_option linter.unusedSimpArgs false

def tabF (T : List Int) (x : Int) : Int := if x < 0 ∨ 127 < x then 0 else T.getD x.toNat 0
def endS (hi : Int) (ls : List Int) (s x : Int) : Bool := if x = 2 then true else onF x && beforeF x hi && !ls.contains x && s == 2
theorem endS_eq (hi : Int) (ls : List Int) (g : Int → Int) (x : Int) : endS hi ls (g x) x = endedF hi ls g x := rfl
theorem steps_turn {a b k : Int} (ha : onF a = true) (hb : onF b = true) (hk : 0 ≤ k) (hk2 : k ≤ stepsF a b) (h : turnF a k = b) : k = stepsF a b := by
  have h1 := onF_iff.1 ha
  have h2 := onF_iff.1 hb
  rw [turnF_on ha hk] at h
  unfold stepsF at *
  omega
theorem steps_at {a b : Int} (ha : onF a = true) (hb : onF b = true) : turnF a (stepsF a b) = b := by
  have h1 := onF_iff.1 ha
  have h2 := onF_iff.1 hb
  rw [turnF_on ha (by unfold stepsF; omega)]
  unfold stepsF
  omega
theorem steps_bd (a b : Int) : 0 ≤ stepsF a b ∧ stepsF a b < 125 := by unfold stepsF; omega
theorem con_step {ls : List Int} {x : Int} {k : Nat} (h : k < ls.length) (hc : (ls.take k).contains x = false) (hne : ls.getD k 0 ≠ x) : (ls.take (k + 1)).contains x = false := by
  rw [List.take_add_one, List.getElem?_eq_getElem h]
  rw [List.getD_eq_getElem?_getD, List.getElem?_eq_getElem h] at hne
  simp only [List.contains_eq_mem, decide_eq_false_iff_not] at hc ⊢
  intro hm
  rcases List.mem_append.1 hm with hm | hm
  · exact hc hm
  · simp at hm; exact hne hm.symm
theorem con_yes {ls : List Int} {x : Int} {k : Nat} (h : k < ls.length) (he : ls.getD k 0 = x) : ls.contains x = true := by
  rw [List.getD_eq_getElem?_getD, List.getElem?_eq_getElem h] at he
  simp only [List.contains_eq_mem, decide_eq_true_eq]
  rw [← he]; exact List.getElem_mem h
set_option maxRecDepth 100000 in
set_option maxHeartbeats 2000000 in
theorem rin_any (A : Option Addr) (c : Nat) (ls : List Int) (x : Int) (w : World) (hA : At w A (ls.map (Value.int .i64))) (hl : ls.length ≤ 100000) :
    Calls Tryd.prog 75 #[.slice A ls.length c, .int .i64 x] w (Ret (.bool (ls.contains x)) w) := by
  go_enter Tryd.func75, Tryd.ntmps75
  have hst0 := St.start w
  refine wp_seq ?_
  refine wp_region_P [0] [.k 4 (.bool false)] [(4, 0, 1, 5)] hst0 fun W1 hst1 => ?_
  refine then_normal ?_
  refine wp_seq ?_
  refine wp_seq ?_
  refine wp_region_P [0] [.k 5 (.int .i64 0)] [(5, 0, 1, 6)] hst1 fun W2 hst2 => ?_
  refine then_normal ?_
  refine wp_block ?_
  refine wp_loopN (fun mz az W => ∃ k : Nat, ∃ u3_ : List Value, k ≤ ls.length ∧ (ls.take k).contains x = false ∧ mz = ls.length - k ∧ az = ⟨#[.slice A ls.length c, .int .i64 x, undef, undef, (u3_.getD 0 undef), .int .i64 ((k : Int)), (u3_.getD 1 undef), (u3_.getD 2 undef), (u3_.getD 3 undef), (u3_.getD 4 undef), (u3_.getD 5 undef), (u3_.getD 6 undef), (u3_.getD 7 undef), (u3_.getD 8 undef), (u3_.getD 9 undef), (u3_.getD 10 undef), (u3_.getD 11 undef), (u3_.getD 12 undef)], []⟩ ∧ St w [] [] W) (ls.length - 0) ?_ ?_
  · -- the loop begins
    have hp4 := hst2.pick [] (by decide) rfl
    exact ⟨0, [.bool false, undef, undef, undef, undef, undef, undef, undef, undef, undef, undef, undef, undef], Nat.zero_le _, rfl, rfl, rfl, hp4⟩
  rintro n3 a3 W3 ⟨k, u3_, hk, hc, rfl, rfl, hst3⟩
  refine wp_seq ?_
  refine wp_seq ?_
  refine wp_region_P [0, 0, 2, 7] [.k 6 (.int .i64 ((k : Int))), .k 7 (.slice A ls.length c), .k 8 (.int .i64 ((ls.length : Int))), .k 9 (.bool (decide ((k : Int) < (ls.length : Int))))] [(6, 0, 4, 10)] hst3 fun W5 hst5 => ?_
  refine then_normal ?_
  rcases Bool.eq_false_or_eq_true (decide ((k : Int) < (ls.length : Int))) with hs6 | hs6
  · skip
    have hs6p : (k : Int) < (ls.length : Int) := by simpa using hs6
    refine wp_cond_true (show Act.eval _ _ = .bool true from (congrArg Value.bool hs6)) ?_
    refine wp_skip ?_
    refine then_normal ?_
    refine wp_seq ?_
    refine wp_block ?_
    refine wp_seq ?_
    refine wp_region_T [0, 0, 3, 7, 0, 31] [] [] [] [.k 12 (.slice A ls.length c), .k 13 (.int .i64 ((k : Int))), .c 14 (.pointer (some ((ad A).add k))), .c 15 (.int .i64 (ls.getD k 0)), .k 16 (.int .i64 x), .k 17 (.bool ((ls.getD k 0) == x))] (fun _ _ _ _ => True) [] [2, 3] [(12, 0, 6, 18)] hst5 ?_ ?_ ?_
    · exact fun _ _ _ _ _ _ _ _ _ _ h => h
    · refine ⟨?_, ?_, trivial⟩
      · exact s4 rfl (fun _ _ _ h => h) fun cx => run_indexSl (e := 3) (m := k) rfl (by kernel_rfl) (by kernel_rfl) (cx.anc 0 rfl) (cx.anc 1 rfl) (by omega) (by omega) (hA.ext cx.upd.to_ext) (by simp)
      · exact s4 rfl (fun _ _ _ h => h) fun cx => run_load1 rfl (by kernel_rfl) (cx.anc 2 rfl) (At.cellAd (hA.ext cx.upd.to_ext) (getD_int (by omega)))
    intro σ β X W7 hD hX hst7 fr hfr
    simp only [zM] at hst7
    dsimp only [mgT, vals, List.take, List.drop, List.cons_append, List.nil_append] at hfr
    clear hX hD; subst hfr; clear σ β X
    refine then_normal ?_
    rcases Bool.eq_false_or_eq_true ((ls.getD k 0) == x) with hs8 | hs8
    · skip
      have hs8p : (ls.getD k 0) = x := by simpa using hs8
      refine wp_cond_true (show Act.eval _ _ = .bool true from (congrArg Value.bool hs8)) ?_
      refine wp_seq ?_
      refine wp_region_P [0] [.k 4 (.bool true)] [(4, 0, 1, 5)] hst7 fun W9 hst9 => ?_
      refine then_normal ?_
      refine wp_ret ?_
      refine blk_ret ?_
      refine then_ret ?_
      refine then_ret ?_
      refine blk_ret ?_
      refine then_ret ?_
      refine bodyPost_ret (v := .bool true) (results_tmp Tryd.results75 rfl) rfl ?_
      exact Ret.bool (con_yes (k := k) (by omega) (by assumption)).symm hst9.ext
    have hs8p : (ls.getD k 0) ≠ x := by simpa using hs8
    refine wp_cond_false (show Act.eval _ _ = .bool false from (congrArg Value.bool hs8)) ?_
    refine wp_skip ?_
    refine blk_normal ?_
    refine then_normal ?_
    refine wp_region_P [0, 1, 3] [.k 10 (.int .i64 ((k : Int))), tI 11 ((k : Int) + 1) (by omega), .k 5 (.int .i64 ((k : Int) + 1))] [(5, 2, 1, 6), (4, 0, 2, 6)] hst7 fun W10 hst10 => ?_
    refine then_normal ?_
    refine ⟨ls.length - ((k + 1)), by omega, ?_⟩
    have hp11 := hst10.pick [] (by decide) rfl
    exact ⟨(k + 1), [(u3_.getD 0 undef), .int .i64 ((k : Int)), .slice A ls.length c, .int .i64 ((ls.length : Int)), .bool (decide ((k : Int) < (ls.length : Int))), .int .i64 ((k : Int)), .int .i64 ((k : Int) + 1), .slice A ls.length c, .int .i64 ((k : Int)), .pointer (some ((ad A).add k)), .int .i64 (ls.getD k 0), .int .i64 x, .bool ((ls.getD k 0) == x)], by omega, con_step (by omega) hc (by assumption), rfl, rfl, hp11⟩
  have hs6p : ¬ ((k : Int) < (ls.length : Int)) := by simpa using hs6
  refine wp_cond_false (show Act.eval _ _ = .bool false from (congrArg Value.bool hs6)) ?_
  refine wp_exit ?_
  refine then_exit ?_
  refine then_exit ?_
  refine blk_eq ?_
  refine then_normal ?_
  refine wp_seq ?_
  refine wp_region_P [0] [.k 4 (.bool false)] [(4, 0, 1, 5)] hst5 fun W12 hst12 => ?_
  refine then_normal ?_
  refine wp_ret ?_
  refine bodyPost_ret (v := .bool false) (results_tmp Tryd.results75 rfl) rfl ?_
  exact Ret.bool (by rw [← hc, List.take_of_length_le (by omega)]) hst12.ext

set_option maxRecDepth 100000 in
set_option maxHeartbeats 2000000 in
theorem rst_any (T : List Int) (x : Int) (w : World) (hT : T.length = 128) :
    Calls Tryd.prog 71 #[.agg (T.map (Value.int .i64)).toArray, .int .i64 x] w (Ret (.int .i64 (tabF T x)) w) := by
  go_enter Tryd.func71, Tryd.ntmps71
  have hst0 := St.start w
  refine wp_seq ?_
  refine wp_region_T [0, 0] [] [[0]] [] [.a 2, .k 4 (.int .i64 0)] (fun ix σ β X => match ix with | 0 => σ 2 = .pointer (some ⟨(pb (β 2)), 0, none⟩) ∧ X 0 = eB (pb (β 2)) 49 (T.map (Value.int .i64)).toArray | _ => True) [0] [0] [(2, 0, 1, 3), (1, 1, 1, 2)] hst0 ?_ ?_ ?_
  · exact fun ix _ _ _ _ _ _ hs hb hx h => match ix, h with
    | 0, h => by dsimp only at h ⊢; rw [← hs 2 rfl, ← hb 2 rfl, ← hx 0 rfl]; exact h
    | _ + 1, _ => trivial
  · refine ⟨?_, trivial⟩
    · refine sv_any rfl rfl fun ρ β W X cx => ?_
      exact dv_box (cs := (T.map (Value.int .i64)).toArray) rfl (cx.out 0 rfl) rfl rfl rfl (fun σ β' X' hs hb hv hx => ⟨hv, hx⟩)
  intro σ β X W1 hD hX hst1 fr hfr
  obtain ⟨B2_1, hu_B2_1⟩ : ∃ z, pb (β 2) = z := ⟨_, rfl⟩
  simp only [zM, exq 0 ((dTn (hD 0 lq)).2), hu_B2_1] at hst1
  dsimp only [mgT, vals, List.take, List.drop, List.cons_append, List.nil_append] at hfr
  simp only [ed 2 ((dTn (hD 0 lq)).1), hu_B2_1] at hfr
  clear hX hD hu_B2_1; subst hfr; clear σ β X
  refine then_normal ?_
  refine wp_seq ?_
  refine wp_seq ?_
  refine wp_region_P [0, 1, 3, 7, 15, 31] [.k 5 (.int .i64 x), .k 6 (.bool (decide (x < 0))), .k 7 (.bool (decide (x < 0))), .z 8 (!(decide (x < 0))) (.int .i64 x), .z 9 (!(decide (x < 0))) (.bool (decide (127 < x))), tO 10 (decide (x < 0)) (decide (127 < x))] [(5, 0, 6, 11)] hst1 fun W2 hst2 => ?_
  refine then_normal ?_
  rcases Bool.eq_false_or_eq_true ((decide (x < 0)) || (decide (127 < x))) with hs3 | hs3
  · skip
    have hs3p := hs3
    simp only [zB] at hs3p
    refine wp_cond_true (show Act.eval _ _ = .bool true from (congrArg Value.bool hs3)) ?_
    refine wp_seq ?_
    refine wp_region_P [0] [.k 4 (.int .i64 0)] [(4, 0, 1, 5)] hst2 fun W4 hst4 => ?_
    refine then_normal ?_
    refine wp_ret ?_
    refine then_ret ?_
    refine bodyPost_ret (v := .int .i64 0) (results_tmp Tryd.results71 rfl) rfl ?_
    exact Ret.int (by unfold tabF; rw [if_pos (by omega)]) hst4.ext
  have hs3p := hs3
  simp only [zB] at hs3p
  obtain ⟨hs3p1, hs3p2⟩ := hs3p
  refine wp_cond_false (show Act.eval _ _ = .bool false from (congrArg Value.bool hs3)) ?_
  refine wp_skip ?_
  refine then_normal ?_
  refine wp_seq ?_
  refine wp_region_T [0, 0, 3, 7, 15] [[], [], [], [0]] [] [] [.k 11 (.int .i64 x), .k 12 (.pointer (some ⟨B2_1, 0, none⟩)), .c 13 (.pointer (some ⟨B2_1, (x).toNat, none⟩)), .c 14 (.int .i64 (T.getD ((x).toNat) 0)), .k 4 (.int .i64 (T.getD ((x).toNat) 0))] (fun _ _ _ _ => True) [0] [2, 3] [(4, 4, 1, 5), (6, 0, 4, 10)] hst2 ?_ ?_ ?_
  · exact fun _ _ _ _ _ _ _ _ _ _ h => h
  · refine ⟨?_, ?_, trivial⟩
    · exact s4 rfl (fun _ _ _ h => h) fun cx => run_indexArrB (n := 128) (sz := 1) (m := (x).toNat) (q := (x).toNat) rfl (by kernel_rfl) (cx.anc 1 rfl) (cx.anc 0 rfl) (by omega) (by omega) (by omega)
    · exact s4 rfl (fun _ _ _ h => h) fun cx => run_load1 rfl (by kernel_rfl) (cx.anc 2 rfl) (((cx.blk (cx.init 0 _ rfl) rfl).cell ((x).toNat)).trans ((List.getElem?_toArray ..).trans (getD_int (by omega))))
  intro σ β X W5 hD hX hst5 fr hfr
  simp only [zM, exq 0 (hX 0 _ rfl)] at hst5
  dsimp only [mgT, vals, List.take, List.drop, List.cons_append, List.nil_append] at hfr
  clear hX hD; subst hfr; clear σ β X
  refine then_normal ?_
  refine wp_ret ?_
  refine bodyPost_ret (v := .int .i64 (T.getD ((x).toNat) 0)) (results_tmp Tryd.results71 rfl) rfl ?_
  exact Ret.int (by unfold tabF; rw [if_neg (by omega)]) hst5.ext

set_option maxRecDepth 100000 in
set_option maxHeartbeats 2000000 in
theorem rsteps_any (a b : Int) (w : World) (ha : onF a = true) (hb : onF b = true) :
    Calls Tryd.prog 128 #[.int .i64 a, .int .i64 b] w (Ret (.int .i64 (stepsF a b)) w) := by
  have hsb := steps_bd a b
  go_enter Tryd.func128, Tryd.ntmps128
  have hst0 := St.start w
  refine wp_seq ?_
  refine wp_region_P [0] [.k 4 (.int .i64 0)] [(4, 0, 1, 5)] hst0 fun W1 hst1 => ?_
  refine then_normal ?_
  refine wp_seq ?_
  refine wp_region_P [0] [.k 5 (.int .i64 0)] [(5, 0, 1, 6)] hst1 fun W2 hst2 => ?_
  refine then_normal ?_
  refine wp_seq ?_
  refine wp_block ?_
  refine wp_loopN (fun mz az W => ∃ k : Nat, ∃ u3_ : List Value, (k : Int) ≤ stepsF a b ∧ mz = (stepsF a b).toNat - k ∧ az = ⟨#[.int .i64 (turnF a (k : Int)), .int .i64 b, undef, undef, .int .i64 0, .int .i64 ((k : Int)), (u3_.getD 0 undef), (u3_.getD 1 undef), (u3_.getD 2 undef), (u3_.getD 3 undef), (u3_.getD 4 undef), (u3_.getD 5 undef), (u3_.getD 6 undef), undef], []⟩ ∧ St w [] [] W) ((stepsF a b).toNat - 0) ?_ ?_
  · -- the loop begins
    have hp4 := hst2.pick [] (by decide) rfl
    exact ⟨0, [undef, undef, undef, undef, undef, undef, undef], hsb.1, rfl, (by rw [show turnF a ((0 : Nat) : Int) = a from turnF_0 ha]; rfl), hp4⟩
  rintro n3 a3 W3 ⟨k, u3_, hk, rfl, rfl, hst3⟩
  refine wp_seq ?_
  refine wp_seq ?_
  refine wp_region_P [0, 0, 3] [.k 6 (.int .i64 (turnF a (k : Int))), .k 7 (.int .i64 b), .k 8 (.bool ((turnF a (k : Int)) != b))] [(6, 0, 3, 9)] hst3 fun W5 hst5 => ?_
  refine then_normal ?_
  rcases Bool.eq_false_or_eq_true ((turnF a (k : Int)) != b) with hs6 | hs6
  · skip
    have hs6p : (turnF a (k : Int)) ≠ b := by simpa using hs6
    refine wp_cond_true (show Act.eval _ _ = .bool true from (congrArg Value.bool hs6)) ?_
    refine wp_skip ?_
    refine then_normal ?_
    refine wp_block ?_
    refine wp_seq ?_
    refine wp_region_T [0, 1, 3] [] [] [] [.k 9 (.int .i64 (turnF a (k : Int))), .c 10 (.int .i64 (nextF (turnF a (k : Int)))), .k 0 (.int .i64 (nextF (turnF a (k : Int))))] (fun _ _ _ _ => True) [] [1] [(0, 2, 1, 1), (8, 0, 2, 10)] hst5 ?_ ?_ ?_
    · exact fun _ _ _ _ _ _ _ _ _ _ h => h
    · refine ⟨?_, trivial⟩
      · exact sv_call rfl rfl rfl rfl rfl (fun _ _ _ h => h) fun ρ β W X cx => ⟨_, _, run_callF (args := #[.int .i64 (turnF a (k : Int))]) rfl cx.sees rfl (by kernel_rfl) (map1 (cx.anc 0 rfl)), rnext_any (turnF a (k : Int)) _⟩
    intro σ β X W7 hD hX hst7 fr hfr
    simp only [zM] at hst7
    dsimp only [mgT, vals, List.take, List.drop, List.cons_append, List.nil_append] at hfr
    clear hX hD; subst hfr; clear σ β X
    refine then_normal ?_
    refine wp_region_P [0, 1, 3] [.k 11 (.int .i64 ((k : Int))), tI 12 ((k : Int) + 1) (by omega), .k 5 (.int .i64 ((k : Int) + 1))] [(5, 2, 1, 6), (5, 0, 2, 7)] hst7 fun W8 hst8 => ?_
    refine blk_normal ?_
    refine then_normal ?_
    have hne : (k : Int) ≠ stepsF a b := fun h => (show turnF a (k : Int) ≠ b by assumption) (by rw [h]; exact steps_at ha hb)
    refine ⟨(stepsF a b).toNat - ((k + 1)), by omega, ?_⟩
    have hp9 := hst8.pick [] (by decide) rfl
    exact ⟨(k + 1), [.int .i64 (turnF a (k : Int)), .int .i64 b, .bool ((turnF a (k : Int)) != b), .int .i64 (turnF a (k : Int)), .int .i64 (nextF (turnF a (k : Int))), .int .i64 ((k : Int)), .int .i64 ((k : Int) + 1)], by omega, rfl, (by rw [show nextF (turnF a (k : Int)) = turnF a (((k + 1 : Nat)) : Int) from nextF_turn ha (by omega)]; rfl), hp9⟩
  have hs6p : (turnF a (k : Int)) = b := by simpa using hs6
  refine wp_cond_false (show Act.eval _ _ = .bool false from (congrArg Value.bool hs6)) ?_
  refine wp_exit ?_
  refine then_exit ?_
  refine then_exit ?_
  refine blk_eq ?_
  refine then_normal ?_
  refine wp_seq ?_
  refine wp_region_P [0, 1] [.k 13 (.int .i64 ((k : Int))), .k 4 (.int .i64 ((k : Int)))] [(4, 1, 1, 5), (8, 0, 1, 9)] hst5 fun W10 hst10 => ?_
  refine then_normal ?_
  refine wp_ret ?_
  refine bodyPost_ret (v := .int .i64 ((k : Int))) (results_tmp Tryd.results128 rfl) rfl ?_
  exact Ret.int (steps_turn ha hb (by omega) hk (by assumption)) hst10.ext

set_option maxRecDepth 100000 in
set_option maxHeartbeats 2000000 in
theorem rbefore_any (a b : Int) (w : World) :
    Calls Tryd.prog 114 #[.int .i64 a, .int .i64 b] w (Ret (.bool (beforeF a b)) w) := by
  go_enter Tryd.func114, Tryd.ntmps114
  have hst0 := St.start w
  refine wp_seq ?_
  refine wp_region_P [0] [.k 4 (.bool false)] [(4, 0, 1, 5)] hst0 fun W1 hst1 => ?_
  refine then_normal ?_
  refine wp_seq ?_
  refine wp_region_T [0, 1, 3] [] [] [] [.k 8 (.int .i64 a), .c 9 (.bool (onF a)), .k 5 (.bool (onF a))] (fun _ _ _ _ => True) [] [1] [(5, 2, 1, 6), (2, 0, 2, 4)] hst1 ?_ ?_ ?_
  · exact fun _ _ _ _ _ _ _ _ _ _ h => h
  · refine ⟨?_, trivial⟩
    · exact sv_call rfl rfl rfl rfl rfl (fun _ _ _ h => h) fun ρ β W X cx => ⟨_, _, run_callF (args := #[.int .i64 a]) rfl cx.sees rfl (by kernel_rfl) (map1 (cx.anc 0 rfl)), ron_any a _⟩
  intro σ β X W2 hD hX hst2 fr hfr
  simp only [zM] at hst2
  dsimp only [mgT, vals, List.take, List.drop, List.cons_append, List.nil_append] at hfr
  clear hX hD; subst hfr; clear σ β X
  refine then_normal ?_
  refine wp_seq ?_
  refine wp_region_T [0, 1, 3] [] [] [] [.k 10 (.int .i64 b), .c 11 (.bool (onF b)), .k 6 (.bool (onF b))] (fun _ _ _ _ => True) [] [1] [(6, 2, 1, 7), (3, 0, 2, 5)] hst2 ?_ ?_ ?_
  · exact fun _ _ _ _ _ _ _ _ _ _ h => h
  · refine ⟨?_, trivial⟩
    · exact sv_call rfl rfl rfl rfl rfl (fun _ _ _ h => h) fun ρ β W X cx => ⟨_, _, run_callF (args := #[.int .i64 b]) rfl cx.sees rfl (by kernel_rfl) (map1 (cx.anc 0 rfl)), ron_any b _⟩
  intro σ β X W3 hD hX hst3 fr hfr
  simp only [zM] at hst3
  dsimp only [mgT, vals, List.take, List.drop, List.cons_append, List.nil_append] at hfr
  clear hX hD; subst hfr; clear σ β X
  refine then_normal ?_
  refine wp_seq ?_
  refine wp_seq ?_
  refine wp_region_P [0, 1] [.k 12 (.int .i64 a), .k 13 (.bool (a == 2))] [(12, 0, 2, 14)] hst3 fun W4 hst4 => ?_
  refine then_normal ?_
  rcases Bool.eq_false_or_eq_true (a == 2) with hs5 | hs5
  · skip
    have hs5p : a = 2 := by simpa using hs5
    refine wp_cond_true (show Act.eval _ _ = .bool true from (congrArg Value.bool hs5)) ?_
    refine wp_seq ?_
    refine wp_region_P [0, 1] [.k 14 (.bool (onF b)), .k 4 (.bool (onF b))] [(4, 1, 1, 5), (9, 0, 1, 10)] hst4 fun W6 hst6 => ?_
    refine then_normal ?_
    refine wp_ret ?_
    refine then_ret ?_
    refine bodyPost_ret (v := .bool (onF b)) (results_tmp Tryd.results114 rfl) rfl ?_
    exact Ret.bool (by by_cases h2 : a = 2 <;> cases h3 : onF a <;> cases h4 : onF b <;> first | (simp_all [beforeF]; done) | (rw [beforeF, if_neg h2, h3, h4]; rfl)) hst6.ext
  have hs5p : a ≠ 2 := by simpa using hs5
  refine wp_cond_false (show Act.eval _ _ = .bool false from (congrArg Value.bool hs5)) ?_
  refine wp_skip ?_
  refine then_normal ?_
  refine wp_seq ?_
  refine wp_seq ?_
  refine wp_region_P [0, 1, 3, 7, 15, 31] [.k 15 (.bool (onF a)), .k 16 (.bool (!(onF a))), .k 17 (.bool (!(onF a))), .z 18 (!(!(onF a))) (.bool (onF b)), .z 19 (!(!(onF a))) (.bool (!(onF b))), tO 20 (!(onF a)) (!(onF b))] [(15, 0, 6, 21)] hst4 fun W7 hst7 => ?_
  refine then_normal ?_
  rcases Bool.eq_false_or_eq_true ((!(onF a)) || (!(onF b))) with hs8 | hs8
  · skip
    have hs8p := hs8
    simp only [zB] at hs8p
    refine wp_cond_true (show Act.eval _ _ = .bool true from (congrArg Value.bool hs8)) ?_
    refine wp_seq ?_
    refine wp_region_P [0] [.k 4 (.bool false)] [(4, 0, 1, 5)] hst7 fun W9 hst9 => ?_
    refine then_normal ?_
    refine wp_ret ?_
    refine then_ret ?_
    refine bodyPost_ret (v := .bool false) (results_tmp Tryd.results114 rfl) rfl ?_
    exact Ret.bool (by by_cases h2 : a = 2 <;> cases h3 : onF a <;> cases h4 : onF b <;> first | (simp_all [beforeF]; done) | (rw [beforeF, if_neg h2, h3, h4]; rfl)) hst9.ext
  have hs8p := hs8
  simp only [zB] at hs8p
  obtain ⟨hs8p1, hs8p2⟩ := hs8p
  refine wp_cond_false (show Act.eval _ _ = .bool false from (congrArg Value.bool hs8)) ?_
  refine wp_skip ?_
  refine then_normal ?_
  refine wp_seq ?_
  refine wp_region_T [0, 0, 3, 7] [] [] [] [.k 21 (.int .i64 a), .k 22 (.int .i64 b), .c 23 (.int .i64 (stepsF a b)), .k 7 (.int .i64 (stepsF a b))] (fun _ _ _ _ => True) [] [2] [(7, 3, 1, 8), (13, 0, 3, 16)] hst7 ?_ ?_ ?_
  · exact fun _ _ _ _ _ _ _ _ _ _ h => h
  · refine ⟨?_, trivial⟩
    · exact sv_call rfl rfl rfl rfl rfl (fun _ _ _ h => h) fun ρ β W X cx => ⟨_, _, run_callF (args := #[.int .i64 a, .int .i64 b]) rfl cx.sees rfl (by kernel_rfl) (map2 (cx.anc 0 rfl) (cx.anc 1 rfl)), rsteps_any a b _ (by assumption) (by assumption)⟩
  intro σ β X W10 hD hX hst10 fr hfr
  simp only [zM] at hst10
  dsimp only [mgT, vals, List.take, List.drop, List.cons_append, List.nil_append] at hfr
  clear hX hD; subst hfr; clear σ β X
  refine then_normal ?_
  refine wp_seq ?_
  refine wp_region_P [0, 1, 3, 7, 15, 31, 63] [.k 24 (.int .i64 (stepsF a b)), .k 25 (.bool (decide (1 ≤ stepsF a b))), .k 26 (.bool (decide (1 ≤ stepsF a b))), .z 27 (decide (1 ≤ stepsF a b)) (.int .i64 (stepsF a b)), .z 28 (decide (1 ≤ stepsF a b)) (.bool (decide (stepsF a b ≤ 62))), tA 29 (decide (1 ≤ stepsF a b)) (decide (stepsF a b ≤ 62)), .k 4 (.bool ((decide (1 ≤ stepsF a b)) && (decide (stepsF a b ≤ 62))))] [(4, 6, 1, 5), (19, 0, 6, 25)] hst10 fun W11 hst11 => ?_
  refine then_normal ?_
  refine wp_ret ?_
  refine bodyPost_ret (v := .bool ((decide (1 ≤ stepsF a b)) && (decide (stepsF a b ≤ 62)))) (results_tmp Tryd.results114 rfl) rfl ?_
  exact Ret.bool (by by_cases h2 : a = 2 <;> cases h3 : onF a <;> cases h4 : onF b <;> first | (simp_all [beforeF]; done) | (rw [beforeF, if_neg h2, h3, h4]; rfl)) hst11.ext

set_option maxRecDepth 100000 in
set_option maxHeartbeats 2000000 in
theorem rended_any (hi : Int) (A : Option Addr) (c : Nat) (ls : List Int) (x s : Int) (w : World) (hA : At w A (ls.map (Value.int .i64))) (hl : ls.length ≤ 100000) :
    Calls Tryd.prog 113 #[.agg #[.int .i64 hi, .slice A ls.length c], .int .i64 x, .int .i64 s] w (Ret (.bool (endS hi ls s x)) w) := by
  go_enter Tryd.func113, Tryd.ntmps113
  have hst0 := St.start w
  refine wp_seq ?_
  refine wp_region_T [0, 0] [] [[0]] [] [.a 3, .k 6 (.bool false)] (fun ix σ β X => match ix with | 0 => σ 3 = .pointer (some ⟨(pb (β 3)), 0, none⟩) ∧ X 0 = eB (pb (β 3)) 41 #[.int .i64 hi, .slice A ls.length c] | _ => True) [0] [0] [(3, 0, 1, 4), (2, 1, 1, 3)] hst0 ?_ ?_ ?_
  · exact fun ix _ _ _ _ _ _ hs hb hx h => match ix, h with
    | 0, h => by dsimp only at h ⊢; rw [← hs 3 rfl, ← hb 3 rfl, ← hx 0 rfl]; exact h
    | _ + 1, _ => trivial
  · refine ⟨?_, trivial⟩
    · refine sv_any rfl rfl fun ρ β W X cx => ?_
      exact dv_box (cs := #[.int .i64 hi, .slice A ls.length c]) rfl (cx.out 0 rfl) rfl rfl rfl (fun σ β' X' hs hb hv hx => ⟨hv, hx⟩)
  intro σ β X W1 hD hX hst1 fr hfr
  obtain ⟨B3_1, hu_B3_1⟩ : ∃ z, pb (β 3) = z := ⟨_, rfl⟩
  simp only [zM, exq 0 ((dTn (hD 0 lq)).2), hu_B3_1] at hst1
  dsimp only [mgT, vals, List.take, List.drop, List.cons_append, List.nil_append] at hfr
  simp only [ed 3 ((dTn (hD 0 lq)).1), hu_B3_1] at hfr
  clear hX hD hu_B3_1; subst hfr; clear σ β X
  refine then_normal ?_
  refine wp_seq ?_
  refine wp_seq ?_
  refine wp_region_P [0, 1] [.k 9 (.int .i64 x), .k 10 (.bool (x == 2))] [(9, 0, 2, 11)] hst1 fun W2 hst2 => ?_
  refine then_normal ?_
  rcases Bool.eq_false_or_eq_true (x == 2) with hs3 | hs3
  · skip
    have hs3p : x = 2 := by simpa using hs3
    refine wp_cond_true (show Act.eval _ _ = .bool true from (congrArg Value.bool hs3)) ?_
    refine wp_seq ?_
    refine wp_region_P [0] [.k 6 (.bool true)] [(6, 0, 1, 7)] hst2 fun W4 hst4 => ?_
    refine then_normal ?_
    refine wp_ret ?_
    refine then_ret ?_
    refine bodyPost_ret (v := .bool true) (results_tmp Tryd.results113 rfl) rfl ?_
    exact Ret.bool (by rw [endS, if_pos (by assumption)]) hst4.ext
  have hs3p : x ≠ 2 := by simpa using hs3
  refine wp_cond_false (show Act.eval _ _ = .bool false from (congrArg Value.bool hs3)) ?_
  refine wp_skip ?_
  refine then_normal ?_
  refine wp_seq ?_
  refine wp_seq ?_
  refine wp_region_P [0] [.k 7 (.int .i64 0)] [(7, 0, 1, 8)] hst2 fun W5 hst5 => ?_
  refine then_normal ?_
  refine wp_block ?_
  refine wp_loopN (fun mz az W => ∃ k : Nat, ∃ u6_ : List Value, k ≤ ls.length ∧ (ls.take k).contains x = false ∧ mz = ls.length - k ∧ az = ⟨#[.agg #[.int .i64 hi, .slice A ls.length c], .int .i64 x, .int .i64 s, .pointer (some ⟨B3_1, 0, none⟩), undef, undef, (u6_.getD 0 undef), .int .i64 ((k : Int)), undef, .int .i64 x, .bool (x == 2), (u6_.getD 1 undef), (u6_.getD 2 undef), (u6_.getD 3 undef), (u6_.getD 4 undef), (u6_.getD 5 undef), (u6_.getD 6 undef), (u6_.getD 7 undef), (u6_.getD 8 undef), (u6_.getD 9 undef), (u6_.getD 10 undef), (u6_.getD 11 undef), (u6_.getD 12 undef), (u6_.getD 13 undef), (u6_.getD 14 undef), undef, undef, undef, undef, undef, undef, undef, undef, undef, undef, undef, undef, undef], []⟩ ∧ St w [] [eB B3_1 41 #[.int .i64 hi, .slice A ls.length c]] W) (ls.length - 0) ?_ ?_
  · -- the loop begins
    have hp7 := hst5.pick [0] (by decide) rfl
    exact ⟨0, [.bool false, undef, undef, undef, undef, undef, undef, undef, undef, undef, undef, undef, undef, undef, undef], Nat.zero_le _, rfl, rfl, rfl, hp7⟩
  rintro n6 a6 W6 ⟨k, u6_, hk, hc, rfl, rfl, hst6⟩
  refine wp_seq ?_
  refine wp_seq ?_
  refine wp_region_T [0, 0, 2, 6, 15] [[], [], [0]] [] [] [.k 11 (.int .i64 ((k : Int))), .k 12 (.pointer (some ⟨B3_1, 1, none⟩)), .c 13 (.slice A ls.length c), .k 14 (.int .i64 ((ls.length : Int))), .k 15 (.bool (decide ((k : Int) < (ls.length : Int))))] (fun _ _ _ _ => True) [0] [2] [(11, 0, 5, 16)] hst6 ?_ ?_ ?_
  · exact fun _ _ _ _ _ _ _ _ _ _ h => h
  · refine ⟨?_, trivial⟩
    · exact s4 rfl (fun _ _ _ h => h) fun cx => run_load1 rfl (by kernel_rfl) (cx.anc 1 rfl) ((cx.blk (cx.init 0 _ rfl) rfl).cell 1)
  intro σ β X W8 hD hX hst8 fr hfr
  simp only [zM, exq 0 (hX 0 _ rfl)] at hst8
  dsimp only [mgT, vals, List.take, List.drop, List.cons_append, List.nil_append] at hfr
  clear hX hD; subst hfr; clear σ β X
  refine then_normal ?_
  rcases Bool.eq_false_or_eq_true (decide ((k : Int) < (ls.length : Int))) with hs9 | hs9
  · skip
    have hs9p : (k : Int) < (ls.length : Int) := by simpa using hs9
    refine wp_cond_true (show Act.eval _ _ = .bool true from (congrArg Value.bool hs9)) ?_
    refine wp_skip ?_
    refine then_normal ?_
    refine wp_seq ?_
    refine wp_block ?_
    refine wp_seq ?_
    refine wp_region_T [0, 1, 0, 7, 15, 0, 63] [[], [0]] [] [] [.k 18 (.pointer (some ⟨B3_1, 1, none⟩)), .c 19 (.slice A ls.length c), .k 20 (.int .i64 ((k : Int))), .c 21 (.pointer (some ((ad A).add k))), .c 22 (.int .i64 (ls.getD k 0)), .k 23 (.int .i64 x), .k 24 (.bool ((ls.getD k 0) == x))] (fun _ _ _ _ => True) [0] [1, 3, 4] [(18, 0, 7, 25)] hst8 ?_ ?_ ?_
    · exact fun _ _ _ _ _ _ _ _ _ _ h => h
    · refine ⟨?_, ?_, ?_, trivial⟩
      · exact s4 rfl (fun _ _ _ h => h) fun cx => run_load1 rfl (by kernel_rfl) (cx.anc 0 rfl) ((cx.blk (cx.init 0 _ rfl) rfl).cell 1)
      · exact s4 rfl (fun _ _ _ h => h) fun cx => run_indexSl (e := 3) (m := k) rfl (by kernel_rfl) (by kernel_rfl) (cx.anc 1 rfl) (cx.anc 2 rfl) (by omega) (by omega) (hA.ext cx.upd.to_ext) (by simp)
      · exact s4 rfl (fun _ _ _ h => h) fun cx => run_load1 rfl (by kernel_rfl) (cx.anc 3 rfl) (At.cellAd (hA.ext cx.upd.to_ext) (getD_int (by omega)))
    intro σ β X W10 hD hX hst10 fr hfr
    simp only [zM, exq 0 (hX 0 _ rfl)] at hst10
    dsimp only [mgT, vals, List.take, List.drop, List.cons_append, List.nil_append] at hfr
    clear hX hD; subst hfr; clear σ β X
    refine then_normal ?_
    rcases Bool.eq_false_or_eq_true ((ls.getD k 0) == x) with hs11 | hs11
    · skip
      have hs11p : (ls.getD k 0) = x := by simpa using hs11
      refine wp_cond_true (show Act.eval _ _ = .bool true from (congrArg Value.bool hs11)) ?_
      refine wp_seq ?_
      refine wp_region_P [0] [.k 6 (.bool false)] [(6, 0, 1, 7)] hst10 fun W12 hst12 => ?_
      refine then_normal ?_
      refine wp_ret ?_
      refine blk_ret ?_
      refine then_ret ?_
      refine then_ret ?_
      refine blk_ret ?_
      refine then_ret ?_
      refine bodyPost_ret (v := .bool false) (results_tmp Tryd.results113 rfl) rfl ?_
      exact Ret.bool (by rw [endS, if_neg (by assumption), con_yes (k := k) (by omega) (by assumption)]; simp) hst12.ext
    have hs11p : (ls.getD k 0) ≠ x := by simpa using hs11
    refine wp_cond_false (show Act.eval _ _ = .bool false from (congrArg Value.bool hs11)) ?_
    refine wp_skip ?_
    refine blk_normal ?_
    refine then_normal ?_
    refine wp_region_P [0, 1, 3] [.k 16 (.int .i64 ((k : Int))), tI 17 ((k : Int) + 1) (by omega), .k 7 (.int .i64 ((k : Int) + 1))] [(7, 2, 1, 8), (8, 0, 2, 10)] hst10 fun W13 hst13 => ?_
    refine then_normal ?_
    refine ⟨ls.length - ((k + 1)), by omega, ?_⟩
    have hp14 := hst13.pick [0] (by decide) rfl
    exact ⟨(k + 1), [(u6_.getD 0 undef), .int .i64 ((k : Int)), .pointer (some ⟨B3_1, 1, none⟩), .slice A ls.length c, .int .i64 ((ls.length : Int)), .bool (decide ((k : Int) < (ls.length : Int))), .int .i64 ((k : Int)), .int .i64 ((k : Int) + 1), .pointer (some ⟨B3_1, 1, none⟩), .slice A ls.length c, .int .i64 ((k : Int)), .pointer (some ((ad A).add k)), .int .i64 (ls.getD k 0), .int .i64 x, .bool ((ls.getD k 0) == x)], by omega, con_step (by omega) hc (by assumption), rfl, rfl, hp14⟩
  have hs9p : ¬ ((k : Int) < (ls.length : Int)) := by simpa using hs9
  refine wp_cond_false (show Act.eval _ _ = .bool false from (congrArg Value.bool hs9)) ?_
  refine wp_exit ?_
  refine then_exit ?_
  refine then_exit ?_
  refine blk_eq ?_
  refine then_normal ?_
  refine wp_seq ?_
  refine wp_region_T [0, 1, 3] [] [] [] [.k 25 (.int .i64 x), .c 26 (.bool (onF x)), .k 8 (.bool (onF x))] (fun _ _ _ _ => True) [0] [1] [(8, 2, 1, 9), (16, 0, 2, 18)] hst8 ?_ ?_ ?_
  · exact fun _ _ _ _ _ _ _ _ _ _ h => h
  · refine ⟨?_, trivial⟩
    · exact sv_call rfl rfl rfl rfl rfl (fun _ _ _ h => h) fun ρ β W X cx => ⟨_, _, run_callF (args := #[.int .i64 x]) rfl cx.sees rfl (by kernel_rfl) (map1 (cx.anc 0 rfl)), ron_any x _⟩
  intro σ β X W15 hD hX hst15 fr hfr
  simp only [zM, exq 0 (hX 0 _ rfl)] at hst15
  dsimp only [mgT, vals, List.take, List.drop, List.cons_append, List.nil_append] at hfr
  clear hX hD; subst hfr; clear σ β X
  refine then_normal ?_
  refine wp_seq ?_
  refine wp_region_T [0, 1, 3, 3, 11, 31, 63, 127, 255, 511, 1023, 2047] [[], [], [], [], [0]] [] [] [.k 27 (.bool (onF x)), .k 28 (.bool (onF x)), .z 29 (onF x) (.int .i64 x), .z 30 (onF x) (.pointer (some ⟨B3_1, 0, none⟩)), .y 31 (onF x) (.int .i64 hi), .y 32 (onF x) (.bool (beforeF x hi)), tA 33 (onF x) (beforeF x hi), .k 34 (.bool ((onF x) && (beforeF x hi))), .z 35 ((onF x) && (beforeF x hi)) (.int .i64 s), .z 36 ((onF x) && (beforeF x hi)) (.bool (s == 2)), tA 37 ((onF x) && (beforeF x hi)) (s == 2), .k 6 (.bool (((onF x) && (beforeF x hi)) && (s == 2)))] (fun _ _ _ _ => True) [0] [4, 5] [(6, 11, 1, 7), (20, 0, 11, 31)] hst15 ?_ ?_ ?_
  · exact fun _ _ _ _ _ _ _ _ _ _ h => h
  · refine ⟨?_, ?_, trivial⟩
    · exact m2 rfl (fun _ _ _ h => h) (fun cx => (cx.anc 1 rfl)) fun cx hq => run_load1 rfl (by kernel_rfl) (mbv (cx.anc 3 rfl) hq) ((cx.blk (cx.init 0 _ rfl) rfl).cell 0)
    · exact m3 rfl (fun _ _ _ h => h) (fun cx => (cx.anc 1 rfl)) fun cx hq => ⟨_, _, run_callF (args := #[.int .i64 x, .int .i64 hi]) rfl cx.sees rfl (by kernel_rfl) (map2 (mbv (cx.anc 2 rfl) hq) (mbv (cx.anc 4 rfl) hq)), rbefore_any x hi _⟩
  intro σ β X W16 hD hX hst16 fr hfr
  simp only [zM, exq 0 (hX 0 _ rfl)] at hst16
  dsimp only [mgT, vals, List.take, List.drop, List.cons_append, List.nil_append] at hfr
  clear hX hD; subst hfr; clear σ β X
  refine then_normal ?_
  refine wp_ret ?_
  refine bodyPost_ret (v := .bool (((onF x) && (beforeF x hi)) && (s == 2))) (results_tmp Tryd.results113 rfl) rfl ?_
  exact Ret.bool (by rw [endS, if_neg (by assumption), show ls.contains x = false from by rw [← hc, List.take_of_length_le (by omega)]]; simp) hst16.ext

set_option maxRecDepth 100000 in
set_option maxHeartbeats 2000000 in
theorem rdid_any (x hi : Int) (LA : Option Addr) (lc : Nat) (ls : List Int) (OA : Option Addr) (oc : Nat) (own : List Int) (T : List Int) (g : Int → Int) (w : World) (hL : At w LA (ls.map (Value.int .i64))) (hll : ls.length ≤ 100000) (hO : At w OA (own.map (Value.int .i64))) (hol : own.length ≤ 100000) (hT : T.length = 128) (hg : ∀ x, tabF T x = g x) :
    Calls Tryd.prog 73 #[.int .i64 x, .agg #[.int .i64 hi, .slice LA ls.length lc], .slice OA own.length oc, .agg (T.map (Value.int .i64)).toArray] w (Ret (.bool (didF hi ls own g x)) w) := by
  go_enter Tryd.func73, Tryd.ntmps73
  have hst0 := St.start w
  refine wp_seq ?_
  refine wp_region_T [0, 0, 0] [] [[0], [1]] [] [.a 5, .a 7, .k 8 (.bool false)] (fun ix σ β X => match ix with | 0 => σ 5 = .pointer (some ⟨(pb (β 5)), 0, none⟩) ∧ X 0 = eB (pb (β 5)) 41 #[.int .i64 hi, .slice LA ls.length lc] | 1 => σ 7 = .pointer (some ⟨(pb (β 7)), 0, none⟩) ∧ X 1 = eB (pb (β 7)) 49 (T.map (Value.int .i64)).toArray | _ => True) [0, 1] [0, 1] [(5, 0, 1, 6), (1, 1, 2, 3)] hst0 ?_ ?_ ?_
  · exact fun ix _ _ _ _ _ _ hs hb hx h => match ix, h with
    | 0, h => by dsimp only at h ⊢; rw [← hs 5 rfl, ← hb 5 rfl, ← hx 0 rfl]; exact h
    | 1, h => by dsimp only at h ⊢; rw [← hs 7 rfl, ← hb 7 rfl, ← hx 1 rfl]; exact h
    | _ + 2, _ => trivial
  · refine ⟨?_, ?_, trivial⟩
    · refine sv_any rfl rfl fun ρ β W X cx => ?_
      exact dv_box (cs := #[.int .i64 hi, .slice LA ls.length lc]) rfl (cx.out 1 rfl) rfl rfl rfl (fun σ β' X' hs hb hv hx => ⟨hv, hx⟩)
    · refine sv_any rfl rfl fun ρ β W X cx => ?_
      exact dv_box (cs := (T.map (Value.int .i64)).toArray) rfl (cx.out 3 rfl) rfl rfl rfl (fun σ β' X' hs hb hv hx => ⟨hv, hx⟩)
  intro σ β X W1 hD hX hst1 fr hfr
  obtain ⟨B5_1, hu_B5_1⟩ : ∃ z, pb (β 5) = z := ⟨_, rfl⟩
  obtain ⟨B7_1, hu_B7_1⟩ : ∃ z, pb (β 7) = z := ⟨_, rfl⟩
  simp only [zM, exq 0 ((dTn (hD 0 lq)).2), exq 1 ((dTn (hD 1 lq)).2), hu_B5_1, hu_B7_1] at hst1
  dsimp only [mgT, vals, List.take, List.drop, List.cons_append, List.nil_append] at hfr
  simp only [ed 5 ((dTn (hD 0 lq)).1), ed 7 ((dTn (hD 1 lq)).1), hu_B5_1, hu_B7_1] at hfr
  clear hX hD hu_B5_1 hu_B7_1; subst hfr; clear σ β X
  refine then_normal ?_
  refine wp_seq ?_
  refine wp_seq ?_
  refine wp_region_T [0, 0, 3, 7, 15, 15, 63, 127, 255] [[], [], [], [], [1]] [] [] [.k 9 (.slice OA own.length oc), .k 10 (.int .i64 x), .c 11 (.bool (own.contains x)), .k 12 (.bool (own.contains x)), .y 13 (own.contains x) (.agg (T.map (Value.int .i64)).toArray), .z 14 (own.contains x) (.int .i64 x), .y 15 (own.contains x) (.int .i64 (g x)), .z 16 (own.contains x) (.bool ((g x) != 3)), tA 17 (own.contains x) ((g x) != 3)] (fun _ _ _ _ => True) [0, 1] [2, 4, 6] [(9, 0, 9, 18)] hst1 ?_ ?_ ?_
  · exact fun _ _ _ _ _ _ _ _ _ _ h => h
  · refine ⟨?_, ?_, ?_, trivial⟩
    · exact sv_call rfl rfl rfl rfl rfl (fun _ _ _ h => h) fun ρ β W X cx => ⟨_, _, run_callF (args := #[.slice OA own.length oc, .int .i64 x]) rfl cx.sees rfl (by kernel_rfl) (map2 (cx.anc 0 rfl) (cx.anc 1 rfl)), rin_any _ _ own x _ (hO.ext cx.upd.to_ext) (by first | omega | decide | (simp; done) | (simp; omega))⟩
    · exact m2 rfl (fun _ _ _ h => h) (fun cx => (cx.anc 3 rfl)) fun cx hq => run_loadAr (n := 128) rfl (by kernel_rfl) (by kernel_rfl) (cx.out 7 rfl) (cx.blk (cx.init 1 _ rfl) rfl) (by simp [hT])
    · exact m3 rfl (fun _ _ _ h => h) (fun cx => (cx.anc 3 rfl)) fun cx hq => ⟨_, _, run_callF (args := #[.agg (T.map (Value.int .i64)).toArray, .int .i64 x]) rfl cx.sees rfl (by kernel_rfl) (map2 (mbv (cx.anc 4 rfl) hq) (mbv (cx.anc 5 rfl) hq)), ((rst_any T x _ hT).mono fun e W1 h_ => ⟨h_.1.trans (by rw [hg]), h_.2⟩)⟩
  intro σ β X W2 hD hX hst2 fr hfr
  simp only [zM, exq 0 (hX 0 _ rfl), exq 1 (hX 1 _ rfl)] at hst2
  dsimp only [mgT, vals, List.take, List.drop, List.cons_append, List.nil_append] at hfr
  clear hX hD; subst hfr; clear σ β X
  refine then_normal ?_
  rcases Bool.eq_false_or_eq_true ((own.contains x) && ((g x) != 3)) with hs3 | hs3
  · skip
    have hs3p := hs3
    simp only [zB] at hs3p
    obtain ⟨hs3p1, hs3p2⟩ := hs3p
    refine wp_cond_true (show Act.eval _ _ = .bool true from (congrArg Value.bool hs3)) ?_
    refine wp_seq ?_
    refine wp_region_P [0] [.k 8 (.bool true)] [(8, 0, 1, 9)] hst2 fun W4 hst4 => ?_
    refine then_normal ?_
    refine wp_ret ?_
    refine then_ret ?_
    refine bodyPost_ret (v := .bool true) (results_tmp Tryd.results73 rfl) rfl ?_
    exact Ret.bool (by simp_all [didF, mineF, ← endS_eq]) hst4.ext
  have hs3p := hs3
  simp only [zB] at hs3p
  refine wp_cond_false (show Act.eval _ _ = .bool false from (congrArg Value.bool hs3)) ?_
  refine wp_skip ?_
  refine then_normal ?_
  refine wp_seq ?_
  refine wp_region_T [0, 0, 0, 0, 12, 31, 63] [[0], [], [1]] [] [] [.c 18 (.agg #[.int .i64 hi, .slice LA ls.length lc]), .k 19 (.int .i64 x), .c 20 (.agg (T.map (Value.int .i64)).toArray), .k 21 (.int .i64 x), .c 22 (.int .i64 (g x)), .c 23 (.bool (endS hi ls (g x) x)), .k 8 (.bool (endS hi ls (g x) x))] (fun _ _ _ _ => True) [0, 1] [0, 2, 4, 5] [(8, 6, 1, 9), (9, 0, 6, 15)] hst2 ?_ ?_ ?_
  · exact fun _ _ _ _ _ _ _ _ _ _ h => h
  · refine ⟨?_, ?_, ?_, ?_, trivial⟩
    · exact s4 rfl (fun _ _ _ h => h) fun cx => run_loadB (n := 2) rfl (by kernel_rfl) (by kernel_rfl) (cx.out 5 rfl) (cx.blk (cx.init 0 _ rfl) rfl) (Nat.le_of_ble_eq_true rfl) rfl
    · exact s4 rfl (fun _ _ _ h => h) fun cx => run_loadAr (n := 128) rfl (by kernel_rfl) (by kernel_rfl) (cx.out 7 rfl) (cx.blk (cx.init 1 _ rfl) rfl) (by simp [hT])
    · exact sv_call rfl rfl rfl rfl rfl (fun _ _ _ h => h) fun ρ β W X cx => ⟨_, _, run_callF (args := #[.agg (T.map (Value.int .i64)).toArray, .int .i64 x]) rfl cx.sees rfl (by kernel_rfl) (map2 (cx.anc 2 rfl) (cx.anc 3 rfl)), ((rst_any T x _ hT).mono fun e W1 h_ => ⟨h_.1.trans (by rw [hg]), h_.2⟩)⟩
    · exact sv_call rfl rfl rfl rfl rfl (fun _ _ _ h => h) fun ρ β W X cx => ⟨_, _, run_callF (args := #[.agg #[.int .i64 hi, .slice LA ls.length lc], .int .i64 x, .int .i64 (g x)]) rfl cx.sees rfl (by kernel_rfl) (map3 (cx.anc 0 rfl) (cx.anc 1 rfl) (cx.anc 4 rfl)), rended_any hi _ _ ls x (g x) _ (hL.ext cx.upd.to_ext) (by first | omega | decide | (simp; done) | (simp; omega))⟩
  intro σ β X W5 hD hX hst5 fr hfr
  simp only [zM, exq 0 (hX 0 _ rfl), exq 1 (hX 1 _ rfl)] at hst5
  dsimp only [mgT, vals, List.take, List.drop, List.cons_append, List.nil_append] at hfr
  clear hX hD; subst hfr; clear σ β X
  refine then_normal ?_
  refine wp_ret ?_
  refine bodyPost_ret (v := .bool (endS hi ls (g x) x)) (results_tmp Tryd.results73 rfl) rfl ?_
  exact Ret.bool (by simp_all [didF, mineF, ← endS_eq]) hst5.ext

set_option maxRecDepth 100000 in
set_option maxHeartbeats 2000000 in
theorem rvis_any (hi : Int) (LA : Option Addr) (lc : Nat) (ls : List Int) (OA : Option Addr) (oc : Nat) (own : List Int) (T : List Int) (g : Int → Int) (a b n1 n2 : Int) (ho : Bool) (RA : Option Addr) (rn rc : Nat) (w : World) (hL : At w LA (ls.map (Value.int .i64))) (hll : ls.length ≤ 100000) (hO : At w OA (own.map (Value.int .i64))) (hol : own.length ≤ 100000) (hT : T.length = 128) (hg : ∀ x, tabF T x = g x) :
    Calls Tryd.prog 28 #[.agg #[.int .i64 a, .int .i64 b, .int .i64 n1, .int .i64 n2, .bool ho, .slice RA rn rc], .agg #[.int .i64 hi, .slice LA ls.length lc], .slice OA own.length oc, .agg (T.map (Value.int .i64)).toArray] w (Ret (.bool (visF hi ls own g a b)) w) := by
  go_enter Tryd.func28, Tryd.ntmps28
  have hst0 := St.start w
  refine wp_seq ?_
  refine wp_region_T [0, 0, 0, 0] [] [[0], [1], [2]] [] [.a 4, .a 5, .a 7, .k 8 (.bool false)] (fun ix σ β X => match ix with | 0 => σ 4 = .pointer (some ⟨(pb (β 4)), 0, none⟩) ∧ X 0 = eB (pb (β 4)) 27 #[.int .i64 a, .int .i64 b, .int .i64 n1, .int .i64 n2, .bool ho, .slice RA rn rc] | 1 => σ 5 = .pointer (some ⟨(pb (β 5)), 0, none⟩) ∧ X 1 = eB (pb (β 5)) 41 #[.int .i64 hi, .slice LA ls.length lc] | 2 => σ 7 = .pointer (some ⟨(pb (β 7)), 0, none⟩) ∧ X 2 = eB (pb (β 7)) 49 (T.map (Value.int .i64)).toArray | _ => True) [0, 1, 2] [0, 1, 2] [(4, 0, 2, 6), (1, 2, 2, 3)] hst0 ?_ ?_ ?_
  · exact fun ix _ _ _ _ _ _ hs hb hx h => match ix, h with
    | 0, h => by dsimp only at h ⊢; rw [← hs 4 rfl, ← hb 4 rfl, ← hx 0 rfl]; exact h
    | 1, h => by dsimp only at h ⊢; rw [← hs 5 rfl, ← hb 5 rfl, ← hx 1 rfl]; exact h
    | 2, h => by dsimp only at h ⊢; rw [← hs 7 rfl, ← hb 7 rfl, ← hx 2 rfl]; exact h
    | _ + 3, _ => trivial
  · refine ⟨?_, ?_, ?_, trivial⟩
    · refine sv_any rfl rfl fun ρ β W X cx => ?_
      exact dv_box (cs := #[.int .i64 a, .int .i64 b, .int .i64 n1, .int .i64 n2, .bool ho, .slice RA rn rc]) rfl (cx.out 0 rfl) rfl rfl rfl (fun σ β' X' hs hb hv hx => ⟨hv, hx⟩)
    · refine sv_any rfl rfl fun ρ β W X cx => ?_
      exact dv_box (cs := #[.int .i64 hi, .slice LA ls.length lc]) rfl (cx.out 1 rfl) rfl rfl rfl (fun σ β' X' hs hb hv hx => ⟨hv, hx⟩)
    · refine sv_any rfl rfl fun ρ β W X cx => ?_
      exact dv_box (cs := (T.map (Value.int .i64)).toArray) rfl (cx.out 3 rfl) rfl rfl rfl (fun σ β' X' hs hb hv hx => ⟨hv, hx⟩)
  intro σ β X W1 hD hX hst1 fr hfr
  obtain ⟨B4_1, hu_B4_1⟩ : ∃ z, pb (β 4) = z := ⟨_, rfl⟩
  obtain ⟨B5_1, hu_B5_1⟩ : ∃ z, pb (β 5) = z := ⟨_, rfl⟩
  obtain ⟨B7_1, hu_B7_1⟩ : ∃ z, pb (β 7) = z := ⟨_, rfl⟩
  simp only [zM, exq 0 ((dTn (hD 0 lq)).2), exq 1 ((dTn (hD 1 lq)).2), exq 2 ((dTn (hD 2 lq)).2), hu_B4_1, hu_B5_1, hu_B7_1] at hst1
  dsimp only [mgT, vals, List.take, List.drop, List.cons_append, List.nil_append] at hfr
  simp only [ed 4 ((dTn (hD 0 lq)).1), ed 5 ((dTn (hD 1 lq)).1), ed 7 ((dTn (hD 2 lq)).1), hu_B4_1, hu_B5_1, hu_B7_1] at hfr
  clear hX hD hu_B4_1 hu_B5_1 hu_B7_1; subst hfr; clear σ β X
  refine then_normal ?_
  refine wp_seq ?_
  refine wp_seq ?_
  refine wp_region_T [0, 1, 0, 0, 0, 31, 63] [[], [0], [1], [], [2]] [] [] [.k 9 (.pointer (some ⟨B4_1, 0, none⟩)), .c 10 (.int .i64 a), .c 11 (.agg #[.int .i64 hi, .slice LA ls.length lc]), .k 12 (.slice OA own.length oc), .c 13 (.agg (T.map (Value.int .i64)).toArray), .c 14 (.bool (didF hi ls own g a)), .k 15 (.bool (!(didF hi ls own g a)))] (fun _ _ _ _ => True) [0, 1, 2] [1, 2, 4, 5] [(9, 0, 7, 16)] hst1 ?_ ?_ ?_
  · exact fun _ _ _ _ _ _ _ _ _ _ h => h
  · refine ⟨?_, ?_, ?_, ?_, trivial⟩
    · exact s4 rfl (fun _ _ _ h => h) fun cx => run_load1 rfl (by kernel_rfl) (cx.anc 0 rfl) ((cx.blk (cx.init 0 _ rfl) rfl).cell 0)
    · exact s4 rfl (fun _ _ _ h => h) fun cx => run_loadB (n := 2) rfl (by kernel_rfl) (by kernel_rfl) (cx.out 5 rfl) (cx.blk (cx.init 1 _ rfl) rfl) (Nat.le_of_ble_eq_true rfl) rfl
    · exact s4 rfl (fun _ _ _ h => h) fun cx => run_loadAr (n := 128) rfl (by kernel_rfl) (by kernel_rfl) (cx.out 7 rfl) (cx.blk (cx.init 2 _ rfl) rfl) (by simp [hT])
    · exact sv_call rfl rfl rfl rfl rfl (fun _ _ _ h => h) fun ρ β W X cx => ⟨_, _, run_callF (args := #[.int .i64 a, .agg #[.int .i64 hi, .slice LA ls.length lc], .slice OA own.length oc, .agg (T.map (Value.int .i64)).toArray]) rfl cx.sees rfl (by kernel_rfl) (map4 (cx.anc 1 rfl) (cx.anc 2 rfl) (cx.anc 3 rfl) (cx.anc 4 rfl)), rdid_any a hi _ _ ls _ _ own T g _ (hL.ext cx.upd.to_ext) (by first | omega | decide | (simp; done) | (simp; omega)) (hO.ext cx.upd.to_ext) (by first | omega | decide | (simp; done) | (simp; omega)) hT hg⟩
  intro σ β X W2 hD hX hst2 fr hfr
  simp only [zM, exq 0 (hX 0 _ rfl), exq 1 (hX 1 _ rfl), exq 2 (hX 2 _ rfl)] at hst2
  dsimp only [mgT, vals, List.take, List.drop, List.cons_append, List.nil_append] at hfr
  clear hX hD; subst hfr; clear σ β X
  refine then_normal ?_
  rcases Bool.eq_false_or_eq_true (didF hi ls own g a) with hs3 | hs3
  · skip
    refine wp_cond_false (show Act.eval _ _ = .bool false from (congrArg Value.bool (by rw [hs3]; rfl))) ?_
    refine wp_skip ?_
    refine then_normal ?_
    refine wp_seq ?_
    refine wp_region_T [0, 1, 3, 7, 15, 31, 15, 15, 15, 511, 1023, 2047, 4095] [[], [0], [], [], [], [0], [1], [], [2]] [] [] [.k 16 (.pointer (some ⟨B4_1, 1, none⟩)), .c 17 (.int .i64 b), .k 18 (.bool (b == 0)), .k 19 (.bool (b == 0)), .z 20 (!(b == 0)) (.pointer (some ⟨B4_1, 1, none⟩)), .y 21 (!(b == 0)) (.int .i64 b), .y 22 (!(b == 0)) (.agg #[.int .i64 hi, .slice LA ls.length lc]), .z 23 (!(b == 0)) (.slice OA own.length oc), .y 24 (!(b == 0)) (.agg (T.map (Value.int .i64)).toArray), .y 25 (!(b == 0)) (.bool (didF hi ls own g b)), .z 26 (!(b == 0)) (.bool (!(didF hi ls own g b))), tO 27 (b == 0) (!(didF hi ls own g b)), .k 8 (.bool ((b == 0) || (!(didF hi ls own g b))))] (fun _ _ _ _ => True) [0, 1, 2] [1, 5, 6, 8, 9] [(8, 12, 1, 9), (7, 0, 12, 19)] hst2 ?_ ?_ ?_
    · exact fun _ _ _ _ _ _ _ _ _ _ h => h
    · refine ⟨?_, ?_, ?_, ?_, ?_, trivial⟩
      · exact s4 rfl (fun _ _ _ h => h) fun cx => run_load1 rfl (by kernel_rfl) (cx.anc 0 rfl) ((cx.blk (cx.init 0 _ rfl) rfl).cell 1)
      · exact m2 rfl (fun _ _ _ h => h) (fun cx => (cx.anc 3 rfl)) fun cx hq => run_load1 rfl (by kernel_rfl) (mbv (cx.anc 4 rfl) hq) ((cx.blk (cx.init 0 _ rfl) rfl).cell 1)
      · exact m2 rfl (fun _ _ _ h => h) (fun cx => (cx.anc 3 rfl)) fun cx hq => run_loadB (n := 2) rfl (by kernel_rfl) (by kernel_rfl) (cx.out 5 rfl) (cx.blk (cx.init 1 _ rfl) rfl) (Nat.le_of_ble_eq_true rfl) rfl
      · exact m2 rfl (fun _ _ _ h => h) (fun cx => (cx.anc 3 rfl)) fun cx hq => run_loadAr (n := 128) rfl (by kernel_rfl) (by kernel_rfl) (cx.out 7 rfl) (cx.blk (cx.init 2 _ rfl) rfl) (by simp [hT])
      · exact m3 rfl (fun _ _ _ h => h) (fun cx => (cx.anc 3 rfl)) fun cx hq => ⟨_, _, run_callF (args := #[.int .i64 b, .agg #[.int .i64 hi, .slice LA ls.length lc], .slice OA own.length oc, .agg (T.map (Value.int .i64)).toArray]) rfl cx.sees rfl (by kernel_rfl) (map4 (mbv (cx.anc 5 rfl) hq) (mbv (cx.anc 6 rfl) hq) (mbv (cx.anc 7 rfl) hq) (mbv (cx.anc 8 rfl) hq)), rdid_any b hi _ _ ls _ _ own T g _ (hL.ext cx.upd.to_ext) (by first | omega | decide | (simp; done) | (simp; omega)) (hO.ext cx.upd.to_ext) (by first | omega | decide | (simp; done) | (simp; omega)) hT hg⟩
    intro σ β X W4 hD hX hst4 fr hfr
    simp only [zM, exq 0 (hX 0 _ rfl), exq 1 (hX 1 _ rfl), exq 2 (hX 2 _ rfl)] at hst4
    dsimp only [mgT, vals, List.take, List.drop, List.cons_append, List.nil_append] at hfr
    clear hX hD; subst hfr; clear σ β X
    refine then_normal ?_
    refine wp_ret ?_
    refine bodyPost_ret (v := .bool ((b == 0) || (!(didF hi ls own g b)))) (results_tmp Tryd.results28 rfl) rfl ?_
    exact Ret.bool (by rw [visF]; cases h1 : didF hi ls own g a <;> cases h2 : didF hi ls own g b <;> by_cases h3 : b = 0 <;> simp_all [bne]) hst4.ext
  refine wp_cond_true (show Act.eval _ _ = .bool true from (congrArg Value.bool (by rw [hs3]; rfl))) ?_
  refine wp_seq ?_
  refine wp_region_P [0] [.k 8 (.bool false)] [(8, 0, 1, 9)] hst2 fun W5 hst5 => ?_
  refine then_normal ?_
  refine wp_ret ?_
  refine then_ret ?_
  refine bodyPost_ret (v := .bool false) (results_tmp Tryd.results28 rfl) rfl ?_
  exact Ret.bool (by rw [visF]; cases h1 : didF hi ls own g a <;> cases h2 : didF hi ls own g b <;> by_cases h3 : b = 0 <;> simp_all [bne]) hst5.ext

set_option maxRecDepth 100000 in
set_option maxHeartbeats 2000000 in
theorem rbes_any (x hi : Int) (LA : Option Addr) (lc : Nat) (ls : List Int) (OA : Option Addr) (oc : Nat) (own : List Int) (T : List Int) (g : Int → Int) (w : World) (hL : At w LA (ls.map (Value.int .i64))) (hll : ls.length ≤ 100000) (hO : At w OA (own.map (Value.int .i64))) (hol : own.length ≤ 100000) (hT : T.length = 128) (hg : ∀ x, tabF T x = g x) :
    Calls Tryd.prog 67 #[.int .i64 x, .agg #[.int .i64 hi, .slice LA ls.length lc], .slice OA own.length oc, .agg (T.map (Value.int .i64)).toArray] w (Ret (.int .i64 (bes1F hi ls own g x)) w) := by
  go_enter Tryd.func67, Tryd.ntmps67
  have hst0 := St.start w
  refine wp_seq ?_
  refine wp_region_T [0, 0, 0] [] [[0], [1]] [] [.a 5, .a 7, .k 8 (.int .i64 0)] (fun ix σ β X => match ix with | 0 => σ 5 = .pointer (some ⟨(pb (β 5)), 0, none⟩) ∧ X 0 = eB (pb (β 5)) 41 #[.int .i64 hi, .slice LA ls.length lc] | 1 => σ 7 = .pointer (some ⟨(pb (β 7)), 0, none⟩) ∧ X 1 = eB (pb (β 7)) 49 (T.map (Value.int .i64)).toArray | _ => True) [0, 1] [0, 1] [(5, 0, 1, 6), (1, 1, 2, 3)] hst0 ?_ ?_ ?_
  · exact fun ix _ _ _ _ _ _ hs hb hx h => match ix, h with
    | 0, h => by dsimp only at h ⊢; rw [← hs 5 rfl, ← hb 5 rfl, ← hx 0 rfl]; exact h
    | 1, h => by dsimp only at h ⊢; rw [← hs 7 rfl, ← hb 7 rfl, ← hx 1 rfl]; exact h
    | _ + 2, _ => trivial
  · refine ⟨?_, ?_, trivial⟩
    · refine sv_any rfl rfl fun ρ β W X cx => ?_
      exact dv_box (cs := #[.int .i64 hi, .slice LA ls.length lc]) rfl (cx.out 1 rfl) rfl rfl rfl (fun σ β' X' hs hb hv hx => ⟨hv, hx⟩)
    · refine sv_any rfl rfl fun ρ β W X cx => ?_
      exact dv_box (cs := (T.map (Value.int .i64)).toArray) rfl (cx.out 3 rfl) rfl rfl rfl (fun σ β' X' hs hb hv hx => ⟨hv, hx⟩)
  intro σ β X W1 hD hX hst1 fr hfr
  obtain ⟨B5_1, hu_B5_1⟩ : ∃ z, pb (β 5) = z := ⟨_, rfl⟩
  obtain ⟨B7_1, hu_B7_1⟩ : ∃ z, pb (β 7) = z := ⟨_, rfl⟩
  simp only [zM, exq 0 ((dTn (hD 0 lq)).2), exq 1 ((dTn (hD 1 lq)).2), hu_B5_1, hu_B7_1] at hst1
  dsimp only [mgT, vals, List.take, List.drop, List.cons_append, List.nil_append] at hfr
  simp only [ed 5 ((dTn (hD 0 lq)).1), ed 7 ((dTn (hD 1 lq)).1), hu_B5_1, hu_B7_1] at hfr
  clear hX hD hu_B5_1 hu_B7_1; subst hfr; clear σ β X
  refine then_normal ?_
  refine wp_seq ?_
  refine wp_region_T [0, 1, 3] [] [] [] [.k 11 (.int .i64 x), .c 12 (.bool (onF x)), .k 9 (.bool (onF x))] (fun _ _ _ _ => True) [0, 1] [1] [(9, 2, 1, 10), (1, 0, 2, 3)] hst1 ?_ ?_ ?_
  · exact fun _ _ _ _ _ _ _ _ _ _ h => h
  · refine ⟨?_, trivial⟩
    · exact sv_call rfl rfl rfl rfl rfl (fun _ _ _ h => h) fun ρ β W X cx => ⟨_, _, run_callF (args := #[.int .i64 x]) rfl cx.sees rfl (by kernel_rfl) (map1 (cx.anc 0 rfl)), ron_any x _⟩
  intro σ β X W2 hD hX hst2 fr hfr
  simp only [zM, exq 0 (hX 0 _ rfl), exq 1 (hX 1 _ rfl)] at hst2
  dsimp only [mgT, vals, List.take, List.drop, List.cons_append, List.nil_append] at hfr
  clear hX hD; subst hfr; clear σ β X
  refine then_normal ?_
  refine wp_seq ?_
  refine wp_seq ?_
  refine wp_region_T [0, 1, 3, 7, 7, 31, 63, 127, 255, 255, 255, 255, 3327, 8191, 16383] [[], [], [], [], [], [], [], [], [0], [], [1]] [] [] [.k 13 (.bool (onF x)), .k 14 (.bool (!(onF x))), .k 15 (.bool (!(onF x))), .z 16 (!(!(onF x))) (.slice OA own.length oc), .z 17 (!(!(onF x))) (.int .i64 x), .y 18 (!(!(onF x))) (.bool (own.contains x)), tO 19 (!(onF x)) (own.contains x), .k 20 (.bool ((!(onF x)) || (own.contains x))), .y 21 (!((!(onF x)) || (own.contains x))) (.agg #[.int .i64 hi, .slice LA ls.length lc]), .z 22 (!((!(onF x)) || (own.contains x))) (.int .i64 x), .y 23 (!((!(onF x)) || (own.contains x))) (.agg (T.map (Value.int .i64)).toArray), .z 24 (!((!(onF x)) || (own.contains x))) (.int .i64 x), .y 25 (!((!(onF x)) || (own.contains x))) (.int .i64 (g x)), .y 26 (!((!(onF x)) || (own.contains x))) (.bool (endS hi ls (g x) x)), tO 27 ((!(onF x)) || (own.contains x)) (endS hi ls (g x) x)] (fun _ _ _ _ => True) [0, 1] [5, 8, 10, 12, 13] [(13, 0, 15, 28)] hst2 ?_ ?_ ?_
  · exact fun _ _ _ _ _ _ _ _ _ _ h => h
  · refine ⟨?_, ?_, ?_, ?_, ?_, trivial⟩
    · exact m3 rfl (fun _ _ _ h => h) (fun cx => (cx.anc 2 rfl)) fun cx hq => ⟨_, _, run_callF (args := #[.slice OA own.length oc, .int .i64 x]) rfl cx.sees rfl (by kernel_rfl) (map2 (mbv (cx.anc 3 rfl) hq) (mbv (cx.anc 4 rfl) hq)), rin_any _ _ own x _ (hO.ext cx.upd.to_ext) (by first | omega | decide | (simp; done) | (simp; omega))⟩
    · exact m2 rfl (fun _ _ _ h => h) (fun cx => (cx.anc 7 rfl)) fun cx hq => run_loadB (n := 2) rfl (by kernel_rfl) (by kernel_rfl) (cx.out 5 rfl) (cx.blk (cx.init 0 _ rfl) rfl) (Nat.le_of_ble_eq_true rfl) rfl
    · exact m2 rfl (fun _ _ _ h => h) (fun cx => (cx.anc 7 rfl)) fun cx hq => run_loadAr (n := 128) rfl (by kernel_rfl) (by kernel_rfl) (cx.out 7 rfl) (cx.blk (cx.init 1 _ rfl) rfl) (by simp [hT])
    · exact m3 rfl (fun _ _ _ h => h) (fun cx => (cx.anc 7 rfl)) fun cx hq => ⟨_, _, run_callF (args := #[.agg (T.map (Value.int .i64)).toArray, .int .i64 x]) rfl cx.sees rfl (by kernel_rfl) (map2 (mbv (cx.anc 10 rfl) hq) (mbv (cx.anc 11 rfl) hq)), ((rst_any T x _ hT).mono fun e W1 h_ => ⟨h_.1.trans (by rw [hg]), h_.2⟩)⟩
    · exact m3 rfl (fun _ _ _ h => h) (fun cx => (cx.anc 7 rfl)) fun cx hq => ⟨_, _, run_callF (args := #[.agg #[.int .i64 hi, .slice LA ls.length lc], .int .i64 x, .int .i64 (g x)]) rfl cx.sees rfl (by kernel_rfl) (map3 (mbv (cx.anc 8 rfl) hq) (mbv (cx.anc 9 rfl) hq) (mbv (cx.anc 12 rfl) hq)), rended_any hi _ _ ls x (g x) _ (hL.ext cx.upd.to_ext) (by first | omega | decide | (simp; done) | (simp; omega))⟩
  intro σ β X W3 hD hX hst3 fr hfr
  simp only [zM, exq 0 (hX 0 _ rfl), exq 1 (hX 1 _ rfl)] at hst3
  dsimp only [mgT, vals, List.take, List.drop, List.cons_append, List.nil_append] at hfr
  clear hX hD; subst hfr; clear σ β X
  refine then_normal ?_
  rcases Bool.eq_false_or_eq_true (((!(onF x)) || (own.contains x)) || (endS hi ls (g x) x)) with hs4 | hs4
  · skip
    have hs4p := hs4
    simp only [zB] at hs4p
    refine wp_cond_true (show Act.eval _ _ = .bool true from (congrArg Value.bool hs4)) ?_
    refine wp_seq ?_
    refine wp_region_P [0] [.k 8 (.int .i64 0)] [(8, 0, 1, 9)] hst3 fun W5 hst5 => ?_
    refine then_normal ?_
    refine wp_ret ?_
    refine then_ret ?_
    refine bodyPost_ret (v := .int .i64 0) (results_tmp Tryd.results67 rfl) rfl ?_
    exact Ret.int (by rw [bes1F, besF, ← endS_eq]; first | (simp_all; done) | (rcases ‹_ ∨ _› with hor | hor <;> simp_all; done) | (rcases ‹_ ∨ _› with (hor | hor) | hor <;> simp_all)) hst5.ext
  have hs4p := hs4
  simp only [zB] at hs4p
  obtain ⟨⟨hs4p1, hs4p2⟩, hs4p3⟩ := hs4p
  refine wp_cond_false (show Act.eval _ _ = .bool false from (congrArg Value.bool hs4)) ?_
  refine wp_skip ?_
  refine then_normal ?_
  refine wp_seq ?_
  refine wp_region_T [0, 0, 3, 7] [[1]] [] [] [.c 28 (.agg (T.map (Value.int .i64)).toArray), .k 29 (.int .i64 x), .c 30 (.int .i64 (g x)), .k 10 (.int .i64 (g x))] (fun _ _ _ _ => True) [0, 1] [0, 2] [(10, 3, 1, 11), (17, 0, 3, 20)] hst3 ?_ ?_ ?_
  · exact fun _ _ _ _ _ _ _ _ _ _ h => h
  · refine ⟨?_, ?_, trivial⟩
    · exact s4 rfl (fun _ _ _ h => h) fun cx => run_loadAr (n := 128) rfl (by kernel_rfl) (by kernel_rfl) (cx.out 7 rfl) (cx.blk (cx.init 1 _ rfl) rfl) (by simp [hT])
    · exact sv_call rfl rfl rfl rfl rfl (fun _ _ _ h => h) fun ρ β W X cx => ⟨_, _, run_callF (args := #[.agg (T.map (Value.int .i64)).toArray, .int .i64 x]) rfl cx.sees rfl (by kernel_rfl) (map2 (cx.anc 0 rfl) (cx.anc 1 rfl)), ((rst_any T x _ hT).mono fun e W1 h_ => ⟨h_.1.trans (by rw [hg]), h_.2⟩)⟩
  intro σ β X W6 hD hX hst6 fr hfr
  simp only [zM, exq 0 (hX 0 _ rfl), exq 1 (hX 1 _ rfl)] at hst6
  dsimp only [mgT, vals, List.take, List.drop, List.cons_append, List.nil_append] at hfr
  clear hX hD; subst hfr; clear σ β X
  refine then_normal ?_
  refine wp_seq ?_
  refine wp_seq ?_
  refine wp_region_P [0, 1, 3, 7, 15, 31, 63, 127, 255, 511] [.k 31 (.int .i64 (g x)), .k 32 (.bool ((g x) == 1)), .k 33 (.bool ((g x) == 1)), .z 34 (!((g x) == 1)) (.int .i64 (g x)), .z 35 (!((g x) == 1)) (.bool ((g x) == 4)), tO 36 ((g x) == 1) ((g x) == 4), .k 37 (.bool (((g x) == 1) || ((g x) == 4))), .z 38 (!(((g x) == 1) || ((g x) == 4))) (.int .i64 (g x)), .z 39 (!(((g x) == 1) || ((g x) == 4))) (.bool ((g x) == 2)), tO 40 (((g x) == 1) || ((g x) == 4)) ((g x) == 2)] [(31, 0, 10, 41)] hst6 fun W7 hst7 => ?_
  refine then_normal ?_
  rcases Bool.eq_false_or_eq_true ((((g x) == 1) || ((g x) == 4)) || ((g x) == 2)) with hs8 | hs8
  · skip
    have hs8p := hs8
    simp only [zB] at hs8p
    refine wp_cond_true (show Act.eval _ _ = .bool true from (congrArg Value.bool hs8)) ?_
    refine wp_seq ?_
    refine wp_region_P [0, 1] [.k 41 (.int .i64 x), .k 8 (.int .i64 x)] [(8, 1, 1, 9), (32, 0, 1, 33)] hst7 fun W9 hst9 => ?_
    refine then_normal ?_
    refine wp_ret ?_
    refine then_ret ?_
    refine bodyPost_ret (v := .int .i64 x) (results_tmp Tryd.results67 rfl) rfl ?_
    exact Ret.int (by rw [bes1F, besF, ← endS_eq]; first | (simp_all; done) | (rcases ‹_ ∨ _› with hor | hor <;> simp_all; done) | (rcases ‹_ ∨ _› with (hor | hor) | hor <;> simp_all)) hst9.ext
  have hs8p := hs8
  simp only [zB] at hs8p
  obtain ⟨⟨hs8p1, hs8p2⟩, hs8p3⟩ := hs8p
  refine wp_cond_false (show Act.eval _ _ = .bool false from (congrArg Value.bool hs8)) ?_
  refine wp_skip ?_
  refine then_normal ?_
  refine wp_seq ?_
  refine wp_region_P [0] [.k 8 (.int .i64 0)] [(8, 0, 1, 9)] hst7 fun W10 hst10 => ?_
  refine then_normal ?_
  refine wp_ret ?_
  refine bodyPost_ret (v := .int .i64 0) (results_tmp Tryd.results67 rfl) rfl ?_
  exact Ret.int (by rw [bes1F, besF, ← endS_eq]; first | (simp_all; done) | (rcases ‹_ ∨ _› with hor | hor <;> simp_all; done) | (rcases ‹_ ∨ _› with (hor | hor) | hor <;> simp_all)) hst10.ext

set_option maxRecDepth 100000 in
set_option maxHeartbeats 2000000 in
theorem rbeside_any (hi : Int) (LA : Option Addr) (lc : Nat) (ls : List Int) (OA : Option Addr) (oc : Nat) (own : List Int) (T : List Int) (g : Int → Int) (a b n1 n2 : Int) (ho : Bool) (RA : Option Addr) (rn rc : Nat) (w : World) (hL : At w LA (ls.map (Value.int .i64))) (hll : ls.length ≤ 100000) (hO : At w OA (own.map (Value.int .i64))) (hol : own.length ≤ 100000) (hT : T.length = 128) (hg : ∀ x, tabF T x = g x) :
    Calls Tryd.prog 24 #[.agg #[.int .i64 a, .int .i64 b, .int .i64 n1, .int .i64 n2, .bool ho, .slice RA rn rc], .agg #[.int .i64 hi, .slice LA ls.length lc], .slice OA own.length oc, .agg (T.map (Value.int .i64)).toArray] w (Ret (.agg #[.int .i64 (bes1F hi ls own g a), .int .i64 (bes1F hi ls own g b)]) w) := by
  go_enter Tryd.func24, Tryd.ntmps24
  have hst0 := St.start w
  refine wp_seq ?_
  refine wp_region_T [0, 0, 0, 0] [] [[0], [1], [2], [3]] [] [.a 4, .a 5, .a 7, .a 8] (fun ix σ β X => match ix with | 0 => σ 4 = .pointer (some ⟨(pb (β 4)), 0, none⟩) ∧ X 0 = eB (pb (β 4)) 27 #[.int .i64 a, .int .i64 b, .int .i64 n1, .int .i64 n2, .bool ho, .slice RA rn rc] | 1 => σ 5 = .pointer (some ⟨(pb (β 5)), 0, none⟩) ∧ X 1 = eB (pb (β 5)) 41 #[.int .i64 hi, .slice LA ls.length lc] | 2 => σ 7 = .pointer (some ⟨(pb (β 7)), 0, none⟩) ∧ X 2 = eB (pb (β 7)) 49 (T.map (Value.int .i64)).toArray | 3 => σ 8 = .pointer (some ⟨(pb (β 8)), 0, none⟩) ∧ X 3 = eB (pb (β 8)) 55 #[.int .i64 0, .int .i64 0] | _ => True) [0, 1, 2, 3] [0, 1, 2, 3] [(4, 0, 2, 6), (1, 2, 2, 3)] hst0 ?_ ?_ ?_
  · exact fun ix _ _ _ _ _ _ hs hb hx h => match ix, h with
    | 0, h => by dsimp only at h ⊢; rw [← hs 4 rfl, ← hb 4 rfl, ← hx 0 rfl]; exact h
    | 1, h => by dsimp only at h ⊢; rw [← hs 5 rfl, ← hb 5 rfl, ← hx 1 rfl]; exact h
    | 2, h => by dsimp only at h ⊢; rw [← hs 7 rfl, ← hb 7 rfl, ← hx 2 rfl]; exact h
    | 3, h => by dsimp only at h ⊢; rw [← hs 8 rfl, ← hb 8 rfl, ← hx 3 rfl]; exact h
    | _ + 4, _ => trivial
  · refine ⟨?_, ?_, ?_, ?_, trivial⟩
    · refine sv_any rfl rfl fun ρ β W X cx => ?_
      exact dv_box (cs := #[.int .i64 a, .int .i64 b, .int .i64 n1, .int .i64 n2, .bool ho, .slice RA rn rc]) rfl (cx.out 0 rfl) rfl rfl rfl (fun σ β' X' hs hb hv hx => ⟨hv, hx⟩)
    · refine sv_any rfl rfl fun ρ β W X cx => ?_
      exact dv_box (cs := #[.int .i64 hi, .slice LA ls.length lc]) rfl (cx.out 1 rfl) rfl rfl rfl (fun σ β' X' hs hb hv hx => ⟨hv, hx⟩)
    · refine sv_any rfl rfl fun ρ β W X cx => ?_
      exact dv_box (cs := (T.map (Value.int .i64)).toArray) rfl (cx.out 3 rfl) rfl rfl rfl (fun σ β' X' hs hb hv hx => ⟨hv, hx⟩)
    · refine sv_any rfl rfl fun ρ β W X cx => ?_
      exact dv_alloc (cs := #[.int .i64 0, .int .i64 0]) rfl (by kernel_rfl) rfl rfl (fun σ β' X' hs hb hv hx => ⟨hv, hx⟩)
  intro σ β X W1 hD hX hst1 fr hfr
  obtain ⟨B4_1, hu_B4_1⟩ : ∃ z, pb (β 4) = z := ⟨_, rfl⟩
  obtain ⟨B5_1, hu_B5_1⟩ : ∃ z, pb (β 5) = z := ⟨_, rfl⟩
  obtain ⟨B7_1, hu_B7_1⟩ : ∃ z, pb (β 7) = z := ⟨_, rfl⟩
  obtain ⟨B8_1, hu_B8_1⟩ : ∃ z, pb (β 8) = z := ⟨_, rfl⟩
  simp only [zM, exq 0 ((dTn (hD 0 lq)).2), exq 1 ((dTn (hD 1 lq)).2), exq 2 ((dTn (hD 2 lq)).2), exq 3 ((dTn (hD 3 lq)).2), hu_B4_1, hu_B5_1, hu_B7_1, hu_B8_1] at hst1
  dsimp only [mgT, vals, List.take, List.drop, List.cons_append, List.nil_append] at hfr
  simp only [ed 4 ((dTn (hD 0 lq)).1), ed 5 ((dTn (hD 1 lq)).1), ed 7 ((dTn (hD 2 lq)).1), ed 8 ((dTn (hD 3 lq)).1), hu_B4_1, hu_B5_1, hu_B7_1, hu_B8_1] at hfr
  clear hX hD hu_B4_1 hu_B5_1 hu_B7_1 hu_B8_1; subst hfr; clear σ β X
  refine then_normal ?_
  refine wp_seq ?_
  refine wp_region_T [0, 1, 0, 0, 0, 31, 0, 64, 0, 0, 0, 2047, 4095, 8191] [[], [0], [1], [], [2], [], [], [0], [1], [], [2], [], [], [3]] [[], [], [], [], [], [], [], [], [], [], [], [], [], [4]] [[], [], [], [], [], [], [], [], [], [], [], [], [], [3]] [.k 9 (.pointer (some ⟨B4_1, 0, none⟩)), .c 10 (.int .i64 a), .c 11 (.agg #[.int .i64 hi, .slice LA ls.length lc]), .k 12 (.slice OA own.length oc), .c 13 (.agg (T.map (Value.int .i64)).toArray), .c 14 (.int .i64 (bes1F hi ls own g a)), .k 15 (.pointer (some ⟨B4_1, 1, none⟩)), .c 16 (.int .i64 b), .c 17 (.agg #[.int .i64 hi, .slice LA ls.length lc]), .k 18 (.slice OA own.length oc), .c 19 (.agg (T.map (Value.int .i64)).toArray), .c 20 (.int .i64 (bes1F hi ls own g b)), .c 21 (.agg #[.int .i64 (bes1F hi ls own g a), .int .i64 (bes1F hi ls own g b)]), .n] (fun ix σ β X => match ix with | 0 => True | 1 => True | 2 => True | 3 => True | 4 => True | 5 => True | 6 => True | 7 => True | 8 => True | 9 => True | 10 => True | 11 => True | 12 => True | 13 => X 4 = eB B8_1 55 #[.int .i64 (bes1F hi ls own g a), .int .i64 (bes1F hi ls own g b)] | _ => True) [0, 1, 2, 4] [1, 2, 4, 5, 7, 8, 10, 11, 12, 13] [(9, 0, 13, 22)] hst1 ?_ ?_ ?_
  · exact fun ix _ _ _ _ _ _ hs hb hx h => match ix, h with
    | 13, h => by dsimp only at h ⊢; rw [← hx 4 rfl]; exact h
    | 0, _ | 1, _ | 2, _ | 3, _ | 4, _ | 5, _ | 6, _ | 7, _ | 8, _ | 9, _ | 10, _ | 11, _ | 12, _ | _ + 14, _ => trivial
  · refine ⟨?_, ?_, ?_, ?_, ?_, ?_, ?_, ?_, ?_, ?_, trivial⟩
    · exact s4 rfl (fun _ _ _ h => h) fun cx => run_load1 rfl (by kernel_rfl) (cx.anc 0 rfl) ((cx.blk (cx.init 0 _ rfl) rfl).cell 0)
    · exact s4 rfl (fun _ _ _ h => h) fun cx => run_loadB (n := 2) rfl (by kernel_rfl) (by kernel_rfl) (cx.out 5 rfl) (cx.blk (cx.init 1 _ rfl) rfl) (Nat.le_of_ble_eq_true rfl) rfl
    · exact s4 rfl (fun _ _ _ h => h) fun cx => run_loadAr (n := 128) rfl (by kernel_rfl) (by kernel_rfl) (cx.out 7 rfl) (cx.blk (cx.init 2 _ rfl) rfl) (by simp [hT])
    · exact sv_call rfl rfl rfl rfl rfl (fun _ _ _ h => h) fun ρ β W X cx => ⟨_, _, run_callF (args := #[.int .i64 a, .agg #[.int .i64 hi, .slice LA ls.length lc], .slice OA own.length oc, .agg (T.map (Value.int .i64)).toArray]) rfl cx.sees rfl (by kernel_rfl) (map4 (cx.anc 1 rfl) (cx.anc 2 rfl) (cx.anc 3 rfl) (cx.anc 4 rfl)), rbes_any a hi _ _ ls _ _ own T g _ (hL.ext cx.upd.to_ext) (by first | omega | decide | (simp; done) | (simp; omega)) (hO.ext cx.upd.to_ext) (by first | omega | decide | (simp; done) | (simp; omega)) hT hg⟩
    · exact s4 rfl (fun _ _ _ h => h) fun cx => run_load1 rfl (by kernel_rfl) (cx.anc 6 rfl) ((cx.blk (cx.init 0 _ rfl) rfl).cell 1)
    · exact s4 rfl (fun _ _ _ h => h) fun cx => run_loadB (n := 2) rfl (by kernel_rfl) (by kernel_rfl) (cx.out 5 rfl) (cx.blk (cx.init 1 _ rfl) rfl) (Nat.le_of_ble_eq_true rfl) rfl
    · exact s4 rfl (fun _ _ _ h => h) fun cx => run_loadAr (n := 128) rfl (by kernel_rfl) (by kernel_rfl) (cx.out 7 rfl) (cx.blk (cx.init 2 _ rfl) rfl) (by simp [hT])
    · exact sv_call rfl rfl rfl rfl rfl (fun _ _ _ h => h) fun ρ β W X cx => ⟨_, _, run_callF (args := #[.int .i64 b, .agg #[.int .i64 hi, .slice LA ls.length lc], .slice OA own.length oc, .agg (T.map (Value.int .i64)).toArray]) rfl cx.sees rfl (by kernel_rfl) (map4 (cx.anc 7 rfl) (cx.anc 8 rfl) (cx.anc 9 rfl) (cx.anc 10 rfl)), rbes_any b hi _ _ ls _ _ own T g _ (hL.ext cx.upd.to_ext) (by first | omega | decide | (simp; done) | (simp; omega)) (hO.ext cx.upd.to_ext) (by first | omega | decide | (simp; done) | (simp; omega)) hT hg⟩
    · exact sv0 rfl rfl rfl rfl rfl (fun _ _ _ h => h) fun ρ β W X cx => by
        have fF14 : ρ (.tmp 14) = .int .i64 (bes1F hi ls own g a) := (cx.anc 5 rfl)
        have fF20 : ρ (.tmp 20) = .int .i64 (bes1F hi ls own g b) := (cx.anc 11 rfl)
        simp [go_sem, fF14, fF20] <;> rfl
    · refine sv_any rfl rfl fun ρ β W X cx => ?_
      exact dv_store (n := 2) rfl (cx.out 8 rfl) (cx.anc 12 rfl) (by kernel_rfl) rfl rfl cx (cx.init 3 _ rfl) rfl (Nat.le_of_ble_eq_true rfl) rfl rfl rfl rfl (fun σ β' X' hs hb hx => hx)
  intro σ β X W2 hD hX hst2 fr hfr
  simp only [zM, exq 0 (hX 0 _ rfl), exq 1 (hX 1 _ rfl), exq 2 (hX 2 _ rfl), exq 4 ((dTn (hD 13 lq)))] at hst2
  dsimp only [mgT, vals, List.take, List.drop, List.cons_append, List.nil_append] at hfr
  clear hX hD; subst hfr; clear σ β X
  refine then_normal ?_
  refine wp_ret ?_
  refine bodyPost_ret (v := .agg #[.int .i64 (bes1F hi ls own g a), .int .i64 (bes1F hi ls own g b)]) (results_cell Tryd.results24 rfl (by kernel_rfl) (by kernel_rfl) (hst2.blk 3 rfl) rfl) rfl ?_
  exact Ret.of rfl hst2.ext

set_option maxRecDepth 100000 in
set_option maxHeartbeats 2000000 in
theorem rbusy_any (OA : Option Addr) (oc : Nat) (own : List Int) (T : List Int) (g : Int → Int) (a b n1 n2 : Int) (ho : Bool) (RA : Option Addr) (rn rc : Nat) (w : World) (hO : At w OA (own.map (Value.int .i64))) (hol : own.length ≤ 100000) (hT : T.length = 128) (hg : ∀ x, tabF T x = g x) :
    Calls Tryd.prog 30 #[.agg #[.int .i64 a, .int .i64 b, .int .i64 n1, .int .i64 n2, .bool ho, .slice RA rn rc], .slice OA own.length oc, .agg (T.map (Value.int .i64)).toArray] w (Ret (.int .i64 (busyF own g b)) w) := by
  go_enter Tryd.func30, Tryd.ntmps30
  have hst0 := St.start w
  refine wp_seq ?_
  refine wp_region_T [0, 0, 0] [] [[0], [1]] [] [.a 3, .a 5, .k 6 (.int .i64 0)] (fun ix σ β X => match ix with | 0 => σ 3 = .pointer (some ⟨(pb (β 3)), 0, none⟩) ∧ X 0 = eB (pb (β 3)) 27 #[.int .i64 a, .int .i64 b, .int .i64 n1, .int .i64 n2, .bool ho, .slice RA rn rc] | 1 => σ 5 = .pointer (some ⟨(pb (β 5)), 0, none⟩) ∧ X 1 = eB (pb (β 5)) 49 (T.map (Value.int .i64)).toArray | _ => True) [0, 1] [0, 1] [(3, 0, 1, 4), (1, 1, 2, 3)] hst0 ?_ ?_ ?_
  · exact fun ix _ _ _ _ _ _ hs hb hx h => match ix, h with
    | 0, h => by dsimp only at h ⊢; rw [← hs 3 rfl, ← hb 3 rfl, ← hx 0 rfl]; exact h
    | 1, h => by dsimp only at h ⊢; rw [← hs 5 rfl, ← hb 5 rfl, ← hx 1 rfl]; exact h
    | _ + 2, _ => trivial
  · refine ⟨?_, ?_, trivial⟩
    · refine sv_any rfl rfl fun ρ β W X cx => ?_
      exact dv_box (cs := #[.int .i64 a, .int .i64 b, .int .i64 n1, .int .i64 n2, .bool ho, .slice RA rn rc]) rfl (cx.out 0 rfl) rfl rfl rfl (fun σ β' X' hs hb hv hx => ⟨hv, hx⟩)
    · refine sv_any rfl rfl fun ρ β W X cx => ?_
      exact dv_box (cs := (T.map (Value.int .i64)).toArray) rfl (cx.out 2 rfl) rfl rfl rfl (fun σ β' X' hs hb hv hx => ⟨hv, hx⟩)
  intro σ β X W1 hD hX hst1 fr hfr
  obtain ⟨B3_1, hu_B3_1⟩ : ∃ z, pb (β 3) = z := ⟨_, rfl⟩
  obtain ⟨B5_1, hu_B5_1⟩ : ∃ z, pb (β 5) = z := ⟨_, rfl⟩
  simp only [zM, exq 0 ((dTn (hD 0 lq)).2), exq 1 ((dTn (hD 1 lq)).2), hu_B3_1, hu_B5_1] at hst1
  dsimp only [mgT, vals, List.take, List.drop, List.cons_append, List.nil_append] at hfr
  simp only [ed 3 ((dTn (hD 0 lq)).1), ed 5 ((dTn (hD 1 lq)).1), hu_B3_1, hu_B5_1] at hfr
  clear hX hD hu_B3_1 hu_B5_1; subst hfr; clear σ β X
  refine then_normal ?_
  refine wp_seq ?_
  refine wp_region_T [0, 0, 2, 7, 15] [[1], [], [0]] [] [] [.c 8 (.agg (T.map (Value.int .i64)).toArray), .k 9 (.pointer (some ⟨B3_1, 1, none⟩)), .c 10 (.int .i64 b), .c 11 (.int .i64 (g b)), .k 7 (.int .i64 (g b))] (fun _ _ _ _ => True) [0, 1] [0, 2, 3] [(7, 4, 1, 8), (0, 0, 4, 4)] hst1 ?_ ?_ ?_
  · exact fun _ _ _ _ _ _ _ _ _ _ h => h
  · refine ⟨?_, ?_, ?_, trivial⟩
    · exact s4 rfl (fun _ _ _ h => h) fun cx => run_loadAr (n := 128) rfl (by kernel_rfl) (by kernel_rfl) (cx.out 5 rfl) (cx.blk (cx.init 1 _ rfl) rfl) (by simp [hT])
    · exact s4 rfl (fun _ _ _ h => h) fun cx => run_load1 rfl (by kernel_rfl) (cx.anc 1 rfl) ((cx.blk (cx.init 0 _ rfl) rfl).cell 1)
    · exact sv_call rfl rfl rfl rfl rfl (fun _ _ _ h => h) fun ρ β W X cx => ⟨_, _, run_callF (args := #[.agg (T.map (Value.int .i64)).toArray, .int .i64 b]) rfl cx.sees rfl (by kernel_rfl) (map2 (cx.anc 0 rfl) (cx.anc 2 rfl)), ((rst_any T b _ hT).mono fun e W1 h_ => ⟨h_.1.trans (by rw [hg]), h_.2⟩)⟩
  intro σ β X W2 hD hX hst2 fr hfr
  simp only [zM, exq 0 (hX 0 _ rfl), exq 1 (hX 1 _ rfl)] at hst2
  dsimp only [mgT, vals, List.take, List.drop, List.cons_append, List.nil_append] at hfr
  clear hX hD; subst hfr; clear σ β X
  refine then_normal ?_
  refine wp_seq ?_
  refine wp_seq ?_
  refine wp_region_T [0, 0, 2, 7, 15, 31, 63, 127, 255, 511, 1023, 2047, 4095] [[], [], [0]] [] [] [.k 12 (.slice OA own.length oc), .k 13 (.pointer (some ⟨B3_1, 1, none⟩)), .c 14 (.int .i64 b), .c 15 (.bool (own.contains b)), .k 16 (.bool (!(own.contains b))), .k 17 (.bool (!(own.contains b))), .z 18 (!(own.contains b)) (.int .i64 (g b)), .z 19 (!(own.contains b)) (.bool ((g b) == 1)), .z 20 (!(own.contains b)) (.bool ((g b) == 1)), .z 21 ((!(own.contains b)) && (!((g b) == 1))) (.int .i64 (g b)), .z 22 ((!(own.contains b)) && (!((g b) == 1))) (.bool ((g b) == 4)), .y 23 (!(own.contains b)) (.bool (((g b) == 1) || ((g b) == 4))), tA 24 (!(own.contains b)) (((g b) == 1) || ((g b) == 4))] (fun _ _ _ _ => True) [0, 1] [2, 3, 11] [(12, 0, 13, 25)] hst2 ?_ ?_ ?_
  · exact fun _ _ _ _ _ _ _ _ _ _ h => h
  · refine ⟨?_, ?_, ?_, trivial⟩
    · exact s4 rfl (fun _ _ _ h => h) fun cx => run_load1 rfl (by kernel_rfl) (cx.anc 1 rfl) ((cx.blk (cx.init 0 _ rfl) rfl).cell 1)
    · exact sv_call rfl rfl rfl rfl rfl (fun _ _ _ h => h) fun ρ β W X cx => ⟨_, _, run_callF (args := #[.slice OA own.length oc, .int .i64 b]) rfl cx.sees rfl (by kernel_rfl) (map2 (cx.anc 0 rfl) (cx.anc 2 rfl)), rin_any _ _ own b _ (hO.ext cx.upd.to_ext) (by first | omega | decide | (simp; done) | (simp; omega))⟩
    · exact m2 rfl (fun _ _ _ h => h) (fun cx => (cx.anc 5 rfl)) fun cx hq => run_pick_or rfl (mbv (cx.anc 8 rfl) hq) (cx.sees.const _) (cx.anc 10 rfl) (fun e_ => by rw [hq, e_]; rfl)
  intro σ β X W3 hD hX hst3 fr hfr
  simp only [zM, exq 0 (hX 0 _ rfl), exq 1 (hX 1 _ rfl)] at hst3
  dsimp only [mgT, vals, List.take, List.drop, List.cons_append, List.nil_append] at hfr
  clear hX hD; subst hfr; clear σ β X
  refine then_normal ?_
  rcases Bool.eq_false_or_eq_true ((!(own.contains b)) && (((g b) == 1) || ((g b) == 4))) with hs4 | hs4
  · skip
    have hs4p := hs4
    simp only [zB] at hs4p
    obtain ⟨hs4p1, hs4p2⟩ := hs4p
    refine wp_cond_true (show Act.eval _ _ = .bool true from (congrArg Value.bool hs4)) ?_
    refine wp_seq ?_
    refine wp_region_T [0, 1, 3] [[], [0]] [] [] [.k 25 (.pointer (some ⟨B3_1, 1, none⟩)), .c 26 (.int .i64 b), .k 6 (.int .i64 b)] (fun _ _ _ _ => True) [0, 1] [1] [(6, 2, 1, 7), (18, 0, 2, 20)] hst3 ?_ ?_ ?_
    · exact fun _ _ _ _ _ _ _ _ _ _ h => h
    · refine ⟨?_, trivial⟩
      · exact s4 rfl (fun _ _ _ h => h) fun cx => run_load1 rfl (by kernel_rfl) (cx.anc 0 rfl) ((cx.blk (cx.init 0 _ rfl) rfl).cell 1)
    intro σ β X W5 hD hX hst5 fr hfr
    simp only [zM, exq 0 (hX 0 _ rfl), exq 1 (hX 1 _ rfl)] at hst5
    dsimp only [mgT, vals, List.take, List.drop, List.cons_append, List.nil_append] at hfr
    clear hX hD; subst hfr; clear σ β X
    refine then_normal ?_
    refine wp_ret ?_
    refine then_ret ?_
    refine bodyPost_ret (v := .int .i64 b) (results_tmp Tryd.results30 rfl) rfl ?_
    exact Ret.int (by rw [busyF]; first | (simp_all; done) | (by_cases h2 : g b = 1 <;> by_cases h3 : g b = 4 <;> cases h1 : own.contains b <;> simp_all)) hst5.ext
  have hs4p := hs4
  simp only [zB] at hs4p
  refine wp_cond_false (show Act.eval _ _ = .bool false from (congrArg Value.bool hs4)) ?_
  refine wp_skip ?_
  refine then_normal ?_
  refine wp_seq ?_
  refine wp_region_P [0] [.k 6 (.int .i64 0)] [(6, 0, 1, 7)] hst3 fun W6 hst6 => ?_
  refine then_normal ?_
  refine wp_ret ?_
  refine bodyPost_ret (v := .int .i64 0) (results_tmp Tryd.results30 rfl) rfl ?_
  exact Ret.int (by rw [busyF]; first | (simp_all; done) | (by_cases h2 : g b = 1 <;> by_cases h3 : g b = 4 <;> cases h1 : own.contains b <;> simp_all)) hst6.ext

set_option maxRecDepth 100000 in
set_option maxHeartbeats 2000000 in
theorem rold_any (x hz : Int) (T : List Int) (g : Int → Int) (w : World) (hT : T.length = 128) (hg : ∀ x, tabF T x = g x) :
    Calls Tryd.prog 70 #[.int .i64 x, .int .i64 hz, .agg (T.map (Value.int .i64)).toArray] w (Ret (.bool (oldF g hz x)) w) := by
  go_enter Tryd.func70, Tryd.ntmps70
  have hst0 := St.start w
  refine wp_seq ?_
  refine wp_region_T [0, 0] [] [[0]] [] [.a 5, .k 6 (.bool false)] (fun ix σ β X => match ix with | 0 => σ 5 = .pointer (some ⟨(pb (β 5)), 0, none⟩) ∧ X 0 = eB (pb (β 5)) 49 (T.map (Value.int .i64)).toArray | _ => True) [0] [0] [(5, 0, 2, 7)] hst0 ?_ ?_ ?_
  · exact fun ix _ _ _ _ _ _ hs hb hx h => match ix, h with
    | 0, h => by dsimp only at h ⊢; rw [← hs 5 rfl, ← hb 5 rfl, ← hx 0 rfl]; exact h
    | _ + 1, _ => trivial
  · refine ⟨?_, trivial⟩
    · refine sv_any rfl rfl fun ρ β W X cx => ?_
      exact dv_box (cs := (T.map (Value.int .i64)).toArray) rfl (cx.out 2 rfl) rfl rfl rfl (fun σ β' X' hs hb hv hx => ⟨hv, hx⟩)
  intro σ β X W1 hD hX hst1 fr hfr
  obtain ⟨B5_1, hu_B5_1⟩ : ∃ z, pb (β 5) = z := ⟨_, rfl⟩
  simp only [zM, exq 0 ((dTn (hD 0 lq)).2), hu_B5_1] at hst1
  dsimp only [mgT, vals, List.take, List.drop, List.cons_append, List.nil_append] at hfr
  simp only [ed 5 ((dTn (hD 0 lq)).1), hu_B5_1] at hfr
  clear hX hD hu_B5_1; subst hfr; clear σ β X
  refine then_normal ?_
  refine wp_seq ?_
  refine wp_region_T [0, 1, 3] [] [] [] [.k 8 (.int .i64 x), .c 9 (.bool (onF x)), .k 7 (.bool (onF x))] (fun _ _ _ _ => True) [0] [1] [(7, 2, 1, 8), (0, 0, 2, 2)] hst1 ?_ ?_ ?_
  · exact fun _ _ _ _ _ _ _ _ _ _ h => h
  · refine ⟨?_, trivial⟩
    · exact sv_call rfl rfl rfl rfl rfl (fun _ _ _ h => h) fun ρ β W X cx => ⟨_, _, run_callF (args := #[.int .i64 x]) rfl cx.sees rfl (by kernel_rfl) (map1 (cx.anc 0 rfl)), ron_any x _⟩
  intro σ β X W2 hD hX hst2 fr hfr
  simp only [zM, exq 0 (hX 0 _ rfl)] at hst2
  dsimp only [mgT, vals, List.take, List.drop, List.cons_append, List.nil_append] at hfr
  clear hX hD; subst hfr; clear σ β X
  refine then_normal ?_
  refine wp_seq ?_
  refine wp_region_T [0, 1, 3, 3, 15, 31, 63, 127, 127, 511, 1023, 2047, 4095] [[], [], [], [], [], [], [], [0]] [] [] [.k 10 (.bool (onF x)), .k 11 (.bool (onF x)), .z 12 (onF x) (.int .i64 x), .z 13 (onF x) (.int .i64 hz), .y 14 (onF x) (.bool (beforeF x hz)), tA 15 (onF x) (beforeF x hz), .k 16 (.bool ((onF x) && (beforeF x hz))), .y 17 ((onF x) && (beforeF x hz)) (.agg (T.map (Value.int .i64)).toArray), .z 18 ((onF x) && (beforeF x hz)) (.int .i64 x), .y 19 ((onF x) && (beforeF x hz)) (.int .i64 (g x)), .z 20 ((onF x) && (beforeF x hz)) (.bool ((g x) == 2)), tA 21 ((onF x) && (beforeF x hz)) ((g x) == 2), .k 6 (.bool (((onF x) && (beforeF x hz)) && ((g x) == 2)))] (fun _ _ _ _ => True) [0] [4, 7, 9] [(6, 12, 1, 7), (3, 0, 12, 15)] hst2 ?_ ?_ ?_
  · exact fun _ _ _ _ _ _ _ _ _ _ h => h
  · refine ⟨?_, ?_, ?_, trivial⟩
    · exact m3 rfl (fun _ _ _ h => h) (fun cx => (cx.anc 1 rfl)) fun cx hq => ⟨_, _, run_callF (args := #[.int .i64 x, .int .i64 hz]) rfl cx.sees rfl (by kernel_rfl) (map2 (mbv (cx.anc 2 rfl) hq) (mbv (cx.anc 3 rfl) hq)), rbefore_any x hz _⟩
    · exact m2 rfl (fun _ _ _ h => h) (fun cx => (cx.anc 6 rfl)) fun cx hq => run_loadAr (n := 128) rfl (by kernel_rfl) (by kernel_rfl) (cx.out 5 rfl) (cx.blk (cx.init 0 _ rfl) rfl) (by simp [hT])
    · exact m3 rfl (fun _ _ _ h => h) (fun cx => (cx.anc 6 rfl)) fun cx hq => ⟨_, _, run_callF (args := #[.agg (T.map (Value.int .i64)).toArray, .int .i64 x]) rfl cx.sees rfl (by kernel_rfl) (map2 (mbv (cx.anc 7 rfl) hq) (mbv (cx.anc 8 rfl) hq)), ((rst_any T x _ hT).mono fun e W1 h_ => ⟨h_.1.trans (by rw [hg]), h_.2⟩)⟩
  intro σ β X W3 hD hX hst3 fr hfr
  simp only [zM, exq 0 (hX 0 _ rfl)] at hst3
  dsimp only [mgT, vals, List.take, List.drop, List.cons_append, List.nil_append] at hfr
  clear hX hD; subst hfr; clear σ β X
  refine then_normal ?_
  refine wp_ret ?_
  refine bodyPost_ret (v := .bool (((onF x) && (beforeF x hz)) && ((g x) == 2))) (results_tmp Tryd.results70 rfl) rfl ?_
  exact Ret.bool (by simp [oldF, Bool.and_assoc]) hst3.ext

set_option maxRecDepth 100000 in
set_option maxHeartbeats 2000000 in
theorem rdead_any (hz : Int) (T : List Int) (g : Int → Int) (a b n1 n2 : Int) (ho : Bool) (RA : Option Addr) (rn rc : Nat) (w : World) (hT : T.length = 128) (hg : ∀ x, tabF T x = g x) :
    Calls Tryd.prog 32 #[.agg #[.int .i64 a, .int .i64 b, .int .i64 n1, .int .i64 n2, .bool ho, .slice RA rn rc], .int .i64 hz, .agg (T.map (Value.int .i64)).toArray] w (Ret (.bool (deadF g hz a b)) w) := by
  go_enter Tryd.func32, Tryd.ntmps32
  have hst0 := St.start w
  refine wp_seq ?_
  refine wp_region_T [0, 0, 0] [] [[0], [1]] [] [.a 3, .a 5, .k 6 (.bool false)] (fun ix σ β X => match ix with | 0 => σ 3 = .pointer (some ⟨(pb (β 3)), 0, none⟩) ∧ X 0 = eB (pb (β 3)) 27 #[.int .i64 a, .int .i64 b, .int .i64 n1, .int .i64 n2, .bool ho, .slice RA rn rc] | 1 => σ 5 = .pointer (some ⟨(pb (β 5)), 0, none⟩) ∧ X 1 = eB (pb (β 5)) 49 (T.map (Value.int .i64)).toArray | _ => True) [0, 1] [0, 1] [(3, 0, 1, 4), (1, 1, 2, 3)] hst0 ?_ ?_ ?_
  · exact fun ix _ _ _ _ _ _ hs hb hx h => match ix, h with
    | 0, h => by dsimp only at h ⊢; rw [← hs 3 rfl, ← hb 3 rfl, ← hx 0 rfl]; exact h
    | 1, h => by dsimp only at h ⊢; rw [← hs 5 rfl, ← hb 5 rfl, ← hx 1 rfl]; exact h
    | _ + 2, _ => trivial
  · refine ⟨?_, ?_, trivial⟩
    · refine sv_any rfl rfl fun ρ β W X cx => ?_
      exact dv_box (cs := #[.int .i64 a, .int .i64 b, .int .i64 n1, .int .i64 n2, .bool ho, .slice RA rn rc]) rfl (cx.out 0 rfl) rfl rfl rfl (fun σ β' X' hs hb hv hx => ⟨hv, hx⟩)
    · refine sv_any rfl rfl fun ρ β W X cx => ?_
      exact dv_box (cs := (T.map (Value.int .i64)).toArray) rfl (cx.out 2 rfl) rfl rfl rfl (fun σ β' X' hs hb hv hx => ⟨hv, hx⟩)
  intro σ β X W1 hD hX hst1 fr hfr
  obtain ⟨B3_1, hu_B3_1⟩ : ∃ z, pb (β 3) = z := ⟨_, rfl⟩
  obtain ⟨B5_1, hu_B5_1⟩ : ∃ z, pb (β 5) = z := ⟨_, rfl⟩
  simp only [zM, exq 0 ((dTn (hD 0 lq)).2), exq 1 ((dTn (hD 1 lq)).2), hu_B3_1, hu_B5_1] at hst1
  dsimp only [mgT, vals, List.take, List.drop, List.cons_append, List.nil_append] at hfr
  simp only [ed 3 ((dTn (hD 0 lq)).1), ed 5 ((dTn (hD 1 lq)).1), hu_B3_1, hu_B5_1] at hfr
  clear hX hD hu_B3_1 hu_B5_1; subst hfr; clear σ β X
  refine then_normal ?_
  refine wp_seq ?_
  refine wp_region_T [0, 1, 0, 0, 15, 31] [[], [0], [], [1]] [] [] [.k 8 (.pointer (some ⟨B3_1, 1, none⟩)), .c 9 (.int .i64 b), .k 10 (.int .i64 hz), .c 11 (.agg (T.map (Value.int .i64)).toArray), .c 12 (.bool (oldF g hz b)), .k 7 (.bool (oldF g hz b))] (fun _ _ _ _ => True) [0, 1] [1, 3, 4] [(7, 5, 1, 8), (0, 0, 5, 5)] hst1 ?_ ?_ ?_
  · exact fun _ _ _ _ _ _ _ _ _ _ h => h
  · refine ⟨?_, ?_, ?_, trivial⟩
    · exact s4 rfl (fun _ _ _ h => h) fun cx => run_load1 rfl (by kernel_rfl) (cx.anc 0 rfl) ((cx.blk (cx.init 0 _ rfl) rfl).cell 1)
    · exact s4 rfl (fun _ _ _ h => h) fun cx => run_loadAr (n := 128) rfl (by kernel_rfl) (by kernel_rfl) (cx.out 5 rfl) (cx.blk (cx.init 1 _ rfl) rfl) (by simp [hT])
    · exact sv_call rfl rfl rfl rfl rfl (fun _ _ _ h => h) fun ρ β W X cx => ⟨_, _, run_callF (args := #[.int .i64 b, .int .i64 hz, .agg (T.map (Value.int .i64)).toArray]) rfl cx.sees rfl (by kernel_rfl) (map3 (cx.anc 1 rfl) (cx.anc 2 rfl) (cx.anc 3 rfl)), rold_any b hz T g _ hT hg⟩
  intro σ β X W2 hD hX hst2 fr hfr
  simp only [zM, exq 0 (hX 0 _ rfl), exq 1 (hX 1 _ rfl)] at hst2
  dsimp only [mgT, vals, List.take, List.drop, List.cons_append, List.nil_append] at hfr
  clear hX hD; subst hfr; clear σ β X
  refine then_normal ?_
  refine wp_seq ?_
  refine wp_region_T [0, 0, 2, 7, 15, 31, 63, 127, 255] [[1], [], [0]] [] [] [.c 13 (.agg (T.map (Value.int .i64)).toArray), .k 14 (.pointer (some ⟨B3_1, 0, none⟩)), .c 15 (.int .i64 a), .c 16 (.int .i64 (g a)), .k 17 (.bool ((g a) == 3)), .k 18 (.bool ((g a) == 3)), .z 19 (!((g a) == 3)) (.bool (oldF g hz b)), tO 20 ((g a) == 3) (oldF g hz b), .k 6 (.bool (((g a) == 3) || (oldF g hz b)))] (fun _ _ _ _ => True) [0, 1] [0, 2, 3] [(6, 8, 1, 7), (6, 0, 8, 14)] hst2 ?_ ?_ ?_
  · exact fun _ _ _ _ _ _ _ _ _ _ h => h
  · refine ⟨?_, ?_, ?_, trivial⟩
    · exact s4 rfl (fun _ _ _ h => h) fun cx => run_loadAr (n := 128) rfl (by kernel_rfl) (by kernel_rfl) (cx.out 5 rfl) (cx.blk (cx.init 1 _ rfl) rfl) (by simp [hT])
    · exact s4 rfl (fun _ _ _ h => h) fun cx => run_load1 rfl (by kernel_rfl) (cx.anc 1 rfl) ((cx.blk (cx.init 0 _ rfl) rfl).cell 0)
    · exact sv_call rfl rfl rfl rfl rfl (fun _ _ _ h => h) fun ρ β W X cx => ⟨_, _, run_callF (args := #[.agg (T.map (Value.int .i64)).toArray, .int .i64 a]) rfl cx.sees rfl (by kernel_rfl) (map2 (cx.anc 0 rfl) (cx.anc 2 rfl)), ((rst_any T a _ hT).mono fun e W1 h_ => ⟨h_.1.trans (by rw [hg]), h_.2⟩)⟩
  intro σ β X W3 hD hX hst3 fr hfr
  simp only [zM, exq 0 (hX 0 _ rfl), exq 1 (hX 1 _ rfl)] at hst3
  dsimp only [mgT, vals, List.take, List.drop, List.cons_append, List.nil_append] at hfr
  clear hX hD; subst hfr; clear σ β X
  refine then_normal ?_
  refine wp_ret ?_
  refine bodyPost_ret (v := .bool (((g a) == 3) || (oldF g hz b))) (results_tmp Tryd.results32 rfl) rfl ?_
  exact Ret.bool (by simp [deadF]) hst3.ext

set_option maxRecDepth 100000 in
set_option maxHeartbeats 2000000 in
theorem rall_any (hz : Int) (T : List Int) (g : Int → Int) (a b n1 n2 : Int) (ho : Bool) (RA : Option Addr) (rn rc : Nat) (w : World) (hT : T.length = 128) (hg : ∀ x, tabF T x = g x) :
    Calls Tryd.prog 34 #[.agg #[.int .i64 a, .int .i64 b, .int .i64 n1, .int .i64 n2, .bool ho, .slice RA rn rc], .int .i64 hz, .agg (T.map (Value.int .i64)).toArray] w (Ret (.bool (allF g hz a b)) w) := by
  go_enter Tryd.func34, Tryd.ntmps34
  have hst0 := St.start w
  refine wp_seq ?_
  refine wp_region_T [0, 0, 0] [] [[0], [1]] [] [.a 3, .a 5, .k 6 (.bool false)] (fun ix σ β X => match ix with | 0 => σ 3 = .pointer (some ⟨(pb (β 3)), 0, none⟩) ∧ X 0 = eB (pb (β 3)) 27 #[.int .i64 a, .int .i64 b, .int .i64 n1, .int .i64 n2, .bool ho, .slice RA rn rc] | 1 => σ 5 = .pointer (some ⟨(pb (β 5)), 0, none⟩) ∧ X 1 = eB (pb (β 5)) 49 (T.map (Value.int .i64)).toArray | _ => True) [0, 1] [0, 1] [(3, 0, 1, 4), (1, 1, 2, 3)] hst0 ?_ ?_ ?_
  · exact fun ix _ _ _ _ _ _ hs hb hx h => match ix, h with
    | 0, h => by dsimp only at h ⊢; rw [← hs 3 rfl, ← hb 3 rfl, ← hx 0 rfl]; exact h
    | 1, h => by dsimp only at h ⊢; rw [← hs 5 rfl, ← hb 5 rfl, ← hx 1 rfl]; exact h
    | _ + 2, _ => trivial
  · refine ⟨?_, ?_, trivial⟩
    · refine sv_any rfl rfl fun ρ β W X cx => ?_
      exact dv_box (cs := #[.int .i64 a, .int .i64 b, .int .i64 n1, .int .i64 n2, .bool ho, .slice RA rn rc]) rfl (cx.out 0 rfl) rfl rfl rfl (fun σ β' X' hs hb hv hx => ⟨hv, hx⟩)
    · refine sv_any rfl rfl fun ρ β W X cx => ?_
      exact dv_box (cs := (T.map (Value.int .i64)).toArray) rfl (cx.out 2 rfl) rfl rfl rfl (fun σ β' X' hs hb hv hx => ⟨hv, hx⟩)
  intro σ β X W1 hD hX hst1 fr hfr
  obtain ⟨B3_1, hu_B3_1⟩ : ∃ z, pb (β 3) = z := ⟨_, rfl⟩
  obtain ⟨B5_1, hu_B5_1⟩ : ∃ z, pb (β 5) = z := ⟨_, rfl⟩
  simp only [zM, exq 0 ((dTn (hD 0 lq)).2), exq 1 ((dTn (hD 1 lq)).2), hu_B3_1, hu_B5_1] at hst1
  dsimp only [mgT, vals, List.take, List.drop, List.cons_append, List.nil_append] at hfr
  simp only [ed 3 ((dTn (hD 0 lq)).1), ed 5 ((dTn (hD 1 lq)).1), hu_B3_1, hu_B5_1] at hfr
  clear hX hD hu_B3_1 hu_B5_1; subst hfr; clear σ β X
  refine then_normal ?_
  refine wp_seq ?_
  refine wp_region_T [0, 1, 3, 7, 15, 31, 15, 15, 255, 511, 1023] [[], [0], [], [], [], [0], [], [1]] [] [] [.k 8 (.pointer (some ⟨B3_1, 0, none⟩)), .c 9 (.int .i64 a), .k 10 (.bool (a == 2)), .k 11 (.bool (a == 2)), .z 12 (!(a == 2)) (.pointer (some ⟨B3_1, 0, none⟩)), .y 13 (!(a == 2)) (.int .i64 a), .z 14 (!(a == 2)) (.int .i64 hz), .y 15 (!(a == 2)) (.agg (T.map (Value.int .i64)).toArray), .y 16 (!(a == 2)) (.bool (oldF g hz a)), tO 17 (a == 2) (oldF g hz a), .k 7 (.bool ((a == 2) || (oldF g hz a)))] (fun _ _ _ _ => True) [0, 1] [1, 5, 7, 8] [(7, 10, 1, 8), (0, 0, 10, 10)] hst1 ?_ ?_ ?_
  · exact fun _ _ _ _ _ _ _ _ _ _ h => h
  · refine ⟨?_, ?_, ?_, ?_, trivial⟩
    · exact s4 rfl (fun _ _ _ h => h) fun cx => run_load1 rfl (by kernel_rfl) (cx.anc 0 rfl) ((cx.blk (cx.init 0 _ rfl) rfl).cell 0)
    · exact m2 rfl (fun _ _ _ h => h) (fun cx => (cx.anc 3 rfl)) fun cx hq => run_load1 rfl (by kernel_rfl) (mbv (cx.anc 4 rfl) hq) ((cx.blk (cx.init 0 _ rfl) rfl).cell 0)
    · exact m2 rfl (fun _ _ _ h => h) (fun cx => (cx.anc 3 rfl)) fun cx hq => run_loadAr (n := 128) rfl (by kernel_rfl) (by kernel_rfl) (cx.out 5 rfl) (cx.blk (cx.init 1 _ rfl) rfl) (by simp [hT])
    · exact m3 rfl (fun _ _ _ h => h) (fun cx => (cx.anc 3 rfl)) fun cx hq => ⟨_, _, run_callF (args := #[.int .i64 a, .int .i64 hz, .agg (T.map (Value.int .i64)).toArray]) rfl cx.sees rfl (by kernel_rfl) (map3 (mbv (cx.anc 5 rfl) hq) (mbv (cx.anc 6 rfl) hq) (mbv (cx.anc 7 rfl) hq)), rold_any a hz T g _ hT hg⟩
  intro σ β X W2 hD hX hst2 fr hfr
  simp only [zM, exq 0 (hX 0 _ rfl), exq 1 (hX 1 _ rfl)] at hst2
  dsimp only [mgT, vals, List.take, List.drop, List.cons_append, List.nil_append] at hfr
  clear hX hD; subst hfr; clear σ β X
  refine then_normal ?_
  refine wp_seq ?_
  refine wp_region_T [0, 1, 3, 7, 15, 31, 63, 63, 191, 511, 1023, 2047, 4095, 8191] [[], [], [], [0], [], [], [1], [], [0]] [] [] [.k 18 (.bool ((a == 2) || (oldF g hz a))), .k 19 (.bool ((a == 2) || (oldF g hz a))), .z 20 ((a == 2) || (oldF g hz a)) (.pointer (some ⟨B3_1, 1, none⟩)), .y 21 ((a == 2) || (oldF g hz a)) (.int .i64 b), .z 22 ((a == 2) || (oldF g hz a)) (.bool (b == 0)), .z 23 ((a == 2) || (oldF g hz a)) (.bool (b == 0)), .y 24 (((a == 2) || (oldF g hz a)) && (!(b == 0))) (.agg (T.map (Value.int .i64)).toArray), .z 25 (((a == 2) || (oldF g hz a)) && (!(b == 0))) (.pointer (some ⟨B3_1, 1, none⟩)), .y 26 (((a == 2) || (oldF g hz a)) && (!(b == 0))) (.int .i64 b), .y 27 (((a == 2) || (oldF g hz a)) && (!(b == 0))) (.int .i64 (g b)), .z 28 (((a == 2) || (oldF g hz a)) && (!(b == 0))) (.bool ((g b) == 3)), .y 29 ((a == 2) || (oldF g hz a)) (.bool ((b == 0) || ((g b) == 3))), tA 30 ((a == 2) || (oldF g hz a)) ((b == 0) || ((g b) == 3)), .k 6 (.bool (((a == 2) || (oldF g hz a)) && ((b == 0) || ((g b) == 3))))] (fun _ _ _ _ => True) [0, 1] [3, 6, 8, 9, 11] [(6, 13, 1, 7), (11, 0, 13, 24)] hst2 ?_ ?_ ?_
  · exact fun _ _ _ _ _ _ _ _ _ _ h => h
  · refine ⟨?_, ?_, ?_, ?_, ?_, trivial⟩
    · exact m2 rfl (fun _ _ _ h => h) (fun cx => (cx.anc 1 rfl)) fun cx hq => run_load1 rfl (by kernel_rfl) (mbv (cx.anc 2 rfl) hq) ((cx.blk (cx.init 0 _ rfl) rfl).cell 1)
    · exact m0 rfl (fun _ _ _ h => h) (fun cx => (cx.anc 5 rfl)) fun cx hq => run_loadAr (n := 128) rfl (by kernel_rfl) (by kernel_rfl) (cx.out 5 rfl) (cx.blk (cx.init 1 _ rfl) rfl) (by simp [hT])
    · exact m0 rfl (fun _ _ _ h => h) (fun cx => (cx.anc 5 rfl)) fun cx hq => run_load1 rfl (by kernel_rfl) (mbv (cx.anc 7 rfl) hq) ((cx.blk (cx.init 0 _ rfl) rfl).cell 1)
    · exact m1 rfl (fun _ _ _ h => h) (fun cx => (cx.anc 5 rfl)) fun cx hq => ⟨_, _, run_callF (args := #[.agg (T.map (Value.int .i64)).toArray, .int .i64 b]) rfl cx.sees rfl (by kernel_rfl) (map2 (mbv (cx.anc 6 rfl) hq) (mbv (cx.anc 8 rfl) hq)), ((rst_any T b _ hT).mono fun e W1 h_ => ⟨h_.1.trans (by rw [hg]), h_.2⟩)⟩
    · exact m2 rfl (fun _ _ _ h => h) (fun cx => (cx.anc 1 rfl)) fun cx hq => run_pick_or rfl (mbv (cx.anc 5 rfl) hq) (cx.sees.const _) (cx.anc 10 rfl) (fun e_ => by rw [hq, e_]; rfl)
  intro σ β X W3 hD hX hst3 fr hfr
  simp only [zM, exq 0 (hX 0 _ rfl), exq 1 (hX 1 _ rfl)] at hst3
  dsimp only [mgT, vals, List.take, List.drop, List.cons_append, List.nil_append] at hfr
  clear hX hD; subst hfr; clear σ β X
  refine then_normal ?_
  refine wp_ret ?_
  refine bodyPost_ret (v := .bool (((a == 2) || (oldF g hz a)) && ((b == 0) || ((g b) == 3)))) (results_tmp Tryd.results34 rfl) rfl ?_
  exact Ret.bool (by simp [allF]) hst3.ext

set_option maxRecDepth 100000 in
set_option maxHeartbeats 2000000 in
theorem rfrz_any (hz : Int) (T : List Int) (g : Int → Int) (a b n1 n2 : Int) (ho : Bool) (RA : Option Addr) (rn rc : Nat) (w : World) (hT : T.length = 128) (hg : ∀ x, tabF T x = g x) :
    Calls Tryd.prog 26 #[.agg #[.int .i64 a, .int .i64 b, .int .i64 n1, .int .i64 n2, .bool ho, .slice RA rn rc], .int .i64 hz, .agg (T.map (Value.int .i64)).toArray] w (Ret (.agg #[.int .i64 (fzA hz g a), .int .i64 (if fzX g b then 0 else b), .int .i64 (if fzX g b then -1 else n1), .int .i64 (if fzX g b then 0 else n2), .bool ho, .slice RA rn rc, .bool (oldF g hz a || fzX g b)]) w) := by
  go_enter Tryd.func26, Tryd.ntmps26
  have hst0 := St.start w
  refine wp_seq ?_
  refine wp_region_T [0, 0, 0] [] [[0], [1], [2]] [] [.a 3, .a 5, .a 6] (fun ix σ β X => match ix with | 0 => σ 3 = .pointer (some ⟨(pb (β 3)), 0, none⟩) ∧ X 0 = eB (pb (β 3)) 27 #[.int .i64 a, .int .i64 b, .int .i64 n1, .int .i64 n2, .bool ho, .slice RA rn rc] | 1 => σ 5 = .pointer (some ⟨(pb (β 5)), 0, none⟩) ∧ X 1 = eB (pb (β 5)) 49 (T.map (Value.int .i64)).toArray | 2 => σ 6 = .pointer (some ⟨(pb (β 6)), 0, none⟩) ∧ X 2 = eB (pb (β 6)) 60 #[.int .i64 0, .int .i64 0, .int .i64 0, .int .i64 0, .bool false, .slice none 0 0, .bool false] | _ => True) [0, 1, 2] [0, 1, 2] [(3, 0, 1, 4), (1, 1, 2, 3)] hst0 ?_ ?_ ?_
  · exact fun ix _ _ _ _ _ _ hs hb hx h => match ix, h with
    | 0, h => by dsimp only at h ⊢; rw [← hs 3 rfl, ← hb 3 rfl, ← hx 0 rfl]; exact h
    | 1, h => by dsimp only at h ⊢; rw [← hs 5 rfl, ← hb 5 rfl, ← hx 1 rfl]; exact h
    | 2, h => by dsimp only at h ⊢; rw [← hs 6 rfl, ← hb 6 rfl, ← hx 2 rfl]; exact h
    | _ + 3, _ => trivial
  · refine ⟨?_, ?_, ?_, trivial⟩
    · refine sv_any rfl rfl fun ρ β W X cx => ?_
      exact dv_box (cs := #[.int .i64 a, .int .i64 b, .int .i64 n1, .int .i64 n2, .bool ho, .slice RA rn rc]) rfl (cx.out 0 rfl) rfl rfl rfl (fun σ β' X' hs hb hv hx => ⟨hv, hx⟩)
    · refine sv_any rfl rfl fun ρ β W X cx => ?_
      exact dv_box (cs := (T.map (Value.int .i64)).toArray) rfl (cx.out 2 rfl) rfl rfl rfl (fun σ β' X' hs hb hv hx => ⟨hv, hx⟩)
    · refine sv_any rfl rfl fun ρ β W X cx => ?_
      exact dv_alloc (cs := #[.int .i64 0, .int .i64 0, .int .i64 0, .int .i64 0, .bool false, .slice none 0 0, .bool false]) rfl (by kernel_rfl) rfl rfl (fun σ β' X' hs hb hv hx => ⟨hv, hx⟩)
  intro σ β X W1 hD hX hst1 fr hfr
  obtain ⟨B3_1, hu_B3_1⟩ : ∃ z, pb (β 3) = z := ⟨_, rfl⟩
  obtain ⟨B5_1, hu_B5_1⟩ : ∃ z, pb (β 5) = z := ⟨_, rfl⟩
  obtain ⟨B6_1, hu_B6_1⟩ : ∃ z, pb (β 6) = z := ⟨_, rfl⟩
  simp only [zM, exq 0 ((dTn (hD 0 lq)).2), exq 1 ((dTn (hD 1 lq)).2), exq 2 ((dTn (hD 2 lq)).2), hu_B3_1, hu_B5_1, hu_B6_1] at hst1
  dsimp only [mgT, vals, List.take, List.drop, List.cons_append, List.nil_append] at hfr
  simp only [ed 3 ((dTn (hD 0 lq)).1), ed 5 ((dTn (hD 1 lq)).1), ed 6 ((dTn (hD 2 lq)).1), hu_B3_1, hu_B5_1, hu_B6_1] at hfr
  clear hX hD hu_B3_1 hu_B5_1 hu_B6_1; subst hfr; clear σ β X
  refine then_normal ?_
  refine wp_seq ?_
  refine wp_region_T [0, 1, 0, 7] [[0], [], [], [3]] [[], [], [3], [4]] [[], [], [], [3]] [.c 9 (.agg #[.int .i64 a, .int .i64 b, .int .i64 n1, .int .i64 n2, .bool ho, .slice RA rn rc]), .c 10 (.agg #[.int .i64 a, .int .i64 b, .int .i64 n1, .int .i64 n2, .bool ho, .slice RA rn rc, .bool false]), .a 7, .n] (fun ix σ β X => match ix with | 0 => True | 1 => True | 2 => σ 7 = .pointer (some ⟨(pb (β 7)), 0, none⟩) ∧ X 3 = eB (pb (β 7)) 60 #[.int .i64 0, .int .i64 0, .int .i64 0, .int .i64 0, .bool false, .slice none 0 0, .bool false] | 3 => X 4 = eB (pb (β 7)) 60 #[.int .i64 a, .int .i64 b, .int .i64 n1, .int .i64 n2, .bool ho, .slice RA rn rc, .bool false] | _ => True) [0, 1, 2, 4] [0, 1, 2, 3] [(7, 2, 1, 8), (1, 0, 2, 3)] hst1 ?_ ?_ ?_
  · exact fun ix _ _ _ _ _ _ hs hb hx h => match ix, h with
    | 2, h => by dsimp only at h ⊢; rw [← hs 7 rfl, ← hb 7 rfl, ← hx 3 rfl]; exact h
    | 3, h => by dsimp only at h ⊢; rw [← hb 7 rfl, ← hx 4 rfl]; exact h
    | 0, _ | 1, _ | _ + 4, _ => trivial
  · refine ⟨?_, ?_, ?_, ?_, trivial⟩
    · exact s4 rfl (fun _ _ _ h => h) fun cx => run_loadB (n := 6) rfl (by kernel_rfl) (by kernel_rfl) (cx.out 3 rfl) (cx.blk (cx.init 0 _ rfl) rfl) (Nat.le_of_ble_eq_true rfl) rfl
    · exact sv0 rfl rfl rfl rfl rfl (fun _ _ _ h => h) fun ρ β W X cx => by
        have fF9 : ρ (.tmp 9) = .agg #[.int .i64 a, .int .i64 b, .int .i64 n1, .int .i64 n2, .bool ho, .slice RA rn rc] := (cx.anc 0 rfl)
        simp [go_sem, fF9] <;> rfl
    · refine sv_any rfl rfl fun ρ β W X cx => ?_
      exact dv_alloc (cs := #[.int .i64 0, .int .i64 0, .int .i64 0, .int .i64 0, .bool false, .slice none 0 0, .bool false]) rfl (by kernel_rfl) rfl rfl (fun σ β' X' hs hb hv hx => ⟨hv, hx⟩)
    · refine sv_any rfl rfl fun ρ β W X cx => ?_
      exact dv_store (n := 7) rfl (dTn (cx.anc 2 rfl)).1 (cx.anc 1 rfl) (by kernel_rfl) rfl rfl cx (dTn (cx.anc 2 rfl)).2 rfl (Nat.le_of_ble_eq_true rfl) rfl rfl rfl rfl (fun σ β' X' hs hb hx => by rw [hb 7]; exact hx)
  intro σ β X W2 hD hX hst2 fr hfr
  obtain ⟨B7_2, hu_B7_2⟩ : ∃ z, pb (β 7) = z := ⟨_, rfl⟩
  simp only [zM, exq 0 (hX 0 _ rfl), exq 1 (hX 1 _ rfl), exq 2 (hX 2 _ rfl), exq 4 ((dTn (hD 3 lq))), hu_B7_2] at hst2
  dsimp only [mgT, vals, List.take, List.drop, List.cons_append, List.nil_append] at hfr
  simp only [ed 7 ((dTn (hD 2 lq)).1), hu_B7_2] at hfr
  clear hX hD hu_B7_2; subst hfr; clear σ β X
  refine then_normal ?_
  refine wp_seq ?_
  refine wp_region_T [0, 1, 0, 0, 15, 31] [[], [0], [], [1]] [] [] [.k 11 (.pointer (some ⟨B3_1, 0, none⟩)), .c 12 (.int .i64 a), .k 13 (.int .i64 hz), .c 14 (.agg (T.map (Value.int .i64)).toArray), .c 15 (.bool (oldF g hz a)), .k 8 (.bool (oldF g hz a))] (fun _ _ _ _ => True) [0, 1, 2, 3] [1, 3, 4] [(8, 5, 1, 9), (2, 0, 5, 7)] hst2 ?_ ?_ ?_
  · exact fun _ _ _ _ _ _ _ _ _ _ h => h
  · refine ⟨?_, ?_, ?_, trivial⟩
    · exact s4 rfl (fun _ _ _ h => h) fun cx => run_load1 rfl (by kernel_rfl) (cx.anc 0 rfl) ((cx.blk (cx.init 0 _ rfl) rfl).cell 0)
    · exact s4 rfl (fun _ _ _ h => h) fun cx => run_loadAr (n := 128) rfl (by kernel_rfl) (by kernel_rfl) (cx.out 5 rfl) (cx.blk (cx.init 1 _ rfl) rfl) (by simp [hT])
    · exact sv_call rfl rfl rfl rfl rfl (fun _ _ _ h => h) fun ρ β W X cx => ⟨_, _, run_callF (args := #[.int .i64 a, .int .i64 hz, .agg (T.map (Value.int .i64)).toArray]) rfl cx.sees rfl (by kernel_rfl) (map3 (cx.anc 1 rfl) (cx.anc 2 rfl) (cx.anc 3 rfl)), rold_any a hz T g _ hT hg⟩
  intro σ β X W3 hD hX hst3 fr hfr
  simp only [zM, exq 0 (hX 0 _ rfl), exq 1 (hX 1 _ rfl), exq 2 (hX 2 _ rfl), exq 3 (hX 3 _ rfl)] at hst3
  dsimp only [mgT, vals, List.take, List.drop, List.cons_append, List.nil_append] at hfr
  clear hX hD; subst hfr; clear σ β X
  refine then_normal ?_
  refine wp_seq ?_
  refine wp_seq ?_
  refine wp_region_P [0] [.k 16 (.bool (oldF g hz a))] [(16, 0, 1, 17)] hst3 fun W4 hst4 => ?_
  refine then_normal ?_
  rcases Bool.eq_false_or_eq_true (oldF g hz a) with hs5 | hs5
  · skip
    refine wp_cond_true (show Act.eval _ _ = .bool true from (congrArg Value.bool hs5)) ?_
    refine wp_seq ?_
    refine wp_region_T [0, 1, 3] [[], [], [3]] [[], [], [4]] [[], [], [3]] [.k 17 (.pointer (some ⟨B7_2, 0, none⟩)), .k 18 (.pointer (some ⟨B7_2, 0, none⟩)), .n] (fun ix σ β X => match ix with | 0 => True | 1 => True | 2 => X 4 = eB B7_2 60 #[.int .i64 2, .int .i64 b, .int .i64 n1, .int .i64 n2, .bool ho, .slice RA rn rc, .bool false] | _ => True) [0, 1, 2, 4] [2] [(17, 0, 2, 19)] hst4 ?_ ?_ ?_
    · exact fun ix _ _ _ _ _ _ hs hb hx h => match ix, h with
      | 2, h => by dsimp only at h ⊢; rw [← hx 4 rfl]; exact h
      | 0, _ | 1, _ | _ + 3, _ => trivial
    · refine ⟨?_, trivial⟩
      · refine sv_any rfl rfl fun ρ β W X cx => ?_
        exact dv_store (n := 1) rfl (cx.anc 1 rfl) (cx.sees.const _) (by kernel_rfl) rfl rfl cx (cx.init 3 _ rfl) rfl (Nat.le_of_ble_eq_true rfl) rfl rfl rfl rfl (fun σ β' X' hs hb hx => hx)
    intro σ β X W6 hD hX hst6 fr hfr
    simp only [zM, exq 0 (hX 0 _ rfl), exq 1 (hX 1 _ rfl), exq 2 (hX 2 _ rfl), exq 4 ((dTn (hD 2 lq)))] at hst6
    dsimp only [mgT, vals, List.take, List.drop, List.cons_append, List.nil_append] at hfr
    clear hX hD; subst hfr; clear σ β X
    refine then_normal ?_
    refine wp_region_T [0, 1] [[], [3]] [[], [4]] [[], [3]] [.k 19 (.pointer (some ⟨B7_2, 6, none⟩)), .n] (fun ix σ β X => match ix with | 0 => True | 1 => X 4 = eB B7_2 60 #[.int .i64 2, .int .i64 b, .int .i64 n1, .int .i64 n2, .bool ho, .slice RA rn rc, .bool true] | _ => True) [0, 1, 2, 4] [1] [(19, 0, 1, 20)] hst6 ?_ ?_ ?_
    · exact fun ix _ _ _ _ _ _ hs hb hx h => match ix, h with
      | 1, h => by dsimp only at h ⊢; rw [← hx 4 rfl]; exact h
      | 0, _ | _ + 2, _ => trivial
    · refine ⟨?_, trivial⟩
      · refine sv_any rfl rfl fun ρ β W X cx => ?_
        exact dv_store (n := 1) rfl (cx.anc 0 rfl) (cx.sees.const _) (by kernel_rfl) rfl rfl cx (cx.init 3 _ rfl) rfl (Nat.le_of_ble_eq_true rfl) rfl rfl rfl rfl (fun σ β' X' hs hb hx => hx)
    intro σ β X W7 hD hX hst7 fr hfr
    simp only [zM, exq 0 (hX 0 _ rfl), exq 1 (hX 1 _ rfl), exq 2 (hX 2 _ rfl), exq 4 ((dTn (hD 1 lq)))] at hst7
    dsimp only [mgT, vals, List.take, List.drop, List.cons_append, List.nil_append] at hfr
    clear hX hD; subst hfr; clear σ β X
    refine then_normal ?_
    refine wp_seq ?_
    refine wp_seq ?_
    refine wp_region_T [0, 1, 3, 7, 15, 15, 47, 127, 255, 511] [[], [0], [], [], [1], [], [0]] [] [] [.k 20 (.pointer (some ⟨B3_1, 1, none⟩)), .c 21 (.int .i64 b), .k 22 (.bool (b != 0)), .k 23 (.bool (b != 0)), .y 24 (b != 0) (.agg (T.map (Value.int .i64)).toArray), .z 25 (b != 0) (.pointer (some ⟨B3_1, 1, none⟩)), .y 26 (b != 0) (.int .i64 b), .y 27 (b != 0) (.int .i64 (g b)), .z 28 (b != 0) (.bool ((g b) == 3)), tA 29 (b != 0) ((g b) == 3)] (fun _ _ _ _ => True) [0, 1, 2, 3] [1, 4, 6, 7] [(20, 0, 10, 30)] hst7 ?_ ?_ ?_
    · exact fun _ _ _ _ _ _ _ _ _ _ h => h
    · refine ⟨?_, ?_, ?_, ?_, trivial⟩
      · exact s4 rfl (fun _ _ _ h => h) fun cx => run_load1 rfl (by kernel_rfl) (cx.anc 0 rfl) ((cx.blk (cx.init 0 _ rfl) rfl).cell 1)
      · exact m2 rfl (fun _ _ _ h => h) (fun cx => (cx.anc 3 rfl)) fun cx hq => run_loadAr (n := 128) rfl (by kernel_rfl) (by kernel_rfl) (cx.out 5 rfl) (cx.blk (cx.init 1 _ rfl) rfl) (by simp [hT])
      · exact m2 rfl (fun _ _ _ h => h) (fun cx => (cx.anc 3 rfl)) fun cx hq => run_load1 rfl (by kernel_rfl) (mbv (cx.anc 5 rfl) hq) ((cx.blk (cx.init 0 _ rfl) rfl).cell 1)
      · exact m3 rfl (fun _ _ _ h => h) (fun cx => (cx.anc 3 rfl)) fun cx hq => ⟨_, _, run_callF (args := #[.agg (T.map (Value.int .i64)).toArray, .int .i64 b]) rfl cx.sees rfl (by kernel_rfl) (map2 (mbv (cx.anc 4 rfl) hq) (mbv (cx.anc 6 rfl) hq)), ((rst_any T b _ hT).mono fun e W1 h_ => ⟨h_.1.trans (by rw [hg]), h_.2⟩)⟩
    intro σ β X W8 hD hX hst8 fr hfr
    simp only [zM, exq 0 (hX 0 _ rfl), exq 1 (hX 1 _ rfl), exq 2 (hX 2 _ rfl), exq 3 (hX 3 _ rfl)] at hst8
    dsimp only [mgT, vals, List.take, List.drop, List.cons_append, List.nil_append] at hfr
    clear hX hD; subst hfr; clear σ β X
    refine then_normal ?_
    rcases Bool.eq_false_or_eq_true ((b != 0) && ((g b) == 3)) with hs9 | hs9
    · skip
      have hs9p := hs9
      simp only [zB] at hs9p
      obtain ⟨hs9p1, hs9p2⟩ := hs9p
      refine wp_cond_true (show Act.eval _ _ = .bool true from (congrArg Value.bool hs9)) ?_
      refine wp_seq ?_
      refine wp_region_T [0, 1, 3] [[], [], [3]] [[], [], [4]] [[], [], [3]] [.k 30 (.pointer (some ⟨B7_2, 0, none⟩)), .k 31 (.pointer (some ⟨B7_2, 1, none⟩)), .n] (fun ix σ β X => match ix with | 0 => True | 1 => True | 2 => X 4 = eB B7_2 60 #[.int .i64 2, .int .i64 0, .int .i64 n1, .int .i64 n2, .bool ho, .slice RA rn rc, .bool true] | _ => True) [0, 1, 2, 4] [2] [(30, 0, 2, 32)] hst8 ?_ ?_ ?_
      · exact fun ix _ _ _ _ _ _ hs hb hx h => match ix, h with
        | 2, h => by dsimp only at h ⊢; rw [← hx 4 rfl]; exact h
        | 0, _ | 1, _ | _ + 3, _ => trivial
      · refine ⟨?_, trivial⟩
        · refine sv_any rfl rfl fun ρ β W X cx => ?_
          exact dv_store (n := 1) rfl (cx.anc 1 rfl) (cx.sees.const _) (by kernel_rfl) rfl rfl cx (cx.init 3 _ rfl) rfl (Nat.le_of_ble_eq_true rfl) rfl rfl rfl rfl (fun σ β' X' hs hb hx => hx)
      intro σ β X W10 hD hX hst10 fr hfr
      simp only [zM, exq 0 (hX 0 _ rfl), exq 1 (hX 1 _ rfl), exq 2 (hX 2 _ rfl), exq 4 ((dTn (hD 2 lq)))] at hst10
      dsimp only [mgT, vals, List.take, List.drop, List.cons_append, List.nil_append] at hfr
      clear hX hD; subst hfr; clear σ β X
      refine then_normal ?_
      refine wp_seq ?_
      refine wp_region_T [0, 1, 3, 7] [[], [], [], [3]] [[], [], [], [4]] [[], [], [], [3]] [.c 32 (.agg #[.int .i64 (-1), .int .i64 0]), .k 33 (.pointer (some ⟨B7_2, 0, none⟩)), .k 34 (.pointer (some ⟨B7_2, 2, none⟩)), .n] (fun ix σ β X => match ix with | 0 => True | 1 => True | 2 => True | 3 => X 4 = eB B7_2 60 #[.int .i64 2, .int .i64 0, .int .i64 (-1), .int .i64 0, .bool ho, .slice RA rn rc, .bool true] | _ => True) [0, 1, 2, 4] [0, 3] [(32, 0, 3, 35)] hst10 ?_ ?_ ?_
      · exact fun ix _ _ _ _ _ _ hs hb hx h => match ix, h with
        | 3, h => by dsimp only at h ⊢; rw [← hx 4 rfl]; exact h
        | 0, _ | 1, _ | 2, _ | _ + 4, _ => trivial
      · refine ⟨?_, ?_, trivial⟩
        · exact s4 rfl (fun _ _ _ h => h) fun cx => by
            simp [go_sem, cx.sees.const] <;> rfl
        · refine sv_any rfl rfl fun ρ β W X cx => ?_
          exact dv_store (n := 2) rfl (cx.anc 2 rfl) (cx.anc 0 rfl) (by kernel_rfl) rfl rfl cx (cx.init 3 _ rfl) rfl (Nat.le_of_ble_eq_true rfl) rfl rfl rfl rfl (fun σ β' X' hs hb hx => hx)
      intro σ β X W11 hD hX hst11 fr hfr
      simp only [zM, exq 0 (hX 0 _ rfl), exq 1 (hX 1 _ rfl), exq 2 (hX 2 _ rfl), exq 4 ((dTn (hD 3 lq)))] at hst11
      dsimp only [mgT, vals, List.take, List.drop, List.cons_append, List.nil_append] at hfr
      clear hX hD; subst hfr; clear σ β X
      refine then_normal ?_
      refine wp_region_T [0, 1] [[], [3]] [[], [4]] [[], [3]] [.k 35 (.pointer (some ⟨B7_2, 6, none⟩)), .n] (fun ix σ β X => match ix with | 0 => True | 1 => X 4 = eB B7_2 60 #[.int .i64 2, .int .i64 0, .int .i64 (-1), .int .i64 0, .bool ho, .slice RA rn rc, .bool true] | _ => True) [0, 1, 2, 4] [1] [(35, 0, 1, 36)] hst11 ?_ ?_ ?_
      · exact fun ix _ _ _ _ _ _ hs hb hx h => match ix, h with
        | 1, h => by dsimp only at h ⊢; rw [← hx 4 rfl]; exact h
        | 0, _ | _ + 2, _ => trivial
      · refine ⟨?_, trivial⟩
        · refine sv_any rfl rfl fun ρ β W X cx => ?_
          exact dv_store (n := 1) rfl (cx.anc 0 rfl) (cx.sees.const _) (by kernel_rfl) rfl rfl cx (cx.init 3 _ rfl) rfl (Nat.le_of_ble_eq_true rfl) rfl rfl rfl rfl (fun σ β' X' hs hb hx => hx)
      intro σ β X W12 hD hX hst12 fr hfr
      simp only [zM, exq 0 (hX 0 _ rfl), exq 1 (hX 1 _ rfl), exq 2 (hX 2 _ rfl), exq 4 ((dTn (hD 1 lq)))] at hst12
      dsimp only [mgT, vals, List.take, List.drop, List.cons_append, List.nil_append] at hfr
      clear hX hD; subst hfr; clear σ β X
      refine then_normal ?_
      refine wp_seq ?_
      refine wp_region_T [0, 1] [[3], [2]] [[], [4]] [[], [2]] [.c 36 (.agg #[.int .i64 2, .int .i64 0, .int .i64 (-1), .int .i64 0, .bool ho, .slice RA rn rc, .bool true]), .n] (fun ix σ β X => match ix with | 0 => True | 1 => X 4 = eB B6_1 60 #[.int .i64 2, .int .i64 0, .int .i64 (-1), .int .i64 0, .bool ho, .slice RA rn rc, .bool true] | _ => True) [0, 1, 3, 4] [0, 1] [(36, 0, 1, 37)] hst12 ?_ ?_ ?_
      · exact fun ix _ _ _ _ _ _ hs hb hx h => match ix, h with
        | 1, h => by dsimp only at h ⊢; rw [← hx 4 rfl]; exact h
        | 0, _ | _ + 2, _ => trivial
      · refine ⟨?_, ?_, trivial⟩
        · exact s4 rfl (fun _ _ _ h => h) fun cx => run_loadB (n := 7) rfl (by kernel_rfl) (by kernel_rfl) (cx.out 7 rfl) (cx.blk (cx.init 3 _ rfl) rfl) (Nat.le_of_ble_eq_true rfl) rfl
        · refine sv_any rfl rfl fun ρ β W X cx => ?_
          exact dv_store (n := 7) rfl (cx.out 6 rfl) (cx.anc 0 rfl) (by kernel_rfl) rfl rfl cx (cx.init 2 _ rfl) rfl (Nat.le_of_ble_eq_true rfl) rfl rfl rfl rfl (fun σ β' X' hs hb hx => hx)
      intro σ β X W13 hD hX hst13 fr hfr
      simp only [zM, exq 0 (hX 0 _ rfl), exq 1 (hX 1 _ rfl), exq 3 (hX 3 _ rfl), exq 4 ((dTn (hD 1 lq)))] at hst13
      dsimp only [mgT, vals, List.take, List.drop, List.cons_append, List.nil_append] at hfr
      clear hX hD; subst hfr; clear σ β X
      refine then_normal ?_
      refine wp_ret ?_
      refine bodyPost_ret (v := .agg #[.int .i64 2, .int .i64 0, .int .i64 (-1), .int .i64 0, .bool ho, .slice RA rn rc, .bool true]) (results_cell Tryd.results26 rfl (by kernel_rfl) (by kernel_rfl) (hst13.blk 3 rfl) rfl) rfl ?_
      exact Ret.of (by simp_all [fzA, fzX]) hst13.ext
    have hs9p := hs9
    simp only [zB] at hs9p
    refine wp_cond_false (show Act.eval _ _ = .bool false from (congrArg Value.bool hs9)) ?_
    refine wp_skip ?_
    refine then_normal ?_
    refine wp_seq ?_
    refine wp_region_T [0, 1] [[3], [2]] [[], [4]] [[], [2]] [.c 36 (.agg #[.int .i64 2, .int .i64 b, .int .i64 n1, .int .i64 n2, .bool ho, .slice RA rn rc, .bool true]), .n] (fun ix σ β X => match ix with | 0 => True | 1 => X 4 = eB B6_1 60 #[.int .i64 2, .int .i64 b, .int .i64 n1, .int .i64 n2, .bool ho, .slice RA rn rc, .bool true] | _ => True) [0, 1, 3, 4] [0, 1] [(36, 0, 1, 37)] hst8 ?_ ?_ ?_
    · exact fun ix _ _ _ _ _ _ hs hb hx h => match ix, h with
      | 1, h => by dsimp only at h ⊢; rw [← hx 4 rfl]; exact h
      | 0, _ | _ + 2, _ => trivial
    · refine ⟨?_, ?_, trivial⟩
      · exact s4 rfl (fun _ _ _ h => h) fun cx => run_loadB (n := 7) rfl (by kernel_rfl) (by kernel_rfl) (cx.out 7 rfl) (cx.blk (cx.init 3 _ rfl) rfl) (Nat.le_of_ble_eq_true rfl) rfl
      · refine sv_any rfl rfl fun ρ β W X cx => ?_
        exact dv_store (n := 7) rfl (cx.out 6 rfl) (cx.anc 0 rfl) (by kernel_rfl) rfl rfl cx (cx.init 2 _ rfl) rfl (Nat.le_of_ble_eq_true rfl) rfl rfl rfl rfl (fun σ β' X' hs hb hx => hx)
    intro σ β X W14 hD hX hst14 fr hfr
    simp only [zM, exq 0 (hX 0 _ rfl), exq 1 (hX 1 _ rfl), exq 3 (hX 3 _ rfl), exq 4 ((dTn (hD 1 lq)))] at hst14
    dsimp only [mgT, vals, List.take, List.drop, List.cons_append, List.nil_append] at hfr
    clear hX hD; subst hfr; clear σ β X
    refine then_normal ?_
    refine wp_ret ?_
    refine bodyPost_ret (v := .agg #[.int .i64 2, .int .i64 b, .int .i64 n1, .int .i64 n2, .bool ho, .slice RA rn rc, .bool true]) (results_cell Tryd.results26 rfl (by kernel_rfl) (by kernel_rfl) (hst14.blk 3 rfl) rfl) rfl ?_
    exact Ret.of (by simp_all [fzA, fzX]) hst14.ext
  refine wp_cond_false (show Act.eval _ _ = .bool false from (congrArg Value.bool hs5)) ?_
  refine wp_skip ?_
  refine then_normal ?_
  refine wp_seq ?_
  refine wp_seq ?_
  refine wp_region_T [0, 1, 3, 7, 15, 15, 47, 127, 255, 511] [[], [0], [], [], [1], [], [0]] [] [] [.k 20 (.pointer (some ⟨B3_1, 1, none⟩)), .c 21 (.int .i64 b), .k 22 (.bool (b != 0)), .k 23 (.bool (b != 0)), .y 24 (b != 0) (.agg (T.map (Value.int .i64)).toArray), .z 25 (b != 0) (.pointer (some ⟨B3_1, 1, none⟩)), .y 26 (b != 0) (.int .i64 b), .y 27 (b != 0) (.int .i64 (g b)), .z 28 (b != 0) (.bool ((g b) == 3)), tA 29 (b != 0) ((g b) == 3)] (fun _ _ _ _ => True) [0, 1, 2, 3] [1, 4, 6, 7] [(20, 0, 10, 30)] hst4 ?_ ?_ ?_
  · exact fun _ _ _ _ _ _ _ _ _ _ h => h
  · refine ⟨?_, ?_, ?_, ?_, trivial⟩
    · exact s4 rfl (fun _ _ _ h => h) fun cx => run_load1 rfl (by kernel_rfl) (cx.anc 0 rfl) ((cx.blk (cx.init 0 _ rfl) rfl).cell 1)
    · exact m2 rfl (fun _ _ _ h => h) (fun cx => (cx.anc 3 rfl)) fun cx hq => run_loadAr (n := 128) rfl (by kernel_rfl) (by kernel_rfl) (cx.out 5 rfl) (cx.blk (cx.init 1 _ rfl) rfl) (by simp [hT])
    · exact m2 rfl (fun _ _ _ h => h) (fun cx => (cx.anc 3 rfl)) fun cx hq => run_load1 rfl (by kernel_rfl) (mbv (cx.anc 5 rfl) hq) ((cx.blk (cx.init 0 _ rfl) rfl).cell 1)
    · exact m3 rfl (fun _ _ _ h => h) (fun cx => (cx.anc 3 rfl)) fun cx hq => ⟨_, _, run_callF (args := #[.agg (T.map (Value.int .i64)).toArray, .int .i64 b]) rfl cx.sees rfl (by kernel_rfl) (map2 (mbv (cx.anc 4 rfl) hq) (mbv (cx.anc 6 rfl) hq)), ((rst_any T b _ hT).mono fun e W1 h_ => ⟨h_.1.trans (by rw [hg]), h_.2⟩)⟩
  intro σ β X W15 hD hX hst15 fr hfr
  simp only [zM, exq 0 (hX 0 _ rfl), exq 1 (hX 1 _ rfl), exq 2 (hX 2 _ rfl), exq 3 (hX 3 _ rfl)] at hst15
  dsimp only [mgT, vals, List.take, List.drop, List.cons_append, List.nil_append] at hfr
  clear hX hD; subst hfr; clear σ β X
  refine then_normal ?_
  rcases Bool.eq_false_or_eq_true ((b != 0) && ((g b) == 3)) with hs16 | hs16
  · skip
    have hs16p := hs16
    simp only [zB] at hs16p
    obtain ⟨hs16p1, hs16p2⟩ := hs16p
    refine wp_cond_true (show Act.eval _ _ = .bool true from (congrArg Value.bool hs16)) ?_
    refine wp_seq ?_
    refine wp_region_T [0, 1, 3] [[], [], [3]] [[], [], [4]] [[], [], [3]] [.k 30 (.pointer (some ⟨B7_2, 0, none⟩)), .k 31 (.pointer (some ⟨B7_2, 1, none⟩)), .n] (fun ix σ β X => match ix with | 0 => True | 1 => True | 2 => X 4 = eB B7_2 60 #[.int .i64 a, .int .i64 0, .int .i64 n1, .int .i64 n2, .bool ho, .slice RA rn rc, .bool false] | _ => True) [0, 1, 2, 4] [2] [(30, 0, 2, 32)] hst15 ?_ ?_ ?_
    · exact fun ix _ _ _ _ _ _ hs hb hx h => match ix, h with
      | 2, h => by dsimp only at h ⊢; rw [← hx 4 rfl]; exact h
      | 0, _ | 1, _ | _ + 3, _ => trivial
    · refine ⟨?_, trivial⟩
      · refine sv_any rfl rfl fun ρ β W X cx => ?_
        exact dv_store (n := 1) rfl (cx.anc 1 rfl) (cx.sees.const _) (by kernel_rfl) rfl rfl cx (cx.init 3 _ rfl) rfl (Nat.le_of_ble_eq_true rfl) rfl rfl rfl rfl (fun σ β' X' hs hb hx => hx)
    intro σ β X W17 hD hX hst17 fr hfr
    simp only [zM, exq 0 (hX 0 _ rfl), exq 1 (hX 1 _ rfl), exq 2 (hX 2 _ rfl), exq 4 ((dTn (hD 2 lq)))] at hst17
    dsimp only [mgT, vals, List.take, List.drop, List.cons_append, List.nil_append] at hfr
    clear hX hD; subst hfr; clear σ β X
    refine then_normal ?_
    refine wp_seq ?_
    refine wp_region_T [0, 1, 3, 7] [[], [], [], [3]] [[], [], [], [4]] [[], [], [], [3]] [.c 32 (.agg #[.int .i64 (-1), .int .i64 0]), .k 33 (.pointer (some ⟨B7_2, 0, none⟩)), .k 34 (.pointer (some ⟨B7_2, 2, none⟩)), .n] (fun ix σ β X => match ix with | 0 => True | 1 => True | 2 => True | 3 => X 4 = eB B7_2 60 #[.int .i64 a, .int .i64 0, .int .i64 (-1), .int .i64 0, .bool ho, .slice RA rn rc, .bool false] | _ => True) [0, 1, 2, 4] [0, 3] [(32, 0, 3, 35)] hst17 ?_ ?_ ?_
    · exact fun ix _ _ _ _ _ _ hs hb hx h => match ix, h with
      | 3, h => by dsimp only at h ⊢; rw [← hx 4 rfl]; exact h
      | 0, _ | 1, _ | 2, _ | _ + 4, _ => trivial
    · refine ⟨?_, ?_, trivial⟩
      · exact s4 rfl (fun _ _ _ h => h) fun cx => by
          simp [go_sem, cx.sees.const] <;> rfl
      · refine sv_any rfl rfl fun ρ β W X cx => ?_
        exact dv_store (n := 2) rfl (cx.anc 2 rfl) (cx.anc 0 rfl) (by kernel_rfl) rfl rfl cx (cx.init 3 _ rfl) rfl (Nat.le_of_ble_eq_true rfl) rfl rfl rfl rfl (fun σ β' X' hs hb hx => hx)
    intro σ β X W18 hD hX hst18 fr hfr
    simp only [zM, exq 0 (hX 0 _ rfl), exq 1 (hX 1 _ rfl), exq 2 (hX 2 _ rfl), exq 4 ((dTn (hD 3 lq)))] at hst18
    dsimp only [mgT, vals, List.take, List.drop, List.cons_append, List.nil_append] at hfr
    clear hX hD; subst hfr; clear σ β X
    refine then_normal ?_
    refine wp_region_T [0, 1] [[], [3]] [[], [4]] [[], [3]] [.k 35 (.pointer (some ⟨B7_2, 6, none⟩)), .n] (fun ix σ β X => match ix with | 0 => True | 1 => X 4 = eB B7_2 60 #[.int .i64 a, .int .i64 0, .int .i64 (-1), .int .i64 0, .bool ho, .slice RA rn rc, .bool true] | _ => True) [0, 1, 2, 4] [1] [(35, 0, 1, 36)] hst18 ?_ ?_ ?_
    · exact fun ix _ _ _ _ _ _ hs hb hx h => match ix, h with
      | 1, h => by dsimp only at h ⊢; rw [← hx 4 rfl]; exact h
      | 0, _ | _ + 2, _ => trivial
    · refine ⟨?_, trivial⟩
      · refine sv_any rfl rfl fun ρ β W X cx => ?_
        exact dv_store (n := 1) rfl (cx.anc 0 rfl) (cx.sees.const _) (by kernel_rfl) rfl rfl cx (cx.init 3 _ rfl) rfl (Nat.le_of_ble_eq_true rfl) rfl rfl rfl rfl (fun σ β' X' hs hb hx => hx)
    intro σ β X W19 hD hX hst19 fr hfr
    simp only [zM, exq 0 (hX 0 _ rfl), exq 1 (hX 1 _ rfl), exq 2 (hX 2 _ rfl), exq 4 ((dTn (hD 1 lq)))] at hst19
    dsimp only [mgT, vals, List.take, List.drop, List.cons_append, List.nil_append] at hfr
    clear hX hD; subst hfr; clear σ β X
    refine then_normal ?_
    refine wp_seq ?_
    refine wp_region_T [0, 1] [[3], [2]] [[], [4]] [[], [2]] [.c 36 (.agg #[.int .i64 a, .int .i64 0, .int .i64 (-1), .int .i64 0, .bool ho, .slice RA rn rc, .bool true]), .n] (fun ix σ β X => match ix with | 0 => True | 1 => X 4 = eB B6_1 60 #[.int .i64 a, .int .i64 0, .int .i64 (-1), .int .i64 0, .bool ho, .slice RA rn rc, .bool true] | _ => True) [0, 1, 3, 4] [0, 1] [(36, 0, 1, 37)] hst19 ?_ ?_ ?_
    · exact fun ix _ _ _ _ _ _ hs hb hx h => match ix, h with
      | 1, h => by dsimp only at h ⊢; rw [← hx 4 rfl]; exact h
      | 0, _ | _ + 2, _ => trivial
    · refine ⟨?_, ?_, trivial⟩
      · exact s4 rfl (fun _ _ _ h => h) fun cx => run_loadB (n := 7) rfl (by kernel_rfl) (by kernel_rfl) (cx.out 7 rfl) (cx.blk (cx.init 3 _ rfl) rfl) (Nat.le_of_ble_eq_true rfl) rfl
      · refine sv_any rfl rfl fun ρ β W X cx => ?_
        exact dv_store (n := 7) rfl (cx.out 6 rfl) (cx.anc 0 rfl) (by kernel_rfl) rfl rfl cx (cx.init 2 _ rfl) rfl (Nat.le_of_ble_eq_true rfl) rfl rfl rfl rfl (fun σ β' X' hs hb hx => hx)
    intro σ β X W20 hD hX hst20 fr hfr
    simp only [zM, exq 0 (hX 0 _ rfl), exq 1 (hX 1 _ rfl), exq 3 (hX 3 _ rfl), exq 4 ((dTn (hD 1 lq)))] at hst20
    dsimp only [mgT, vals, List.take, List.drop, List.cons_append, List.nil_append] at hfr
    clear hX hD; subst hfr; clear σ β X
    refine then_normal ?_
    refine wp_ret ?_
    refine bodyPost_ret (v := .agg #[.int .i64 a, .int .i64 0, .int .i64 (-1), .int .i64 0, .bool ho, .slice RA rn rc, .bool true]) (results_cell Tryd.results26 rfl (by kernel_rfl) (by kernel_rfl) (hst20.blk 3 rfl) rfl) rfl ?_
    exact Ret.of (by simp_all [fzA, fzX]) hst20.ext
  have hs16p := hs16
  simp only [zB] at hs16p
  refine wp_cond_false (show Act.eval _ _ = .bool false from (congrArg Value.bool hs16)) ?_
  refine wp_skip ?_
  refine then_normal ?_
  refine wp_seq ?_
  refine wp_region_T [0, 1] [[3], [2]] [[], [4]] [[], [2]] [.c 36 (.agg #[.int .i64 a, .int .i64 b, .int .i64 n1, .int .i64 n2, .bool ho, .slice RA rn rc, .bool false]), .n] (fun ix σ β X => match ix with | 0 => True | 1 => X 4 = eB B6_1 60 #[.int .i64 a, .int .i64 b, .int .i64 n1, .int .i64 n2, .bool ho, .slice RA rn rc, .bool false] | _ => True) [0, 1, 3, 4] [0, 1] [(36, 0, 1, 37)] hst15 ?_ ?_ ?_
  · exact fun ix _ _ _ _ _ _ hs hb hx h => match ix, h with
    | 1, h => by dsimp only at h ⊢; rw [← hx 4 rfl]; exact h
    | 0, _ | _ + 2, _ => trivial
  · refine ⟨?_, ?_, trivial⟩
    · exact s4 rfl (fun _ _ _ h => h) fun cx => run_loadB (n := 7) rfl (by kernel_rfl) (by kernel_rfl) (cx.out 7 rfl) (cx.blk (cx.init 3 _ rfl) rfl) (Nat.le_of_ble_eq_true rfl) rfl
    · refine sv_any rfl rfl fun ρ β W X cx => ?_
      exact dv_store (n := 7) rfl (cx.out 6 rfl) (cx.anc 0 rfl) (by kernel_rfl) rfl rfl cx (cx.init 2 _ rfl) rfl (Nat.le_of_ble_eq_true rfl) rfl rfl rfl rfl (fun σ β' X' hs hb hx => hx)
  intro σ β X W21 hD hX hst21 fr hfr
  simp only [zM, exq 0 (hX 0 _ rfl), exq 1 (hX 1 _ rfl), exq 3 (hX 3 _ rfl), exq 4 ((dTn (hD 1 lq)))] at hst21
  dsimp only [mgT, vals, List.take, List.drop, List.cons_append, List.nil_append] at hfr
  clear hX hD; subst hfr; clear σ β X
  refine then_normal ?_
  refine wp_ret ?_
  refine bodyPost_ret (v := .agg #[.int .i64 a, .int .i64 b, .int .i64 n1, .int .i64 n2, .bool ho, .slice RA rn rc, .bool false]) (results_cell Tryd.results26 rfl (by kernel_rfl) (by kernel_rfl) (hst21.blk 3 rfl) rfl) rfl ?_
  exact Ret.of (by simp_all [fzA, fzX]) hst21.ext

end Go.Proofs.YtfjpglohcppjeaaDoor

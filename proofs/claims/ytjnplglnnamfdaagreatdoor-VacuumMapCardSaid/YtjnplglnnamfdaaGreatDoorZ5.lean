/- VacuumMapRow9: part 5 of the proof. -/
import Derived.Test.YtjnplglnnamfdaaGreatDoorZ4
import Derived.Maps.OwnSet
import Derived.Maps.Views
import Derived.Carry
set_option linter.unusedVariables false
set_option linter.unusedSimpArgs false
namespace Go.Proofs.YtjnplglnnamfdaaGreatDoor
section
open Go.RowKit
set_option linter.unusedVariables false
set_option linter.unusedSimpArgs false
def tabF (T : List Int) (x : Int) : Int := if x < 0 ∨ 127 < x then 0 else T.getD x.toNat 0
theorem steps_turn {a b k : Int} (ha : onF a = true) (hb : onF b = true) (hk : 0 ≤ k) (hk2 : k ≤ stepsF a b) (h : turnF a k = b) : k = stepsF a b := by
  have h1 := onF_iff.1 ha
  have h2 := onF_iff.1 hb
  rw [turnF_on ha hk] at h
  unfold stepsF at *
  omega
theorem steps_at {a b : Int} (ha : onF a = true) (hb : onF b = true) : turnF a (stepsF a b) = b := by
  have h1 := onF_iff.1 ha
  have h2 := onF_iff.1 hb
  rw [turnF_on ha (by unfold stepsF; omega)]
  unfold stepsF
  omega
theorem steps_bd (a b : Int) : 0 ≤ stepsF a b ∧ stepsF a b < 125 := by unfold stepsF; omega
theorem con_step {ls : List Int} {x : Int} {k : Nat} (h : k < ls.length) (hc : (ls.take k).contains x = false) (hne : ls.getD k 0 ≠ x) : (ls.take (k + 1)).contains x = false := by
  rw [List.take_add_one, List.getElem?_eq_getElem h]
  rw [List.getD_eq_getElem?_getD, List.getElem?_eq_getElem h] at hne
  simp only [List.contains_eq_mem, decide_eq_false_iff_not] at hc ⊢
  intro hm
  rcases List.mem_append.1 hm with hm | hm
  · exact hc hm
  · simp at hm; exact hne hm.symm
set_option maxRecDepth 100000 in
set_option maxHeartbeats 2000000 in
theorem rst_any (T : List Int) (x : Int) (w : World) (hT : T.length = 128) :
    Calls Tryz.prog 75 #[.agg (T.map (Value.int .i64)).toArray, .int .i64 x] w (Ret (.int .i64 (tabF T x)) w) := by
  go_enter Tryz.func75, Tryz.ntmps75
  have hst0 := St.start w
  refine wp_seq (wp_region_Y [0, 0] [] [[0]] [] [.a 2, .k 4 (vi 0)] (fun ix σ β X => match ix with | 0 => σ 2 = vp (pb (β 2)) ∧ X 0 = eB (pb (β 2)) 34 (T.map (Value.int .i64)).toArray | _ => True) [0] [0] [(2, 0, 1, 3), (1, 1, 1, 2)] hst0 ?_ ?_ ?_)
  · exact fun ix _ _ _ _ _ _ hs hb hx h => match ix, h with
    | 0, h => by dsimp only at h ⊢; rw [← hs 2 rfl, ← hb 2 rfl, ← hx 0 rfl]; exact h
    | _ + 1, _ => trivial
  · refine ⟨?_, trivial⟩
    · refine sv_any rfl rfl fun ρ β W X cx => ?_
      exact dv_box (cs := (T.map (Value.int .i64)).toArray) rfl (cx.ou 0) rfl rfl rfl (fun σ β' X' hs hb hv hx => ⟨hv, hx⟩)
  intro σ β X W1 hD hst1 fr hfr
  obtain ⟨B2_1, hu_B2_1⟩ : ∃ z, pb (β 2) = z := ⟨_, rfl⟩
  simp only [exq 0 ((dTn (hD 0 lq)).2), hu_B2_1] at hst1
  simp only [ed 2 ((dTn (hD 0 lq)).1), hu_B2_1] at hfr
  clear hD hu_B2_1; subst hfr; clear σ β X
  refine then_normal (wp_seq (wp_seq (wp_region_P [0, 1, 3, 7, 15, 31] [.k 5 (vi x), .k 6 (.bool (decide (x < 0))), .k 7 (.bool (decide (x < 0))), .z 8 (!(decide (x < 0))) (vi x), .z 9 (!(decide (x < 0))) (.bool (decide (127 < x))), tO 10 (decide (x < 0)) (decide (127 < x))] [(5, 0, 6, 11)] hst1 fun W2 hst2 => ?_)))
  refine then_normal ?_
  rcases Bool.eq_false_or_eq_true ((decide (x < 0)) || (decide (127 < x))) with hs3 | hs3
  · skip
    have hs3p := hs3
    simp only [zB] at hs3p
    refine wp_cond_true (show Act.eval _ _ = .bool true from (congrArg Value.bool hs3)) (wp_seq (wp_region_P [0] [.k 4 (vi 0)] [(4, 0, 1, 5)] hst2 fun W4 hst4 => ?_))
    refine then_normal (wp_ret (then_ret ?_))
    refine bodyPost_ret (v := vi 0) (results_tmp Tryz.results75 rfl) rfl ?_
    exact Ret.int (by unfold tabF; rw [if_pos (by omega)]) hst4.ext
  have hs3p := hs3
  simp only [zB] at hs3p
  obtain ⟨hs3p1, hs3p2⟩ := hs3p
  refine wp_cond_false (show Act.eval _ _ = .bool false from (congrArg Value.bool hs3)) (wp_skip (then_normal (wp_seq (wp_region_Z [0, 0, 3, 7, 15] [[], [], [], [0]] [.k 11 (vi x), .k 12 (vp B2_1), .c 13 (.pointer (some ⟨B2_1, (x).toNat, none⟩)), .c 14 (vi (T.getD ((x).toNat) 0)), .k 4 (vi (T.getD ((x).toNat) 0))] [0] [2, 3] [(4, 4, 1, 5), (6, 0, 4, 10)] hst2 ?_ fun W5 hst5 => ?_))))
  · refine ⟨?_, ?_, trivial⟩
    · exact xs4 rfl id fun cx => run_indexArrB (n := 128) (sz := 1) (m := (x).toNat) (q := (x).toNat) rfl (by kernel_rfl) (cx.an 1) (cx.an 0) (by omega) (by omega) (by omega)
    · exact xs4 rfl id fun cx => run_load1 rfl (by kernel_rfl) (cx.an 2) (((cx.bi 0 rfl).cell ((x).toNat)).trans ((List.getElem?_toArray ..).trans (getD_int (by omega))))
  refine then_normal (wp_ret ?_)
  refine bodyPost_ret (v := vi (T.getD ((x).toNat) 0)) (results_tmp Tryz.results75 rfl) rfl ?_
  exact Ret.int (by unfold tabF; rw [if_neg (by omega)]) hst5.ext
set_option maxRecDepth 100000 in
set_option maxHeartbeats 2000000 in
theorem rsteps_any (a b : Int) (w : World) (ha : onF a = true) (hb : onF b = true) :
    Calls Tryz.prog 244 #[.int .i64 a, .int .i64 b] w (Ret (.int .i64 (stepsF a b)) w) := by
  have hsb := steps_bd a b
  go_enter Tryz.func244, Tryz.ntmps244
  have hst0 := St.start w
  refine wp_seq (wp_region_P [0] [.k 4 (vi 0)] [(4, 0, 1, 5)] hst0 fun W1 hst1 => ?_)
  refine then_normal (wp_seq (wp_region_P [0] [.k 5 (vi 0)] [(5, 0, 1, 6)] hst1 fun W2 hst2 => ?_))
  refine then_normal (wp_seq (wp_block ?_))
  refine wp_loopN (fun mz az W => ∃ k : Nat, ∃ u3_ : List Value, (k : Int) ≤ stepsF a b ∧ mz = (stepsF a b).toNat - k ∧ az = ⟨#[vi (turnF a (k : Int)), vi b, undef, undef, vi 0, vi ((k : Int)), (gu u3_ 0), (gu u3_ 1), (gu u3_ 2), (gu u3_ 3), (gu u3_ 4), (gu u3_ 5), (gu u3_ 6), undef], []⟩ ∧ St w [] [] W) ((stepsF a b).toNat - 0) ?_ ?_
  · -- the loop begins
    have hp4 := hst2.pick [] (by decide) rfl
    exact ⟨0, [undef, undef, undef, undef, undef, undef, undef], hsb.1, rfl, (by rw [show turnF a ((0 : Nat) : Int) = a from turnF_0 ha]; rfl), hp4⟩
  rintro n3 a3 W3 ⟨k, u3_, hk, rfl, rfl, hst3⟩
  refine wp_seq (wp_seq (wp_region_P [0, 0, 3] [.k 6 (vi (turnF a (k : Int))), .k 7 (vi b), .k 8 (.bool ((turnF a (k : Int)) != b))] [(6, 0, 3, 9)] hst3 fun W5 hst5 => ?_))
  refine then_normal ?_
  rcases Bool.eq_false_or_eq_true ((turnF a (k : Int)) != b) with hs6 | hs6
  · skip
    have hs6p : (turnF a (k : Int)) ≠ b := by simpa using hs6
    refine wp_cond_true (show Act.eval _ _ = .bool true from (congrArg Value.bool hs6)) (wp_skip (then_normal (wp_block (wp_seq (wp_region_Z [0, 1, 3] [] [.k 9 (vi (turnF a (k : Int))), .c 10 (vi (nextF (turnF a (k : Int)))), .k 0 (vi (nextF (turnF a (k : Int))))] [] [1] [(0, 2, 1, 1), (8, 0, 2, 10)] hst5 ?_ fun W7 hst7 => ?_)))))
    · refine ⟨?_, trivial⟩
      · exact xsc rfl id rfl rfl fun cx => ⟨_, rnext_any (turnF a (k : Int)) _, (map1 (cx.an 0))⟩
    refine then_normal (wp_region_P [0, 1, 3] [.k 11 (vi ((k : Int))), tI 12 ((k : Int) + 1) (by omega), .k 5 (vi ((k : Int) + 1))] [(5, 2, 1, 6), (5, 0, 2, 7)] hst7 fun W8 hst8 => ?_)
    refine blk_normal (then_normal ?_)
    have hne : (k : Int) ≠ stepsF a b := fun h => (show turnF a (k : Int) ≠ b by assumption) (by rw [h]; exact steps_at ha hb)
    refine ⟨(stepsF a b).toNat - ((k + 1)), by omega, ?_⟩
    have hp9 := hst8.pick [] (by decide) rfl
    exact ⟨(k + 1), [vi (turnF a (k : Int)), vi b, .bool ((turnF a (k : Int)) != b), vi (turnF a (k : Int)), vi (nextF (turnF a (k : Int))), vi ((k : Int)), vi ((k : Int) + 1)], by omega, rfl, (by rw [show nextF (turnF a (k : Int)) = turnF a (((k + 1 : Nat)) : Int) from nextF_turn ha (by omega)]; rfl), hp9⟩
  have hs6p : (turnF a (k : Int)) = b := by simpa using hs6
  refine wp_cond_false (show Act.eval _ _ = .bool false from (congrArg Value.bool hs6)) (wp_exit (then_exit (then_exit (blk_eq (then_normal (wp_seq (wp_region_P [0, 1] [.k 13 (vi ((k : Int))), .k 4 (vi ((k : Int)))] [(4, 1, 1, 5), (8, 0, 1, 9)] hst5 fun W10 hst10 => ?_)))))))
  refine then_normal (wp_ret ?_)
  refine bodyPost_ret (v := vi ((k : Int))) (results_tmp Tryz.results244 rfl) rfl ?_
  exact Ret.int (steps_turn ha hb (by omega) hk (by assumption)) hst10.ext
set_option maxRecDepth 100000 in
set_option maxHeartbeats 2000000 in
theorem rbefore_any (a b : Int) (w : World) :
    Calls Tryz.prog 211 #[.int .i64 a, .int .i64 b] w (Ret (.bool (beforeF a b)) w) := by
  go_enter Tryz.func211, Tryz.ntmps211
  have hst0 := St.start w
  refine wp_seq (wp_region_P [0] [.k 4 (.bool false)] [(4, 0, 1, 5)] hst0 fun W1 hst1 => ?_)
  refine then_normal (wp_seq (wp_region_Z [0, 1, 3] [] [.k 8 (vi a), .c 9 (.bool (onF a)), .k 5 (.bool (onF a))] [] [1] [(5, 2, 1, 6), (2, 0, 2, 4)] hst1 ?_ fun W2 hst2 => ?_))
  · refine ⟨?_, trivial⟩
    · exact xsc rfl id rfl rfl fun cx => ⟨_, ron_any a _, (map1 (cx.an 0))⟩
  refine then_normal (wp_seq (wp_region_Z [0, 1, 3] [] [.k 10 (vi b), .c 11 (.bool (onF b)), .k 6 (.bool (onF b))] [] [1] [(6, 2, 1, 7), (3, 0, 2, 5)] hst2 ?_ fun W3 hst3 => ?_))
  · refine ⟨?_, trivial⟩
    · exact xsc rfl id rfl rfl fun cx => ⟨_, ron_any b _, (map1 (cx.an 0))⟩
  refine then_normal (wp_seq (wp_seq (wp_region_P [0, 1] [.k 12 (vi a), .k 13 (.bool (a == 2))] [(12, 0, 2, 14)] hst3 fun W4 hst4 => ?_)))
  refine then_normal ?_
  rcases Bool.eq_false_or_eq_true (a == 2) with hs5 | hs5
  · skip
    have hs5p : a = 2 := by simpa using hs5
    refine wp_cond_true (show Act.eval _ _ = .bool true from (congrArg Value.bool hs5)) (wp_seq (wp_region_P [0, 1] [.k 14 (.bool (onF b)), .k 4 (.bool (onF b))] [(4, 1, 1, 5), (9, 0, 1, 10)] hst4 fun W6 hst6 => ?_))
    refine then_normal (wp_ret (then_ret ?_))
    refine bodyPost_ret (v := .bool (onF b)) (results_tmp Tryz.results211 rfl) rfl ?_
    exact Ret.bool (by by_cases h2 : a = 2 <;> cases h3 : onF a <;> cases h4 : onF b <;> first | (simp_all [beforeF]; done) | (rw [beforeF, if_neg h2, h3, h4]; rfl)) hst6.ext
  have hs5p : a ≠ 2 := by simpa using hs5
  refine wp_cond_false (show Act.eval _ _ = .bool false from (congrArg Value.bool hs5)) (wp_skip (then_normal (wp_seq (wp_seq (wp_region_P [0, 1, 3, 7, 15, 31] [.k 15 (.bool (onF a)), .k 16 (.bool (!(onF a))), .k 17 (.bool (!(onF a))), .z 18 (!(!(onF a))) (.bool (onF b)), .z 19 (!(!(onF a))) (.bool (!(onF b))), tO 20 (!(onF a)) (!(onF b))] [(15, 0, 6, 21)] hst4 fun W7 hst7 => ?_)))))
  refine then_normal ?_
  rcases Bool.eq_false_or_eq_true ((!(onF a)) || (!(onF b))) with hs8 | hs8
  · skip
    have hs8p := hs8
    simp only [zB] at hs8p
    refine wp_cond_true (show Act.eval _ _ = .bool true from (congrArg Value.bool hs8)) (wp_seq (wp_region_P [0] [.k 4 (.bool false)] [(4, 0, 1, 5)] hst7 fun W9 hst9 => ?_))
    refine then_normal (wp_ret (then_ret ?_))
    refine bodyPost_ret (v := .bool false) (results_tmp Tryz.results211 rfl) rfl ?_
    exact Ret.bool (by by_cases h2 : a = 2 <;> cases h3 : onF a <;> cases h4 : onF b <;> first | (simp_all [beforeF]; done) | (rw [beforeF, if_neg h2, h3, h4]; rfl)) hst9.ext
  have hs8p := hs8
  simp only [zB] at hs8p
  obtain ⟨hs8p1, hs8p2⟩ := hs8p
  refine wp_cond_false (show Act.eval _ _ = .bool false from (congrArg Value.bool hs8)) (wp_skip (then_normal (wp_seq (wp_region_Z [0, 0, 3, 7] [] [.k 21 (vi a), .k 22 (vi b), .c 23 (vi (stepsF a b)), .k 7 (vi (stepsF a b))] [] [2] [(7, 3, 1, 8), (13, 0, 3, 16)] hst7 ?_ fun W10 hst10 => ?_))))
  · refine ⟨?_, trivial⟩
    · exact xsc rfl id rfl rfl fun cx => ⟨_, rsteps_any a b _ (by assumption) (by assumption), (map2 (cx.an 0) (cx.an 1))⟩
  refine then_normal (wp_seq (wp_region_P [0, 1, 3, 7, 15, 31, 63] [.k 24 (vi (stepsF a b)), .k 25 (.bool (decide (1 ≤ stepsF a b))), .k 26 (.bool (decide (1 ≤ stepsF a b))), .z 27 (decide (1 ≤ stepsF a b)) (vi (stepsF a b)), .z 28 (decide (1 ≤ stepsF a b)) (.bool (decide (stepsF a b ≤ 62))), tA 29 (decide (1 ≤ stepsF a b)) (decide (stepsF a b ≤ 62)), .k 4 (.bool ((decide (1 ≤ stepsF a b)) && (decide (stepsF a b ≤ 62))))] [(4, 6, 1, 5), (19, 0, 6, 25)] hst10 fun W11 hst11 => ?_))
  refine then_normal (wp_ret ?_)
  refine bodyPost_ret (v := .bool ((decide (1 ≤ stepsF a b)) && (decide (stepsF a b ≤ 62)))) (results_tmp Tryz.results211 rfl) rfl ?_
  exact Ret.bool (by by_cases h2 : a = 2 <;> cases h3 : onF a <;> cases h4 : onF b <;> first | (simp_all [beforeF]; done) | (rw [beforeF, if_neg h2, h3, h4]; rfl)) hst11.ext
set_option maxRecDepth 100000 in
set_option maxHeartbeats 2000000 in
theorem rold_any (x hz : Int) (T : List Int) (g : Int → Int) (w : World) (hT : T.length = 128) (hg : ∀ x, tabF T x = g x) :
    Calls Tryz.prog 144 #[.int .i64 x, .int .i64 hz, .agg (T.map (Value.int .i64)).toArray] w (Ret (.bool (oldF g hz x)) w) := by
  go_enter Tryz.func144, Tryz.ntmps144
  have hst0 := St.start w
  refine wp_seq (wp_region_Y [0, 0] [] [[0]] [] [.a 5, .k 6 (.bool false)] (fun ix σ β X => match ix with | 0 => σ 5 = vp (pb (β 5)) ∧ X 0 = eB (pb (β 5)) 34 (T.map (Value.int .i64)).toArray | _ => True) [0] [0] [(5, 0, 2, 7)] hst0 ?_ ?_ ?_)
  · exact fun ix _ _ _ _ _ _ hs hb hx h => match ix, h with
    | 0, h => by dsimp only at h ⊢; rw [← hs 5 rfl, ← hb 5 rfl, ← hx 0 rfl]; exact h
    | _ + 1, _ => trivial
  · refine ⟨?_, trivial⟩
    · refine sv_any rfl rfl fun ρ β W X cx => ?_
      exact dv_box (cs := (T.map (Value.int .i64)).toArray) rfl (cx.ou 2) rfl rfl rfl (fun σ β' X' hs hb hv hx => ⟨hv, hx⟩)
  intro σ β X W1 hD hst1 fr hfr
  obtain ⟨B5_1, hu_B5_1⟩ : ∃ z, pb (β 5) = z := ⟨_, rfl⟩
  simp only [exq 0 ((dTn (hD 0 lq)).2), hu_B5_1] at hst1
  simp only [ed 5 ((dTn (hD 0 lq)).1), hu_B5_1] at hfr
  clear hD hu_B5_1; subst hfr; clear σ β X
  refine then_normal (wp_seq (wp_region_Z [0, 1, 3] [] [.k 8 (vi x), .c 9 (.bool (onF x)), .k 7 (.bool (onF x))] [0] [1] [(7, 2, 1, 8), (0, 0, 2, 2)] hst1 ?_ fun W2 hst2 => ?_))
  · refine ⟨?_, trivial⟩
    · exact xsc rfl id rfl rfl fun cx => ⟨_, ron_any x _, (map1 (cx.an 0))⟩
  refine then_normal (wp_seq (wp_region_Z [0, 1, 3, 3, 15, 31, 63, 127, 127, 511, 1023, 2047, 4095] [[], [], [], [], [], [], [], [0]] [.k 10 (.bool (onF x)), .k 11 (.bool (onF x)), .z 12 (onF x) (vi x), .z 13 (onF x) (vi hz), .y 14 (onF x) (.bool (beforeF x hz)), tA 15 (onF x) (beforeF x hz), .k 16 (.bool ((onF x) && (beforeF x hz))), .y 17 ((onF x) && (beforeF x hz)) (.agg (T.map (Value.int .i64)).toArray), .z 18 ((onF x) && (beforeF x hz)) (vi x), .y 19 ((onF x) && (beforeF x hz)) (vi (g x)), .z 20 ((onF x) && (beforeF x hz)) (.bool ((g x) == 2)), tA 21 ((onF x) && (beforeF x hz)) ((g x) == 2), .k 6 (.bool (((onF x) && (beforeF x hz)) && ((g x) == 2)))] [0] [4, 7, 9] [(6, 12, 1, 7), (3, 0, 12, 15)] hst2 ?_ fun W3 hst3 => ?_))
  · refine ⟨?_, ?_, ?_, trivial⟩
    · exact m3 rfl (fun _ _ _ h => h) (fun cx => (cx.an 1)) fun cx hq => ⟨_, _, run_callF (args := #[vi x, vi hz]) rfl cx.sees rfl (by kernel_rfl) (map2 (mbv (cx.an 2) hq) (mbv (cx.an 3) hq)), rbefore_any x hz _⟩
    · exact m2 rfl (fun _ _ _ h => h) (fun cx => (cx.an 6)) fun cx hq => run_loadAr (n := 128) rfl (by kernel_rfl) (by kernel_rfl) (cx.ou 5) (cx.bi 0 rfl) (by simp [hT])
    · exact m3 rfl (fun _ _ _ h => h) (fun cx => (cx.an 6)) fun cx hq => ⟨_, _, run_callF (args := #[.agg (T.map (Value.int .i64)).toArray, vi x]) rfl cx.sees rfl (by kernel_rfl) (map2 (mbv (cx.an 7) hq) (mbv (cx.an 8) hq)), ((rst_any T x _ hT).mono fun e W1 h_ => ⟨h_.1.trans (by rw [hg]), h_.2⟩)⟩
  refine then_normal (wp_ret ?_)
  refine bodyPost_ret (v := .bool (((onF x) && (beforeF x hz)) && ((g x) == 2))) (results_tmp Tryz.results144 rfl) rfl ?_
  exact Ret.bool (by simp [oldF, Bool.and_assoc]) hst3.ext
set_option maxRecDepth 100000 in
set_option maxHeartbeats 2000000 in
theorem rdead_any (hz : Int) (T : List Int) (g : Int → Int) (a b n1 n2 : Int) (ho : Bool) (RA : Option Addr) (rn rc : Nat) (w : World) (hT : T.length = 128) (hg : ∀ x, tabF T x = g x) :
    Calls Tryz.prog 79 #[.agg #[.int .i64 a, .int .i64 b, .int .i64 n1, .int .i64 n2, .bool ho, .slice RA rn rc], .int .i64 hz, .agg (T.map (Value.int .i64)).toArray] w (Ret (.bool (deadF g hz a b)) w) := by
  go_enter Tryz.func79, Tryz.ntmps79
  have hst0 := St.start w
  refine wp_seq (wp_region_Y [0, 0, 0] [] [[0], [1]] [] [.a 3, .a 5, .k 6 (.bool false)] (fun ix σ β X => match ix with | 0 => σ 3 = vp (pb (β 3)) ∧ X 0 = eB (pb (β 3)) 41 #[vi a, vi b, vi n1, vi n2, .bool ho, .slice RA rn rc] | 1 => σ 5 = vp (pb (β 5)) ∧ X 1 = eB (pb (β 5)) 34 (T.map (Value.int .i64)).toArray | _ => True) [0, 1] [0, 1] [(3, 0, 1, 4), (1, 1, 2, 3)] hst0 ?_ ?_ ?_)
  · exact fun ix _ _ _ _ _ _ hs hb hx h => match ix, h with
    | 0, h => by dsimp only at h ⊢; rw [← hs 3 rfl, ← hb 3 rfl, ← hx 0 rfl]; exact h
    | 1, h => by dsimp only at h ⊢; rw [← hs 5 rfl, ← hb 5 rfl, ← hx 1 rfl]; exact h
    | _ + 2, _ => trivial
  · refine ⟨?_, ?_, trivial⟩
    · refine sv_any rfl rfl fun ρ β W X cx => ?_
      exact dv_box (cs := #[vi a, vi b, vi n1, vi n2, .bool ho, .slice RA rn rc]) rfl (cx.ou 0) rfl rfl rfl (fun σ β' X' hs hb hv hx => ⟨hv, hx⟩)
    · refine sv_any rfl rfl fun ρ β W X cx => ?_
      exact dv_box (cs := (T.map (Value.int .i64)).toArray) rfl (cx.ou 2) rfl rfl rfl (fun σ β' X' hs hb hv hx => ⟨hv, hx⟩)
  intro σ β X W1 hD hst1 fr hfr
  obtain ⟨B3_1, hu_B3_1⟩ : ∃ z, pb (β 3) = z := ⟨_, rfl⟩
  obtain ⟨B5_1, hu_B5_1⟩ : ∃ z, pb (β 5) = z := ⟨_, rfl⟩
  simp only [exq 0 ((dTn (hD 0 lq)).2), exq 1 ((dTn (hD 1 lq)).2), hu_B3_1, hu_B5_1] at hst1
  simp only [ed 3 ((dTn (hD 0 lq)).1), ed 5 ((dTn (hD 1 lq)).1), hu_B3_1, hu_B5_1] at hfr
  clear hD hu_B3_1 hu_B5_1; subst hfr; clear σ β X
  refine then_normal (wp_seq (wp_region_Z [0, 1, 0, 0, 15, 31] [[], [0], [], [1]] [.k 8 (.pointer (some ⟨B3_1, 1, none⟩)), .c 9 (vi b), .k 10 (vi hz), .c 11 (.agg (T.map (Value.int .i64)).toArray), .c 12 (.bool (oldF g hz b)), .k 7 (.bool (oldF g hz b))] [0, 1] [1, 3, 4] [(7, 5, 1, 8), (0, 0, 5, 5)] hst1 ?_ fun W2 hst2 => ?_))
  · refine ⟨?_, ?_, ?_, trivial⟩
    · exact xs4 rfl id fun cx => run_load1 rfl (by kernel_rfl) (cx.an 0) ((cx.bi 0 rfl).cell 1)
    · exact xs4 rfl id fun cx => run_loadAr (n := 128) rfl (by kernel_rfl) (by kernel_rfl) (cx.ou 5) (cx.bi 1 rfl) (by simp [hT])
    · exact xsc rfl id rfl rfl fun cx => ⟨_, rold_any b hz T g _ hT hg, (map3 (cx.an 1) (cx.an 2) (cx.an 3))⟩
  refine then_normal (wp_seq (wp_region_Z [0, 0, 2, 7, 15, 31, 63, 127, 255] [[1], [], [0]] [.c 13 (.agg (T.map (Value.int .i64)).toArray), .k 14 (vp B3_1), .c 15 (vi a), .c 16 (vi (g a)), .k 17 (.bool ((g a) == 3)), .k 18 (.bool ((g a) == 3)), .z 19 (!((g a) == 3)) (.bool (oldF g hz b)), tO 20 ((g a) == 3) (oldF g hz b), .k 6 (.bool (((g a) == 3) || (oldF g hz b)))] [0, 1] [0, 2, 3] [(6, 8, 1, 7), (6, 0, 8, 14)] hst2 ?_ fun W3 hst3 => ?_))
  · refine ⟨?_, ?_, ?_, trivial⟩
    · exact xs4 rfl id fun cx => run_loadAr (n := 128) rfl (by kernel_rfl) (by kernel_rfl) (cx.ou 5) (cx.bi 1 rfl) (by simp [hT])
    · exact xs4 rfl id fun cx => run_load1 rfl (by kernel_rfl) (cx.an 1) ((cx.bi 0 rfl).cell 0)
    · exact xsc rfl id rfl rfl fun cx => ⟨_, ((rst_any T a _ hT).mono fun e W1 h_ => ⟨h_.1.trans (by rw [hg]), h_.2⟩), (map2 (cx.an 0) (cx.an 2))⟩
  refine then_normal (wp_ret ?_)
  refine bodyPost_ret (v := .bool (((g a) == 3) || (oldF g hz b))) (results_tmp Tryz.results79 rfl) rfl ?_
  exact Ret.bool (by simp [deadF]) hst3.ext
set_option maxRecDepth 100000 in
set_option maxHeartbeats 2000000 in
theorem rall_any (hz : Int) (T : List Int) (g : Int → Int) (a b n1 n2 : Int) (ho : Bool) (RA : Option Addr) (rn rc : Nat) (w : World) (hT : T.length = 128) (hg : ∀ x, tabF T x = g x) :
    Calls Tryz.prog 126 #[.agg #[.int .i64 a, .int .i64 b, .int .i64 n1, .int .i64 n2, .bool ho, .slice RA rn rc], .int .i64 hz, .agg (T.map (Value.int .i64)).toArray] w (Ret (.bool (allF g hz a b)) w) := by
  go_enter Tryz.func126, Tryz.ntmps126
  have hst0 := St.start w
  refine wp_seq (wp_region_Y [0, 0, 0] [] [[0], [1]] [] [.a 3, .a 5, .k 6 (.bool false)] (fun ix σ β X => match ix with | 0 => σ 3 = vp (pb (β 3)) ∧ X 0 = eB (pb (β 3)) 41 #[vi a, vi b, vi n1, vi n2, .bool ho, .slice RA rn rc] | 1 => σ 5 = vp (pb (β 5)) ∧ X 1 = eB (pb (β 5)) 34 (T.map (Value.int .i64)).toArray | _ => True) [0, 1] [0, 1] [(3, 0, 1, 4), (1, 1, 2, 3)] hst0 ?_ ?_ ?_)
  · exact fun ix _ _ _ _ _ _ hs hb hx h => match ix, h with
    | 0, h => by dsimp only at h ⊢; rw [← hs 3 rfl, ← hb 3 rfl, ← hx 0 rfl]; exact h
    | 1, h => by dsimp only at h ⊢; rw [← hs 5 rfl, ← hb 5 rfl, ← hx 1 rfl]; exact h
    | _ + 2, _ => trivial
  · refine ⟨?_, ?_, trivial⟩
    · refine sv_any rfl rfl fun ρ β W X cx => ?_
      exact dv_box (cs := #[vi a, vi b, vi n1, vi n2, .bool ho, .slice RA rn rc]) rfl (cx.ou 0) rfl rfl rfl (fun σ β' X' hs hb hv hx => ⟨hv, hx⟩)
    · refine sv_any rfl rfl fun ρ β W X cx => ?_
      exact dv_box (cs := (T.map (Value.int .i64)).toArray) rfl (cx.ou 2) rfl rfl rfl (fun σ β' X' hs hb hv hx => ⟨hv, hx⟩)
  intro σ β X W1 hD hst1 fr hfr
  obtain ⟨B3_1, hu_B3_1⟩ : ∃ z, pb (β 3) = z := ⟨_, rfl⟩
  obtain ⟨B5_1, hu_B5_1⟩ : ∃ z, pb (β 5) = z := ⟨_, rfl⟩
  simp only [exq 0 ((dTn (hD 0 lq)).2), exq 1 ((dTn (hD 1 lq)).2), hu_B3_1, hu_B5_1] at hst1
  simp only [ed 3 ((dTn (hD 0 lq)).1), ed 5 ((dTn (hD 1 lq)).1), hu_B3_1, hu_B5_1] at hfr
  clear hD hu_B3_1 hu_B5_1; subst hfr; clear σ β X
  refine then_normal (wp_seq (wp_region_Z [0, 1, 3, 7, 15, 31, 15, 15, 255, 511, 1023] [[], [0], [], [], [], [0], [], [1]] [.k 8 (vp B3_1), .c 9 (vi a), .k 10 (.bool (a == 2)), .k 11 (.bool (a == 2)), .z 12 (!(a == 2)) (vp B3_1), .y 13 (!(a == 2)) (vi a), .z 14 (!(a == 2)) (vi hz), .y 15 (!(a == 2)) (.agg (T.map (Value.int .i64)).toArray), .y 16 (!(a == 2)) (.bool (oldF g hz a)), tO 17 (a == 2) (oldF g hz a), .k 7 (.bool ((a == 2) || (oldF g hz a)))] [0, 1] [1, 5, 7, 8] [(7, 10, 1, 8), (0, 0, 10, 10)] hst1 ?_ fun W2 hst2 => ?_))
  · refine ⟨?_, ?_, ?_, ?_, trivial⟩
    · exact xs4 rfl id fun cx => run_load1 rfl (by kernel_rfl) (cx.an 0) ((cx.bi 0 rfl).cell 0)
    · exact m2 rfl (fun _ _ _ h => h) (fun cx => (cx.an 3)) fun cx hq => run_load1 rfl (by kernel_rfl) (mbv (cx.an 4) hq) ((cx.bi 0 rfl).cell 0)
    · exact m2 rfl (fun _ _ _ h => h) (fun cx => (cx.an 3)) fun cx hq => run_loadAr (n := 128) rfl (by kernel_rfl) (by kernel_rfl) (cx.ou 5) (cx.bi 1 rfl) (by simp [hT])
    · exact m3 rfl (fun _ _ _ h => h) (fun cx => (cx.an 3)) fun cx hq => ⟨_, _, run_callF (args := #[vi a, vi hz, .agg (T.map (Value.int .i64)).toArray]) rfl cx.sees rfl (by kernel_rfl) (map3 (mbv (cx.an 5) hq) (mbv (cx.an 6) hq) (mbv (cx.an 7) hq)), rold_any a hz T g _ hT hg⟩
  refine then_normal (wp_seq (wp_region_Z [0, 1, 3, 7, 15, 31, 63, 63, 191, 511, 1023, 2047, 4095, 8191] [[], [], [], [0], [], [], [1], [], [0]] [.k 18 (.bool ((a == 2) || (oldF g hz a))), .k 19 (.bool ((a == 2) || (oldF g hz a))), .z 20 ((a == 2) || (oldF g hz a)) (.pointer (some ⟨B3_1, 1, none⟩)), .y 21 ((a == 2) || (oldF g hz a)) (vi b), .z 22 ((a == 2) || (oldF g hz a)) (.bool (b == 0)), .z 23 ((a == 2) || (oldF g hz a)) (.bool (b == 0)), .y 24 (((a == 2) || (oldF g hz a)) && (!(b == 0))) (.agg (T.map (Value.int .i64)).toArray), .z 25 (((a == 2) || (oldF g hz a)) && (!(b == 0))) (.pointer (some ⟨B3_1, 1, none⟩)), .y 26 (((a == 2) || (oldF g hz a)) && (!(b == 0))) (vi b), .y 27 (((a == 2) || (oldF g hz a)) && (!(b == 0))) (vi (g b)), .z 28 (((a == 2) || (oldF g hz a)) && (!(b == 0))) (.bool ((g b) == 3)), .y 29 ((a == 2) || (oldF g hz a)) (.bool ((b == 0) || ((g b) == 3))), tA 30 ((a == 2) || (oldF g hz a)) ((b == 0) || ((g b) == 3)), .k 6 (.bool (((a == 2) || (oldF g hz a)) && ((b == 0) || ((g b) == 3))))] [0, 1] [3, 6, 8, 9, 11] [(6, 13, 1, 7), (11, 0, 13, 24)] hst2 ?_ fun W3 hst3 => ?_))
  · refine ⟨?_, ?_, ?_, ?_, ?_, trivial⟩
    · exact m2 rfl (fun _ _ _ h => h) (fun cx => (cx.an 1)) fun cx hq => run_load1 rfl (by kernel_rfl) (mbv (cx.an 2) hq) ((cx.bi 0 rfl).cell 1)
    · exact m0 rfl (fun _ _ _ h => h) (fun cx => (cx.an 5)) fun cx hq => run_loadAr (n := 128) rfl (by kernel_rfl) (by kernel_rfl) (cx.ou 5) (cx.bi 1 rfl) (by simp [hT])
    · exact m0 rfl (fun _ _ _ h => h) (fun cx => (cx.an 5)) fun cx hq => run_load1 rfl (by kernel_rfl) (mbv (cx.an 7) hq) ((cx.bi 0 rfl).cell 1)
    · exact m1 rfl (fun _ _ _ h => h) (fun cx => (cx.an 5)) fun cx hq => ⟨_, _, run_callF (args := #[.agg (T.map (Value.int .i64)).toArray, vi b]) rfl cx.sees rfl (by kernel_rfl) (map2 (mbv (cx.an 6) hq) (mbv (cx.an 8) hq)), ((rst_any T b _ hT).mono fun e W1 h_ => ⟨h_.1.trans (by rw [hg]), h_.2⟩)⟩
    · exact m2 rfl (fun _ _ _ h => h) (fun cx => (cx.an 1)) fun cx hq => run_pick_or rfl (mbv (cx.an 5) hq) (cx.co _) (cx.an 10) (fun e_ => by rw [hq, e_]; rfl)
  refine then_normal (wp_ret ?_)
  refine bodyPost_ret (v := .bool (((a == 2) || (oldF g hz a)) && ((b == 0) || ((g b) == 3)))) (results_tmp Tryz.results126 rfl) rfl ?_
  exact Ret.bool (by simp [allF]) hst3.ext
end
end Go.Proofs.YtjnplglnnamfdaaGreatDoor
namespace Go.Proofs.YtjnplglnnamfdaaGreatDoor
section
open Go.RowKit
set_option linter.unusedVariables false
set_option linter.unusedSimpArgs false
def stdL (ls : List Int) : Nat → List Int
  | 0 => List.replicate 128 0
  | k + 1 => if k < 3 then stdL ls k else
      if k < ls.length then ((stdL ls k).set k (2 + (k : Int) % 2)).set k ((ls.getD k 0 % 65536 + (k : Int)) % 5) else (stdL ls k).set k (2 + (k : Int) % 2)
theorem stdL_len (ls : List Int) (k : Nat) : (stdL ls k).length = 128 := by
  induction k with
  | zero => simp [stdL]
  | succ k ih =>
    rw [stdL]
    split
    · exact ih
    · split <;> simp [ih]
theorem stdL_lo (ls : List Int) : stdL ls 3 = List.replicate 128 0 := rfl
theorem stdL_yes {ls : List Int} {k : Nat} (h : 3 ≤ k) (h2 : k < ls.length) : stdL ls (k + 1) = ((stdL ls k).set k (2 + (k : Int) % 2)).set k ((ls.getD k 0 % 65536 + (k : Int)) % 5) := by rw [stdL, if_neg (by omega), if_pos h2]
theorem stdL_no {ls : List Int} {k : Nat} (h : 3 ≤ k) (h2 : ¬ k < ls.length) : stdL ls (k + 1) = (stdL ls k).set k (2 + (k : Int) % 2) := by rw [stdL, if_neg (by omega), if_neg h2]
def stdT (ls : List Int) : List Int := (stdL ls 128).set 2 2
theorem stdT_len (ls : List Int) : (stdT ls).length = 128 := by rw [stdT, List.length_set, stdL_len]
theorem table_ok (T : List Int) (w : World) (hT : T.length = 128) : StOk w 34 (.agg (T.map (Value.int .i64)).toArray) (tabF T) :=
  ⟨75, _, fun W => by kernel_rfl, by kernel_rfl, fun W x hx => rst_any T x W hT⟩
set_option maxRecDepth 100000 in
set_option maxHeartbeats 2000000 in
theorem stand9_any (LA : Option Addr) (lc : Nat) (ls : List Int) (w : World) (hA : At w LA (ls.map (Value.int .i64))) (hl : ls.length ≤ 1000) :
    Calls Tryz.prog 11 #[.slice LA ls.length lc] w (Ret (.agg ((stdT ls).map (Value.int .i64)).toArray) w) := by
  go_enter Tryz.func11, Tryz.ntmps11
  have hst0 := St.start w
  refine wp_seq (wp_region_Y [0] [] [[0]] [] [.a 2] (fun ix σ β X => match ix with | 0 => σ 2 = vp (pb (β 2)) ∧ X 0 = eB (pb (β 2)) 34 ((List.replicate 128 (0 : Int)).map (Value.int .i64)).toArray | _ => True) [0] [0] [(2, 0, 1, 3)] hst0 ?_ ?_ ?_)
  · exact fun ix _ _ _ _ _ _ hs hb hx h => match ix, h with
    | 0, h => by dsimp only at h ⊢; rw [← hs 2 rfl, ← hb 2 rfl, ← hx 0 rfl]; exact h
    | _ + 1, _ => trivial
  · refine ⟨?_, trivial⟩
    · refine sv_any rfl rfl fun ρ β W X cx => ?_
      exact dv_alloc (cs := ((List.replicate 128 (0 : Int)).map (Value.int .i64)).toArray) rfl (by kernel_rfl) rfl rfl (fun σ β' X' hs hb hv hx => ⟨hv, hx⟩)
  intro σ β X W1 hD hst1 fr hfr
  obtain ⟨B2_1, hu_B2_1⟩ : ∃ z, pb (β 2) = z := ⟨_, rfl⟩
  simp only [exq 0 ((dTn (hD 0 lq)).2), hu_B2_1] at hst1
  simp only [ed 2 ((dTn (hD 0 lq)).1), hu_B2_1] at hfr
  clear hD hu_B2_1; subst hfr; clear σ β X
  refine then_normal (wp_seq (wp_region_Y [0, 0, 3] [[], [], [1]] [[], [1], [2]] [[], [], [1]] [.k 5 (.agg #[vi 0, vi 0, vi 0, vi 0, vi 0, vi 0, vi 0, vi 0, vi 0, vi 0, vi 0, vi 0, vi 0, vi 0, vi 0, vi 0, vi 0, vi 0, vi 0, vi 0, vi 0, vi 0, vi 0, vi 0, vi 0, vi 0, vi 0, vi 0, vi 0, vi 0, vi 0, vi 0, vi 0, vi 0, vi 0, vi 0, vi 0, vi 0, vi 0, vi 0, vi 0, vi 0, vi 0, vi 0, vi 0, vi 0, vi 0, vi 0, vi 0, vi 0, vi 0, vi 0, vi 0, vi 0, vi 0, vi 0, vi 0, vi 0, vi 0, vi 0, vi 0, vi 0, vi 0, vi 0, vi 0, vi 0, vi 0, vi 0, vi 0, vi 0, vi 0, vi 0, vi 0, vi 0, vi 0, vi 0, vi 0, vi 0, vi 0, vi 0, vi 0, vi 0, vi 0, vi 0, vi 0, vi 0, vi 0, vi 0, vi 0, vi 0, vi 0, vi 0, vi 0, vi 0, vi 0, vi 0, vi 0, vi 0, vi 0, vi 0, vi 0, vi 0, vi 0, vi 0, vi 0, vi 0, vi 0, vi 0, vi 0, vi 0, vi 0, vi 0, vi 0, vi 0, vi 0, vi 0, vi 0, vi 0, vi 0, vi 0, vi 0, vi 0, vi 0, vi 0, vi 0, vi 0, vi 0, vi 0]), .a 3, .n] (fun ix σ β X => match ix with | 0 => True | 1 => σ 3 = vp (pb (β 3)) ∧ X 1 = eB (pb (β 3)) 34 ((List.replicate 128 (0 : Int)).map (Value.int .i64)).toArray | 2 => X 2 = eB (pb (β 3)) 34 ((List.replicate 128 (0 : Int)).map (Value.int .i64)).toArray | _ => True) [0, 2] [1, 2] [(3, 1, 1, 4), (1, 0, 1, 2)] hst1 ?_ ?_ ?_))
  · exact fun ix _ _ _ _ _ _ hs hb hx h => match ix, h with
    | 1, h => by dsimp only at h ⊢; rw [← hs 3 rfl, ← hb 3 rfl, ← hx 1 rfl]; exact h
    | 2, h => by dsimp only at h ⊢; rw [← hb 3 rfl, ← hx 2 rfl]; exact h
    | 0, _ | _ + 3, _ => trivial
  · refine ⟨?_, ?_, trivial⟩
    · refine sv_any rfl rfl fun ρ β W X cx => ?_
      exact dv_alloc (cs := ((List.replicate 128 (0 : Int)).map (Value.int .i64)).toArray) rfl (by kernel_rfl) rfl rfl (fun σ β' X' hs hb hv hx => ⟨hv, hx⟩)
    · refine sv_any rfl rfl fun ρ β W X cx => ?_
      exact dv_storeL (n := 128) rfl (dTn (cx.an 1)).1 ((show _ = _ from (cx.an 0)).trans (by kernel_rfl : _ = Value.agg ((List.replicate 128 (0 : Int)).map (Value.int .i64)).toArray)) (by kernel_rfl) (by simp [stdL_len]) (by simp [stdL_len]) (int_one _) cx (dTn (cx.an 1)).2 rfl rfl rfl rfl (fun σ β' X' hs hb hx => by rw [hb 3]; exact hx)
  intro σ β X W2 hD hst2 fr hfr
  obtain ⟨B3_2, hu_B3_2⟩ : ∃ z, pb (β 3) = z := ⟨_, rfl⟩
  simp only [exq 2 ((dTn (hD 2 lq))), hu_B3_2] at hst2
  simp only [ed 3 ((dTn (hD 1 lq)).1), hu_B3_2] at hfr
  clear hD hu_B3_2; subst hfr; clear σ β X
  refine then_normal (wp_seq (wp_seq (wp_region_P [0] [.k 4 (vi 3)] [(4, 0, 1, 5)] hst2 fun W3 hst3 => ?_)))
  refine then_normal (wp_block ?_)
  rw [← stdL_lo ls] at hst3
  refine wp_loopN (fun mz az W => ∃ k : Nat, ∃ u4_ : List Value, k ≤ 128 ∧ 3 ≤ k ∧ mz = 128 - k ∧ az = ⟨#[.slice LA ls.length lc, undef, vp B2_1, vp B3_2, vi ((k : Int)), .agg #[vi 0, vi 0, vi 0, vi 0, vi 0, vi 0, vi 0, vi 0, vi 0, vi 0, vi 0, vi 0, vi 0, vi 0, vi 0, vi 0, vi 0, vi 0, vi 0, vi 0, vi 0, vi 0, vi 0, vi 0, vi 0, vi 0, vi 0, vi 0, vi 0, vi 0, vi 0, vi 0, vi 0, vi 0, vi 0, vi 0, vi 0, vi 0, vi 0, vi 0, vi 0, vi 0, vi 0, vi 0, vi 0, vi 0, vi 0, vi 0, vi 0, vi 0, vi 0, vi 0, vi 0, vi 0, vi 0, vi 0, vi 0, vi 0, vi 0, vi 0, vi 0, vi 0, vi 0, vi 0, vi 0, vi 0, vi 0, vi 0, vi 0, vi 0, vi 0, vi 0, vi 0, vi 0, vi 0, vi 0, vi 0, vi 0, vi 0, vi 0, vi 0, vi 0, vi 0, vi 0, vi 0, vi 0, vi 0, vi 0, vi 0, vi 0, vi 0, vi 0, vi 0, vi 0, vi 0, vi 0, vi 0, vi 0, vi 0, vi 0, vi 0, vi 0, vi 0, vi 0, vi 0, vi 0, vi 0, vi 0, vi 0, vi 0, vi 0, vi 0, vi 0, vi 0, vi 0, vi 0, vi 0, vi 0, vi 0, vi 0, vi 0, vi 0, vi 0, vi 0, vi 0, vi 0, vi 0, vi 0], (gu u4_ 0), (gu u4_ 1), (gu u4_ 2), (gu u4_ 3), (gu u4_ 4), (gu u4_ 5), (gu u4_ 6), (gu u4_ 7), (gu u4_ 8), (gu u4_ 9), (gu u4_ 10), (gu u4_ 11), (gu u4_ 12), (gu u4_ 13), (gu u4_ 14), (gu u4_ 15), (gu u4_ 16), (gu u4_ 17), (gu u4_ 18), (gu u4_ 19), (gu u4_ 20), (gu u4_ 21), (gu u4_ 22), (gu u4_ 23), (gu u4_ 24), undef, undef, undef], []⟩ ∧ St w [] [eB B2_1 34 ((stdL ls 3).map (Value.int .i64)).toArray, eB B3_2 34 ((stdL ls k).map (Value.int .i64)).toArray] W) (128 - 3) ?_ ?_
  · -- the loop begins
    have hp5 := hst3.pick [0, 1] (by decide) rfl
    exact ⟨3, [undef, undef, undef, undef, undef, undef, undef, undef, undef, undef, undef, undef, undef, undef, undef, undef, undef, undef, undef, undef, undef, undef, undef, undef, undef], by omega, by omega, rfl, rfl, hp5⟩
  rintro n4 a4 W4 ⟨k, u4_, hk, hk3, rfl, rfl, hst4⟩
  refine wp_seq (wp_seq (wp_region_P [0, 1] [.k 6 (vi ((k : Int))), .k 7 (.bool (decide ((k : Int) < 128)))] [(6, 0, 2, 8)] hst4 fun W6 hst6 => ?_))
  refine then_normal ?_
  rcases Bool.eq_false_or_eq_true (decide ((k : Int) < 128)) with hs7 | hs7
  · skip
    have hs7p : (k : Int) < 128 := by simpa using hs7
    refine wp_cond_true (show Act.eval _ _ = .bool true from (congrArg Value.bool hs7)) (wp_skip (then_normal (wp_seq (wp_block (wp_seq (wp_region_Y [0, 0, 2, 6, 0, 31, 63] [[], [], [], [], [], [], [1]] [[], [], [], [], [], [], [2]] [[], [], [], [], [], [], [1]] [.k 10 (vi ((k : Int))), .k 11 (vi ((k : Int))), tRe 12 .i64 (k : Int) 2 ((k : Int) % 2) (Int.tmod_eq_emod_of_nonneg (by omega)), tI 13 (2 + ((k : Int) % 2)) (by omega), .k 14 (vp B3_2), .c 15 (.pointer (some ⟨B3_2, k, none⟩)), .n] (fun ix σ β X => match ix with | 0 => True | 1 => True | 2 => True | 3 => True | 4 => True | 5 => True | 6 => X 2 = eB B3_2 34 (((stdL ls k).set k (2 + ((k : Int) % 2))).map (Value.int .i64)).toArray | _ => True) [0, 2] [5, 6] [(10, 0, 6, 16)] hst6 ?_ ?_ ?_))))))
    · exact fun ix _ _ _ _ _ _ hs hb hx h => match ix, h with
      | 6, h => by dsimp only at h ⊢; rw [← hx 2 rfl]; exact h
      | 0, _ | 1, _ | 2, _ | 3, _ | 4, _ | 5, _ | _ + 7, _ => trivial
    · refine ⟨?_, ?_, trivial⟩
      · exact xs4 rfl id fun cx => run_indexArrB (n := 128) (sz := 1) (m := k) (q := k) rfl (by kernel_rfl) (cx.an 4) (cx.an 0) (by omega) (by omega) (by omega)
      · refine sv_any rfl rfl fun ρ β W X cx => ?_
        exact dv_storeAr (m := k) rfl (cx.an 5) (cx.an 3) (by kernel_rfl) rfl rfl cx (cx.init 1 _ rfl) rfl (by simp only [List.length_map, List.length_set, stdL_len]; omega) rfl (by rw [← List.map_set]) rfl rfl (fun σ β' X' hs hb hx => hx)
    intro σ β X W8 hD hst8 fr hfr
    simp only [exq 2 ((dTn (hD 6 lq)))] at hst8
    clear hD; subst hfr; clear σ β X
    refine then_normal (wp_seq (wp_region_P [0, 0, 2, 7] [.k 16 (vi ((k : Int))), .k 17 (.slice LA ls.length lc), .k 18 (vi ((ls.length : Int))), .k 19 (.bool (decide ((k : Int) < (ls.length : Int))))] [(16, 0, 4, 20)] hst8 fun W9 hst9 => ?_))
    refine then_normal ?_
    rcases Bool.eq_false_or_eq_true (decide ((k : Int) < (ls.length : Int))) with hs10 | hs10
    · skip
      have hs10p : (k : Int) < (ls.length : Int) := by simpa using hs10
      refine wp_cond_true (show Act.eval _ _ = .bool true from (congrArg Value.bool hs10)) (wp_region_Y [0, 0, 0, 6, 14, 30, 0, 126, 254, 0, 1023, 2047] [[], [], [], [], [], [], [], [], [], [], [], [1]] [[], [], [], [], [], [], [], [], [], [], [], [2]] [[], [], [], [], [], [], [], [], [], [], [], [1]] [.k 20 (vi ((k : Int))), .k 21 (.slice LA ls.length lc), .k 22 (vi ((k : Int))), .c 23 (.pointer (some ((ad LA).add k))), .c 24 (vi (ls.getD k 0)), tAn 25 .i64 (ls.getD k 0) 65535 ((ls.getD k 0) % 65536) (bits_mask (ls.getD k 0) 16 (by decide)), .k 26 (vi ((k : Int))), tI 27 (((ls.getD k 0) % 65536) + (k : Int)) (by omega), tRe 28 .i64 ((ls.getD k 0) % 65536 + (k : Int)) 5 (((ls.getD k 0) % 65536 + (k : Int)) % 5) (Int.tmod_eq_emod_of_nonneg (by omega)), .k 29 (vp B3_2), .c 30 (.pointer (some ⟨B3_2, k, none⟩)), .n] (fun ix σ β X => match ix with | 0 => True | 1 => True | 2 => True | 3 => True | 4 => True | 5 => True | 6 => True | 7 => True | 8 => True | 9 => True | 10 => True | 11 => X 2 = eB B3_2 34 ((((stdL ls k).set k (2 + ((k : Int) % 2))).set k (((ls.getD k 0) % 65536 + (k : Int)) % 5)).map (Value.int .i64)).toArray | _ => True) [0, 2] [3, 4, 10, 11] [(20, 0, 11, 31)] hst9 ?_ ?_ ?_)
      · exact fun ix _ _ _ _ _ _ hs hb hx h => match ix, h with
        | 11, h => by dsimp only at h ⊢; rw [← hx 2 rfl]; exact h
        | 0, _ | 1, _ | 2, _ | 3, _ | 4, _ | 5, _ | 6, _ | 7, _ | 8, _ | 9, _ | 10, _ | _ + 12, _ => trivial
      · refine ⟨?_, ?_, ?_, ?_, trivial⟩
        · exact xs4 rfl id fun cx => run_indexSl (e := 3) (m := k) rfl (by kernel_rfl) (by kernel_rfl) (cx.an 1) (cx.an 2) (by omega) (by omega) (hA.ext cx.upd.to_ext) (by simp)
        · exact xs4 rfl id fun cx => run_load1 rfl (by kernel_rfl) (cx.an 3) (At.cellAd (hA.ext cx.upd.to_ext) (getD_int (by omega)))
        · exact xs4 rfl id fun cx => run_indexArrB (n := 128) (sz := 1) (m := k) (q := k) rfl (by kernel_rfl) (cx.an 9) (cx.an 0) (by omega) (by omega) (by omega)
        · refine sv_any rfl rfl fun ρ β W X cx => ?_
          exact dv_storeAr (m := k) rfl (cx.an 10) (cx.an 8) (by kernel_rfl) rfl rfl cx (cx.init 1 _ rfl) rfl (by simp only [List.length_map, List.length_set, stdL_len]; omega) rfl (by rw [← List.map_set]) rfl rfl (fun σ β' X' hs hb hx => hx)
      intro σ β X W11 hD hst11 fr hfr
      simp only [exq 2 ((dTn (hD 11 lq)))] at hst11
      clear hD; subst hfr; clear σ β X
      refine blk_normal (then_normal (wp_region_P [0, 1, 3] [.k 8 (vi ((k : Int))), tI 9 ((k : Int) + 1) (by omega), .k 4 (vi ((k : Int) + 1))] [(4, 2, 1, 5), (3, 0, 2, 5)] hst11 fun W12 hst12 => ?_))
      refine then_normal ?_
      rw [show ((stdL ls k).set k (2 + ((k : Int) % 2))).set k (((ls.getD k 0) % 65536 + (k : Int)) % 5) = stdL ls (k + 1) from (stdL_yes (by omega) (by omega)).symm] at hst12
      refine ⟨128 - ((k + 1)), by omega, ?_⟩
      have hp13 := hst12.pick [0, 1] (by decide) rfl
      exact ⟨(k + 1), [vi ((k : Int)), .bool (decide ((k : Int) < 128)), vi ((k : Int)), vi ((k : Int) + 1), vi ((k : Int)), vi ((k : Int)), vi ((k : Int) % 2), vi (2 + ((k : Int) % 2)), vp B3_2, .pointer (some ⟨B3_2, k, none⟩), vi ((k : Int)), .slice LA ls.length lc, vi ((ls.length : Int)), .bool (decide ((k : Int) < (ls.length : Int))), vi ((k : Int)), .slice LA ls.length lc, vi ((k : Int)), .pointer (some ((ad LA).add k)), vi (ls.getD k 0), vi ((ls.getD k 0) % 65536), vi ((k : Int)), vi ((ls.getD k 0) % 65536 + (k : Int)), vi (((ls.getD k 0) % 65536 + (k : Int)) % 5), vp B3_2, .pointer (some ⟨B3_2, k, none⟩)], by omega, by omega, rfl, rfl, hp13⟩
    have hs10p : ¬ ((k : Int) < (ls.length : Int)) := by simpa using hs10
    refine wp_cond_false (show Act.eval _ _ = .bool false from (congrArg Value.bool hs10)) (wp_skip (blk_normal (then_normal (wp_region_P [0, 1, 3] [.k 8 (vi ((k : Int))), tI 9 ((k : Int) + 1) (by omega), .k 4 (vi ((k : Int) + 1))] [(4, 2, 1, 5), (3, 0, 2, 5)] hst9 fun W14 hst14 => ?_))))
    refine then_normal ?_
    rw [show (stdL ls k).set k (2 + ((k : Int) % 2)) = stdL ls (k + 1) from (stdL_no (by omega) (by omega)).symm] at hst14
    refine ⟨128 - ((k + 1)), by omega, ?_⟩
    have hp15 := hst14.pick [0, 1] (by decide) rfl
    exact ⟨(k + 1), [vi ((k : Int)), .bool (decide ((k : Int) < 128)), vi ((k : Int)), vi ((k : Int) + 1), vi ((k : Int)), vi ((k : Int)), vi ((k : Int) % 2), vi (2 + ((k : Int) % 2)), vp B3_2, .pointer (some ⟨B3_2, k, none⟩), vi ((k : Int)), .slice LA ls.length lc, vi ((ls.length : Int)), .bool (decide ((k : Int) < (ls.length : Int))), (gu u4_ 14), (gu u4_ 15), (gu u4_ 16), (gu u4_ 17), (gu u4_ 18), (gu u4_ 19), (gu u4_ 20), (gu u4_ 21), (gu u4_ 22), (gu u4_ 23), (gu u4_ 24)], by omega, by omega, rfl, rfl, hp15⟩
  have hs7p : ¬ ((k : Int) < 128) := by simpa using hs7
  refine wp_cond_false (show Act.eval _ _ = .bool false from (congrArg Value.bool hs7)) (wp_exit (then_exit (then_exit (blk_eq (then_normal (wp_seq ?_))))))
  obtain rfl : k = 128 := by omega
  refine wp_region_Y [0, 1, 3] [[], [], [1]] [[], [], [2]] [[], [], [1]] [.k 31 (vp B3_2), .c 32 (.pointer (some ⟨B3_2, 2, none⟩)), .n] (fun ix σ β X => match ix with | 0 => True | 1 => True | 2 => X 2 = eB B3_2 34 (((stdL ls (128 : Nat)).set 2 (2)).map (Value.int .i64)).toArray | _ => True) [0, 2] [1, 2] [(31, 0, 2, 33)] hst6 ?_ ?_ ?_
  · exact fun ix _ _ _ _ _ _ hs hb hx h => match ix, h with
    | 2, h => by dsimp only at h ⊢; rw [← hx 2 rfl]; exact h
    | 0, _ | 1, _ | _ + 3, _ => trivial
  · refine ⟨?_, ?_, trivial⟩
    · exact xs4 rfl id fun cx => run_indexArrB (n := 128) (sz := 1) (m := 2) (q := 2) rfl (by kernel_rfl) (cx.an 0) (cx.co _) (by omega) (by omega) (by omega)
    · refine sv_any rfl rfl fun ρ β W X cx => ?_
      exact dv_storeAr (m := 2) rfl (cx.an 1) (cx.co _) (by kernel_rfl) rfl rfl cx (cx.init 1 _ rfl) rfl (by simp only [List.length_map, List.length_set, stdL_len]; omega) rfl (by rw [← List.map_set]) rfl rfl (fun σ β' X' hs hb hx => hx)
  intro σ β X W16 hD hst16 fr hfr
  simp only [exq 2 ((dTn (hD 2 lq)))] at hst16
  clear hD; subst hfr; clear σ β X
  refine then_normal (wp_seq (wp_region_Y [0, 1] [[1], [0]] [[], [2]] [[], [0]] [.c 33 (.agg (((stdL ls (128 : Nat)).set 2 (2)).map (Value.int .i64)).toArray), .n] (fun ix σ β X => match ix with | 0 => True | 1 => X 2 = eB B2_1 34 (((stdL ls (128 : Nat)).set 2 (2)).map (Value.int .i64)).toArray | _ => True) [1, 2] [0, 1] [(33, 0, 1, 34)] hst16 ?_ ?_ ?_))
  · exact fun ix _ _ _ _ _ _ hs hb hx h => match ix, h with
    | 1, h => by dsimp only at h ⊢; rw [← hx 2 rfl]; exact h
    | 0, _ | _ + 2, _ => trivial
  · refine ⟨?_, ?_, trivial⟩
    · exact xs4 rfl id fun cx => run_loadAr (n := 128) rfl (by kernel_rfl) (by kernel_rfl) (cx.ou 3) (cx.bi 1 rfl) (by simp [stdL_len])
    · refine sv_any rfl rfl fun ρ β W X cx => ?_
      exact dv_storeL (n := 128) rfl (cx.ou 2) (cx.an 0) (by kernel_rfl) (by simp [stdL_len]) (by simp [stdL_len]) (int_one _) cx (cx.init 0 _ rfl) rfl rfl rfl rfl (fun σ β' X' hs hb hx => hx)
  intro σ β X W17 hD hst17 fr hfr
  simp only [exq 2 ((dTn (hD 1 lq)))] at hst17
  clear hD; subst hfr; clear σ β X
  refine then_normal (wp_ret ?_)
  refine bodyPost_ret (v := .agg (((stdL ls (128 : Nat)).set 2 (2)).map (Value.int .i64)).toArray) (results_cell (n := 128) Tryz.results11 rfl (by kernel_rfl) (by kernel_rfl) (hst17.blk 1 rfl) (by simp [stdL_len])) rfl ?_
  exact Ret.of (by rw [stdT]) hst17.ext
end
end Go.Proofs.YtjnplglnnamfdaaGreatDoor
namespace Go.Proofs.YtjnplglnnamfdaaGreatDoor
section
open Go.RowKit
set_option linter.unusedVariables false
set_option linter.unusedSimpArgs false
/-- page, room, all visible -/
abbrev KD := Int × Int × Bool
def kd0 : KD := (0, 0, false)
def kdC (k : KD) : List Value := [.int .i64 k.1, .int .i64 k.2.1, .bool k.2.2]
theorem kdC_len (k : KD) : (kdC k).length = 3 := rfl
def findR (L : List KD) (x : Int) : Option KD := match L with
  | [] => none
  | k :: l => if k.1 = x then some k else findR l x
theorem findR_at {L : List KD} {x : Int} {k : Nat} (h : k < L.length) : findR (L.drop k) x = if (L.getD k kd0).1 = x then some (L.getD k kd0) else findR (L.drop (k + 1)) x := by
  rw [List.drop_eq_getElem_cons h, findR, List.getD_eq_getElem?_getD, List.getElem?_eq_getElem h, Option.getD_some]
def fdR (L : List KD) (x : Int) : KD := (findR L x).getD kd0
def roomR (L : List KD) (rm : Int) : List Int → Int
  | [] => -1
  | s :: l => if (findR L s).isSome && decide ((fdR L s).2.1 ≥ rm) then s else roomR L rm l
theorem roomR_at {L : List KD} {rm : Int} {ss : List Int} {k : Nat} (h : k < ss.length) : roomR L rm (ss.drop k) = if (findR L (ss.getD k 0)).isSome && decide ((fdR L (ss.getD k 0)).2.1 ≥ rm) then ss.getD k 0 else roomR L rm (ss.drop (k + 1)) := by
  rw [List.drop_eq_getElem_cons h, roomR, List.getD_eq_getElem?_getD, List.getElem?_eq_getElem h, Option.getD_some]
set_option maxRecDepth 100000 in
set_option maxHeartbeats 2000000 in
theorem rfind_any (b : Nat) (A : Option Addr) (c : Nat) (L : List KD) (x : Int) (w : World) (hB : Blk w b 119 #[.slice A L.length c]) (hA : At w A (L.flatMap kdC)) (hL : L.length ≤ 1000000) :
    Calls Tryz.prog 127 #[.pointer (some ⟨b, 0, none⟩), .int .i64 x] w (Ret (.tuple #[.agg #[.int .i64 (fdR L x).1, .int .i64 (fdR L x).2.1, .bool (fdR L x).2.2], .bool (findR L x).isSome]) w) := by
  go_enter Tryz.func127, Tryz.ntmps127
  have hst0 := St.start w
  refine wp_seq (wp_region_Y [0, 0] [] [[0]] [] [.a 4, .k 5 (.bool false)] (fun ix σ β X => match ix with | 0 => σ 4 = vp (pb (β 4)) ∧ X 0 = eB (pb (β 4)) 233 #[vi 0, vi 0, .bool false] | _ => True) [0] [0] [(4, 0, 2, 6)] hst0 ?_ ?_ ?_)
  · exact fun ix _ _ _ _ _ _ hs hb hx h => match ix, h with
    | 0, h => by dsimp only at h ⊢; rw [← hs 4 rfl, ← hb 4 rfl, ← hx 0 rfl]; exact h
    | _ + 1, _ => trivial
  · refine ⟨?_, trivial⟩
    · refine sv_any rfl rfl fun ρ β W X cx => ?_
      exact dv_alloc (cs := #[vi 0, vi 0, .bool false]) rfl (by kernel_rfl) rfl rfl (fun σ β' X' hs hb hv hx => ⟨hv, hx⟩)
  intro σ β X W1 hD hst1 fr hfr
  obtain ⟨B4_1, hu_B4_1⟩ : ∃ z, pb (β 4) = z := ⟨_, rfl⟩
  simp only [exq 0 ((dTn (hD 0 lq)).2), hu_B4_1] at hst1
  simp only [ed 4 ((dTn (hD 0 lq)).1), hu_B4_1] at hfr
  clear hD hu_B4_1; subst hfr; clear σ β X
  refine then_normal (wp_seq (wp_seq (wp_region_P [0] [.k 6 (vi 0)] [(6, 0, 1, 7)] hst1 fun W2 hst2 => ?_)))
  refine then_normal (wp_block ?_)
  refine wp_loopN (fun mz az W => ∃ k : Nat, ∃ u3_ : List Value, k ≤ L.length ∧ findR L x = findR (L.drop k) x ∧ mz = L.length - k ∧ az = ⟨#[vp b, vi x, undef, undef, vp B4_1, (gu u3_ 0), vi ((k : Int)), (gu u3_ 1), (gu u3_ 2), (gu u3_ 3), (gu u3_ 4), (gu u3_ 5), (gu u3_ 6), (gu u3_ 7), (gu u3_ 8), (gu u3_ 9), (gu u3_ 10), (gu u3_ 11), (gu u3_ 12), (gu u3_ 13), (gu u3_ 14), (gu u3_ 15), (gu u3_ 16), (gu u3_ 17), (gu u3_ 18), (gu u3_ 19), (gu u3_ 20), (gu u3_ 21), (gu u3_ 22), (gu u3_ 23), (gu u3_ 24), (gu u3_ 25), (gu u3_ 26), undef], []⟩ ∧ St w [] [eB B4_1 233 #[vi 0, vi 0, .bool false]] W) (L.length - 0) ?_ ?_
  · -- the loop begins
    have hp4 := hst2.pick [0] (by decide) rfl
    exact ⟨0, [.bool false, undef, undef, undef, undef, undef, undef, undef, undef, undef, undef, undef, undef, undef, undef, undef, undef, undef, undef, undef, undef, undef, undef, undef, undef, undef, undef], Nat.zero_le _, rfl, rfl, rfl, hp4⟩
  rintro n3 a3 W3 ⟨k, u3_, hk, hkr, rfl, rfl, hst3⟩
  refine wp_seq (wp_seq (wp_region_Z [0, 0, 2, 6, 14, 30, 63] [] [.k 7 (vi ((k : Int))), .k 8 (vp b), .k 9 (vp b), .k 10 (vp b), .c 11 (.slice A L.length c), .k 12 (vi ((L.length : Int))), .k 13 (.bool (decide ((k : Int) < (L.length : Int))))] [0] [4] [(7, 0, 7, 14)] hst3 ?_ fun W5 hst5 => ?_))
  · refine ⟨?_, trivial⟩
    · exact xs4 rfl id fun cx => run_load1 rfl (by kernel_rfl) (cx.an 3) ((Blk.ext hB cx.upd.to_ext).cell 0)
  refine then_normal ?_
  rcases Bool.eq_false_or_eq_true (decide ((k : Int) < (L.length : Int))) with hs6 | hs6
  · skip
    have hs6p : (k : Int) < (L.length : Int) := by simpa using hs6
    refine wp_cond_true (show Act.eval _ _ = .bool true from (congrArg Value.bool hs6)) (wp_skip (then_normal (wp_seq (wp_block (wp_seq (wp_region_Z [0, 1, 3, 7, 0, 31, 63, 127, 0, 511] [] [.k 16 (vp b), .k 17 (vp b), .k 18 (vp b), .c 19 (.slice A L.length c), .k 20 (vi ((k : Int))), .c 21 (.pointer (some ((ad A).add (k * 3)))), .c 22 (.pointer (some ((ad A).add (k * 3 + 0)))), .c 23 (vi ((L.getD k kd0).1)), .k 24 (vi x), .k 25 (.bool (((L.getD k kd0).1) == x))] [0] [3, 5, 6, 7] [(16, 0, 10, 26)] hst5 ?_ fun W7 hst7 => ?_))))))
    · refine ⟨?_, ?_, ?_, ?_, trivial⟩
      · exact xs4 rfl id fun cx => run_load1 rfl (by kernel_rfl) (cx.an 2) ((Blk.ext hB cx.upd.to_ext).cell 0)
      · exact xs4 rfl id fun cx => run_indexSlM (e := 233) (m := k) (sz := 3) rfl (by kernel_rfl) (by kernel_rfl) (cx.an 3) (cx.an 4) (by omega) (by omega) (hA.ext cx.upd.to_ext) (by have h_ := flatLen (f := kdC) (sz := 3) kdC_len L; show 0 < (List.flatMap kdC L).length; omega)
      · exact xs4 rfl id fun cx => run_fieldAd rfl (by kernel_rfl) (cx.an 5)
      · exact xs4 rfl id fun cx => run_load1 rfl (by kernel_rfl) (cx.an 6) (At.eltc (f := kdC) (k := 0) kdC_len (hA.ext cx.upd.to_ext) (getD_some (ts := L) (m := k) kd0 (by omega)) rfl)
    refine then_normal ?_
    rcases Bool.eq_false_or_eq_true (((L.getD k kd0).1) == x) with hs8 | hs8
    · skip
      have hs8p : ((L.getD k kd0).1) = x := by simpa using hs8
      refine wp_cond_true (show Act.eval _ _ = .bool true from (congrArg Value.bool hs8)) (wp_seq (wp_region_Y [0, 1, 3, 7, 0, 31, 63, 127, 255] [[], [], [], [], [], [], [], [0]] [[], [], [], [], [], [], [], [1]] [[], [], [], [], [], [], [], [0]] [.k 26 (vp b), .k 27 (vp b), .k 28 (vp b), .c 29 (.slice A L.length c), .k 30 (vi ((k : Int))), .c 31 (.pointer (some ((ad A).add (k * 3)))), .c 32 (.agg #[vi ((L.getD k kd0).1), vi ((L.getD k kd0).2.1), .bool ((L.getD k kd0).2.2)]), .n, .k 5 (.bool true)] (fun ix σ β X => match ix with | 0 => True | 1 => True | 2 => True | 3 => True | 4 => True | 5 => True | 6 => True | 7 => X 1 = eB B4_1 233 #[vi ((L.getD k kd0).1), vi ((L.getD k kd0).2.1), .bool ((L.getD k kd0).2.2)] | _ => True) [1] [3, 5, 6, 7] [(5, 8, 1, 6), (20, 0, 7, 27)] hst7 ?_ ?_ ?_))
      · exact fun ix _ _ _ _ _ _ hs hb hx h => match ix, h with
        | 7, h => by dsimp only at h ⊢; rw [← hx 1 rfl]; exact h
        | 0, _ | 1, _ | 2, _ | 3, _ | 4, _ | 5, _ | 6, _ | _ + 8, _ => trivial
      · refine ⟨?_, ?_, ?_, ?_, trivial⟩
        · exact xs4 rfl id fun cx => run_load1 rfl (by kernel_rfl) (cx.an 2) ((Blk.ext hB cx.upd.to_ext).cell 0)
        · exact xs4 rfl id fun cx => run_indexSlM (e := 233) (m := k) (sz := 3) rfl (by kernel_rfl) (by kernel_rfl) (cx.an 3) (cx.an 4) (by omega) (by omega) (hA.ext cx.upd.to_ext) (by have h_ := flatLen (f := kdC) (sz := 3) kdC_len L; show 0 < (List.flatMap kdC L).length; omega)
        · exact xs4 rfl id fun cx => run_loadElt (f := kdC) (m := k) (sz := 3) (off := 0) (n := 3) rfl (by kernel_rfl) (by kernel_rfl) (cx.an 5) rfl kdC_len (hA.ext cx.upd.to_ext) (getD_some (ts := L) (m := k) kd0 (by omega)) (fun k hk => match k, hk with | 0, _ => rfl | 1, _ => rfl | 2, _ => rfl | k + 3, hk => absurd hk (by omega))
        · refine sv_any rfl rfl fun ρ β W X cx => ?_
          exact dv_store (n := 3) rfl (cx.ou 4) (cx.an 6) (by kernel_rfl) (by kernel_rfl) (by kernel_rfl) cx (cx.init 0 _ rfl) rfl (nle rfl) (by kernel_rfl) rfl rfl rfl (fun σ β' X' hs hb hx => hx)
      intro σ β X W9 hD hst9 fr hfr
      simp only [exq 1 ((dTn (hD 7 lq)))] at hst9
      clear hD; subst hfr; clear σ β X
      refine then_normal (wp_ret (blk_ret (then_ret (then_ret (blk_ret (then_ret ?_))))))
      have hr10 : W9.cell? ⟨B4_1, 0, none⟩ = some (vi ((L.getD k kd0).1)) := (hst9.blk 0 rfl).cell 0
      have hr11 : W9.cell? ⟨B4_1, 1, none⟩ = some (vi ((L.getD k kd0).2.1)) := (hst9.blk 0 rfl).cell 1
      have hr12 : W9.cell? ⟨B4_1, 2, none⟩ = some (.bool ((L.getD k kd0).2.2)) := (hst9.blk 0 rfl).cell 2
      refine bodyPost_ret (v := .tuple #[.agg #[vi ((L.getD k kd0).1), vi ((L.getD k kd0).2.1), .bool ((L.getD k kd0).2.2)], .bool true]) (by simp [results, Tryz.results127, go_sem, hr10, hr11, hr12]) rfl ?_
      have hfr : findR L x = some (L.getD k kd0) := by rw [hkr, findR_at (by omega), if_pos (by omega)]
      have hfd : fdR L x = L.getD k kd0 := by rw [fdR, hfr]; rfl
      exact Ret.of (by rw [hfd, hfr]; rfl) hst9.ext
    have hs8p : ((L.getD k kd0).1) ≠ x := by simpa using hs8
    refine wp_cond_false (show Act.eval _ _ = .bool false from (congrArg Value.bool hs8)) (wp_skip (blk_normal (then_normal (wp_region_P [0, 1, 3] [.k 14 (vi ((k : Int))), tI 15 ((k : Int) + 1) (by omega), .k 6 (vi ((k : Int) + 1))] [(6, 2, 1, 7), (7, 0, 2, 9)] hst7 fun W13 hst13 => ?_))))
    refine then_normal ?_
    refine ⟨L.length - ((k + 1)), by omega, ?_⟩
    have hp14 := hst13.pick [0] (by decide) rfl
    exact ⟨(k + 1), [(gu u3_ 0), vi ((k : Int)), vp b, vp b, vp b, .slice A L.length c, vi ((L.length : Int)), .bool (decide ((k : Int) < (L.length : Int))), vi ((k : Int)), vi ((k : Int) + 1), vp b, vp b, vp b, .slice A L.length c, vi ((k : Int)), .pointer (some ((ad A).add (k * 3))), .pointer (some ((ad A).add (k * 3 + 0))), vi ((L.getD k kd0).1), vi x, .bool (((L.getD k kd0).1) == x), (gu u3_ 20), (gu u3_ 21), (gu u3_ 22), (gu u3_ 23), (gu u3_ 24), (gu u3_ 25), (gu u3_ 26)], by omega, by rw [hkr, findR_at (by omega), if_neg (by omega)], rfl, rfl, hp14⟩
  have hs6p : ¬ ((k : Int) < (L.length : Int)) := by simpa using hs6
  refine wp_cond_false (show Act.eval _ _ = .bool false from (congrArg Value.bool hs6)) (wp_exit (then_exit (then_exit (blk_eq (then_normal (wp_seq (wp_region_Y [0, 1, 3] [[], [0]] [[], [1]] [[], [0]] [.k 33 (.agg #[vi 0, vi 0, .bool false]), .n, .k 5 (.bool false)] (fun ix σ β X => match ix with | 0 => True | 1 => X 1 = eB B4_1 233 #[vi 0, vi 0, .bool false] | _ => True) [1] [1] [(5, 2, 1, 6), (27, 0, 1, 28)] hst5 ?_ ?_ ?_)))))))
  · exact fun ix _ _ _ _ _ _ hs hb hx h => match ix, h with
    | 1, h => by dsimp only at h ⊢; rw [← hx 1 rfl]; exact h
    | 0, _ | _ + 2, _ => trivial
  · refine ⟨?_, trivial⟩
    · refine sv_any rfl rfl fun ρ β W X cx => ?_
      exact dv_store (n := 3) rfl (cx.ou 4) (cx.an 0) (by kernel_rfl) (by kernel_rfl) (by kernel_rfl) cx (cx.init 0 _ rfl) rfl (nle rfl) (by kernel_rfl) rfl rfl rfl (fun σ β' X' hs hb hx => hx)
  intro σ β X W15 hD hst15 fr hfr
  simp only [exq 1 ((dTn (hD 1 lq)))] at hst15
  clear hD; subst hfr; clear σ β X
  refine then_normal (wp_ret ?_)
  have hr16 : W15.cell? ⟨B4_1, 0, none⟩ = some (vi 0) := (hst15.blk 0 rfl).cell 0
  have hr17 : W15.cell? ⟨B4_1, 1, none⟩ = some (vi 0) := (hst15.blk 0 rfl).cell 1
  have hr18 : W15.cell? ⟨B4_1, 2, none⟩ = some (.bool false) := (hst15.blk 0 rfl).cell 2
  refine bodyPost_ret (v := .tuple #[.agg #[vi 0, vi 0, .bool false], .bool false]) (by simp [results, Tryz.results127, go_sem, hr16, hr17, hr18]) rfl ?_
  have hfr : findR L x = none := by rw [hkr, List.drop_of_length_le (by omega)]; rfl
  have hfd : fdR L x = kd0 := by rw [fdR, hfr]; rfl
  exact Ret.of (by rw [hfd, hfr]; rfl) hst15.ext
set_option maxRecDepth 100000 in
set_option maxHeartbeats 2000000 in
theorem rallv_any (b : Nat) (A : Option Addr) (c : Nat) (L : List KD) (x : Int) (w : World) (hB : Blk w b 119 #[.slice A L.length c]) (hA : At w A (L.flatMap kdC)) (hL : L.length ≤ 1000000) :
    Calls Tryz.prog 57 #[.pointer (some ⟨b, 0, none⟩), .int .i64 x] w (Ret (.bool (fdR L x).2.2) w) := by
  go_enter Tryz.func57, Tryz.ntmps57
  have hst0 := St.start w
  refine wp_seq (wp_region_P [0] [.k 4 (.bool false)] [(4, 0, 1, 5)] hst0 fun W1 hst1 => ?_)
  refine then_normal (wp_seq (wp_region_Y [0, 0, 3, 7, 15, 15, 0, 95, 255] [[], [], [], [], [], [], [], [0]] [[], [], [], [], [], [], [0], [1]] [[], [], [], [], [], [], [], [0]] [.k 8 (vp b), .k 9 (vi x), .c 10 (.tuple #[.agg #[vi ((fdR L x).1), vi ((fdR L x).2.1), .bool ((fdR L x).2.2)], .bool ((findR L x).isSome)]), .k 7 (.tuple #[.agg #[vi ((fdR L x).1), vi ((fdR L x).2.1), .bool ((fdR L x).2.2)], .bool ((findR L x).isSome)]), .k 11 (.agg #[vi ((fdR L x).1), vi ((fdR L x).2.1), .bool ((fdR L x).2.2)]), .k 12 (.bool ((findR L x).isSome)), .a 5, .n, .k 6 (.bool ((findR L x).isSome))] (fun ix σ β X => match ix with | 0 => True | 1 => True | 2 => True | 3 => True | 4 => True | 5 => True | 6 => σ 5 = vp (pb (β 5)) ∧ X 0 = eB (pb (β 5)) 233 #[vi 0, vi 0, .bool false] | 7 => X 1 = eB (pb (β 5)) 233 #[vi ((fdR L x).1), vi ((fdR L x).2.1), .bool ((fdR L x).2.2)] | _ => True) [1] [2, 6, 7] [(5, 6, 3, 7), (0, 3, 1, 1), (0, 0, 3, 3), (0, 4, 2, 2)] hst1 ?_ ?_ ?_))
  · exact fun ix _ _ _ _ _ _ hs hb hx h => match ix, h with
    | 6, h => by dsimp only at h ⊢; rw [← hs 5 rfl, ← hb 5 rfl, ← hx 0 rfl]; exact h
    | 7, h => by dsimp only at h ⊢; rw [← hb 5 rfl, ← hx 1 rfl]; exact h
    | 0, _ | 1, _ | 2, _ | 3, _ | 4, _ | 5, _ | _ + 8, _ => trivial
  · refine ⟨?_, ?_, ?_, trivial⟩
    · exact xsc rfl id rfl rfl fun cx => ⟨_, rfind_any _ _ _ L x _ (hB.ext cx.upd.to_ext) (hA.ext cx.upd.to_ext) hL, (map2 (cx.an 0) (cx.an 1))⟩
    · refine sv_any rfl rfl fun ρ β W X cx => ?_
      exact dv_alloc (cs := #[vi 0, vi 0, .bool false]) rfl (by kernel_rfl) rfl rfl (fun σ β' X' hs hb hv hx => ⟨hv, hx⟩)
    · refine sv_any rfl rfl fun ρ β W X cx => ?_
      exact dv_store (n := 3) rfl (dTn (cx.an 6)).1 (cx.an 4) (by kernel_rfl) (by kernel_rfl) (by kernel_rfl) cx (dTn (cx.an 6)).2 rfl (nle rfl) (by kernel_rfl) rfl rfl rfl (fun σ β' X' hs hb hx => by rw [hb 5]; exact hx)
  intro σ β X W2 hD hst2 fr hfr
  obtain ⟨B5_2, hu_B5_2⟩ : ∃ z, pb (β 5) = z := ⟨_, rfl⟩
  simp only [exq 1 ((dTn (hD 7 lq))), hu_B5_2] at hst2
  simp only [ed 5 ((dTn (hD 6 lq)).1), hu_B5_2] at hfr
  clear hD hu_B5_2; subst hfr; clear σ β X
  refine then_normal (wp_seq (wp_region_Z [0, 1, 3] [[], [0]] [.k 13 (.pointer (some ⟨B5_2, 2, none⟩)), .c 14 (.bool ((fdR L x).2.2)), .k 4 (.bool ((fdR L x).2.2))] [0] [1] [(4, 2, 1, 5), (8, 0, 2, 10)] hst2 ?_ fun W3 hst3 => ?_))
  · refine ⟨?_, trivial⟩
    · exact xs4 rfl id fun cx => run_load1 rfl (by kernel_rfl) (cx.an 0) ((cx.bi 0 rfl).cell 2)
  refine then_normal (wp_ret ?_)
  refine bodyPost_ret (v := .bool ((fdR L x).2.2)) (results_tmp Tryz.results57 rfl) rfl ?_
  exact Ret.bool rfl hst3.ext
set_option maxRecDepth 100000 in
set_option maxHeartbeats 2000000 in
theorem rroom15_any (b : Nat) (A : Option Addr) (c : Nat) (L : List KD) (SA : Option Addr) (sc : Nat) (ss : List Int) (rm : Int) (w : World) (hB : Blk w b 119 #[.slice A L.length c]) (hA : At w A (L.flatMap kdC)) (hL : L.length ≤ 1000000) (hS : At w SA (ss.map (Value.int .i64))) (hl : ss.length ≤ 100000) :
    Calls Tryz.prog 55 #[.pointer (some ⟨b, 0, none⟩), .slice SA ss.length sc, .int .i64 rm] w (Ret (.int .i64 (roomR L rm ss)) w) := by
  go_enter Tryz.func55, Tryz.ntmps55
  have hst0 := St.start w
  refine wp_seq (wp_region_P [0] [.k 6 (vi 0)] [(6, 0, 1, 7)] hst0 fun W1 hst1 => ?_)
  refine then_normal (wp_seq (wp_seq (wp_region_P [0] [.k 7 (vi 0)] [(7, 0, 1, 8)] hst1 fun W2 hst2 => ?_)))
  refine then_normal (wp_block ?_)
  refine wp_loopN (fun mz az W => ∃ k : Nat, ∃ u3_ : List Value, k ≤ ss.length ∧ roomR L rm ss = roomR L rm (ss.drop k) ∧ mz = ss.length - k ∧ az = ⟨#[vp b, .slice SA ss.length sc, vi rm, undef, undef, undef, (gu u3_ 0), vi ((k : Int)), (gu u3_ 1), (gu u3_ 2), (gu u3_ 3), (gu u3_ 4), (gu u3_ 5), (gu u3_ 6), (gu u3_ 7), (gu u3_ 8), (gu u3_ 9), (gu u3_ 10), (gu u3_ 11), (gu u3_ 12), (gu u3_ 13), (gu u3_ 14), (gu u3_ 15), (gu u3_ 16), (gu u3_ 17), (gu u3_ 18), (gu u3_ 19), (gu u3_ 20), (gu u3_ 21), (gu u3_ 22), (gu u3_ 23), (gu u3_ 24), (gu u3_ 25), (gu u3_ 26), (gu u3_ 27), (gu u3_ 28)], []⟩ ∧ St w [] [] W) (ss.length - 0) ?_ ?_
  · -- the loop begins
    have hp4 := hst2.pick [] (by decide) rfl
    exact ⟨0, [vi 0, undef, undef, undef, undef, undef, undef, undef, undef, undef, undef, undef, undef, undef, undef, undef, undef, undef, undef, undef, undef, undef, undef, undef, undef, undef, undef, undef, undef], Nat.zero_le _, rfl, rfl, rfl, hp4⟩
  rintro n3 a3 W3 ⟨k, u3_, hk, hkr, rfl, rfl, hst3⟩
  refine wp_seq (wp_seq (wp_region_P [0, 0, 2, 7] [.k 10 (vi ((k : Int))), .k 11 (.slice SA ss.length sc), .k 12 (vi ((ss.length : Int))), .k 13 (.bool (decide ((k : Int) < (ss.length : Int))))] [(10, 0, 4, 14)] hst3 fun W5 hst5 => ?_))
  refine then_normal ?_
  rcases Bool.eq_false_or_eq_true (decide ((k : Int) < (ss.length : Int))) with hs6 | hs6
  · skip
    have hs6p : (k : Int) < (ss.length : Int) := by simpa using hs6
    refine wp_cond_true (show Act.eval _ _ = .bool true from (congrArg Value.bool hs6)) (wp_skip (then_normal (wp_seq (wp_block (wp_seq (wp_region_Y [0, 0, 0, 6, 14, 31, 63, 127, 127, 0, 767, 2047] [[], [], [], [], [], [], [], [], [], [], [0]] [[], [], [], [], [], [], [], [], [], [0], [1]] [[], [], [], [], [], [], [], [], [], [], [0]] [.k 17 (vp b), .k 18 (.slice SA ss.length sc), .k 19 (vi ((k : Int))), .c 20 (.pointer (some ((ad SA).add k))), .c 21 (vi (ss.getD k 0)), .c 22 (.tuple #[.agg #[vi ((fdR L (ss.getD k 0)).1), vi ((fdR L (ss.getD k 0)).2.1), .bool ((fdR L (ss.getD k 0)).2.2)], .bool ((findR L (ss.getD k 0)).isSome)]), .k 16 (.tuple #[.agg #[vi ((fdR L (ss.getD k 0)).1), vi ((fdR L (ss.getD k 0)).2.1), .bool ((fdR L (ss.getD k 0)).2.2)], .bool ((findR L (ss.getD k 0)).isSome)]), .k 23 (.agg #[vi ((fdR L (ss.getD k 0)).1), vi ((fdR L (ss.getD k 0)).2.1), .bool ((fdR L (ss.getD k 0)).2.2)]), .k 24 (.bool ((findR L (ss.getD k 0)).isSome)), .a 8, .n, .k 9 (.bool ((findR L (ss.getD k 0)).isSome))] (fun ix σ β X => match ix with | 0 => True | 1 => True | 2 => True | 3 => True | 4 => True | 5 => True | 6 => True | 7 => True | 8 => True | 9 => σ 8 = vp (pb (β 8)) ∧ X 0 = eB (pb (β 8)) 233 #[vi 0, vi 0, .bool false] | 10 => X 1 = eB (pb (β 8)) 233 #[vi ((fdR L (ss.getD k 0)).1), vi ((fdR L (ss.getD k 0)).2.1), .bool ((fdR L (ss.getD k 0)).2.2)] | _ => True) [1] [3, 4, 5, 9, 10] [(8, 9, 3, 10), (6, 6, 1, 7), (0, 0, 6, 6), (0, 7, 2, 2)] hst5 ?_ ?_ ?_))))))
    · exact fun ix _ _ _ _ _ _ hs hb hx h => match ix, h with
      | 9, h => by dsimp only at h ⊢; rw [← hs 8 rfl, ← hb 8 rfl, ← hx 0 rfl]; exact h
      | 10, h => by dsimp only at h ⊢; rw [← hb 8 rfl, ← hx 1 rfl]; exact h
      | 0, _ | 1, _ | 2, _ | 3, _ | 4, _ | 5, _ | 6, _ | 7, _ | 8, _ | _ + 11, _ => trivial
    · refine ⟨?_, ?_, ?_, ?_, ?_, trivial⟩
      · exact xs4 rfl id fun cx => run_indexSl (e := 3) (m := k) rfl (by kernel_rfl) (by kernel_rfl) (cx.an 1) (cx.an 2) (by omega) (by omega) (hS.ext cx.upd.to_ext) (by simp)
      · exact xs4 rfl id fun cx => run_load1 rfl (by kernel_rfl) (cx.an 3) (At.cellAd (hS.ext cx.upd.to_ext) (getD_int (by omega)))
      · exact xsc rfl id rfl rfl fun cx => ⟨_, rfind_any _ _ _ L (ss.getD k 0) _ (hB.ext cx.upd.to_ext) (hA.ext cx.upd.to_ext) hL, (map2 (cx.an 0) (cx.an 4))⟩
      · refine sv_any rfl rfl fun ρ β W X cx => ?_
        exact dv_alloc (cs := #[vi 0, vi 0, .bool false]) rfl (by kernel_rfl) rfl rfl (fun σ β' X' hs hb hv hx => ⟨hv, hx⟩)
      · refine sv_any rfl rfl fun ρ β W X cx => ?_
        exact dv_store (n := 3) rfl (dTn (cx.an 9)).1 (cx.an 7) (by kernel_rfl) (by kernel_rfl) (by kernel_rfl) cx (dTn (cx.an 9)).2 rfl (nle rfl) (by kernel_rfl) rfl rfl rfl (fun σ β' X' hs hb hx => by rw [hb 8]; exact hx)
    intro σ β X W7 hD hst7 fr hfr
    obtain ⟨B8_7, hu_B8_7⟩ : ∃ z, pb (β 8) = z := ⟨_, rfl⟩
    simp only [exq 1 ((dTn (hD 10 lq))), hu_B8_7] at hst7
    simp only [ed 8 ((dTn (hD 9 lq)).1), hu_B8_7] at hfr
    clear hD hu_B8_7; subst hfr; clear σ β X
    refine then_normal (wp_seq (wp_region_Z [0, 1, 3, 7, 3, 31, 63] [[], [], [], [0]] [.k 25 (.bool ((findR L (ss.getD k 0)).isSome)), .k 26 (.bool ((findR L (ss.getD k 0)).isSome)), .z 27 ((findR L (ss.getD k 0)).isSome) (.pointer (some ⟨B8_7, 1, none⟩)), .y 28 ((findR L (ss.getD k 0)).isSome) (vi ((fdR L (ss.getD k 0)).2.1)), .z 29 ((findR L (ss.getD k 0)).isSome) (vi rm), .z 30 ((findR L (ss.getD k 0)).isSome) (.bool (decide (rm ≤ (fdR L (ss.getD k 0)).2.1))), tA 31 ((findR L (ss.getD k 0)).isSome) (decide (rm ≤ (fdR L (ss.getD k 0)).2.1))] [0] [3] [(25, 0, 7, 32)] hst7 ?_ fun W8 hst8 => ?_))
    · refine ⟨?_, trivial⟩
      · exact m2 rfl (fun _ _ _ h => h) (fun cx => (cx.an 1)) fun cx hq => run_load1 rfl (by kernel_rfl) (mbv (cx.an 2) hq) ((cx.bi 0 rfl).cell 1)
    refine then_normal ?_
    rcases Bool.eq_false_or_eq_true (((findR L (ss.getD k 0)).isSome) && (decide (rm ≤ (fdR L (ss.getD k 0)).2.1))) with hs9 | hs9
    · skip
      have hs9p := hs9
      simp only [zB] at hs9p
      obtain ⟨hs9p1, hs9p2⟩ := hs9p
      refine wp_cond_true (show Act.eval _ _ = .bool true from (congrArg Value.bool hs9)) (wp_seq (wp_region_Z [0, 0, 3, 7, 15] [] [.k 32 (.slice SA ss.length sc), .k 33 (vi ((k : Int))), .c 34 (.pointer (some ((ad SA).add k))), .c 35 (vi (ss.getD k 0)), .k 6 (vi (ss.getD k 0))] [0] [2, 3] [(6, 4, 1, 7), (25, 0, 4, 29)] hst8 ?_ fun W10 hst10 => ?_))
      · refine ⟨?_, ?_, trivial⟩
        · exact xs4 rfl id fun cx => run_indexSl (e := 3) (m := k) rfl (by kernel_rfl) (by kernel_rfl) (cx.an 0) (cx.an 1) (by omega) (by omega) (hS.ext cx.upd.to_ext) (by simp)
        · exact xs4 rfl id fun cx => run_load1 rfl (by kernel_rfl) (cx.an 2) (At.cellAd (hS.ext cx.upd.to_ext) (getD_int (by omega)))
      refine then_normal (wp_ret (blk_ret (then_ret (then_ret (blk_ret (then_ret ?_))))))
      refine bodyPost_ret (v := vi (ss.getD k 0)) (results_tmp Tryz.results55 rfl) rfl ?_
      exact Ret.of (by rw [hkr, roomR_at (by omega), hs9]; rfl) hst10.ext
    have hs9p := hs9
    simp only [zB] at hs9p
    refine wp_cond_false (show Act.eval _ _ = .bool false from (congrArg Value.bool hs9)) (wp_skip (blk_normal (then_normal (wp_region_P [0, 1, 3] [.k 14 (vi ((k : Int))), tI 15 ((k : Int) + 1) (by omega), .k 7 (vi ((k : Int) + 1))] [(7, 2, 1, 8), (6, 0, 2, 8)] hst8 fun W11 hst11 => ?_))))
    refine then_normal ?_
    refine ⟨ss.length - ((k + 1)), by omega, ?_⟩
    have hp12 := hst11.pick [] (by decide) rfl
    exact ⟨(k + 1), [(gu u3_ 0), vp B8_7, .bool ((findR L (ss.getD k 0)).isSome), vi ((k : Int)), .slice SA ss.length sc, vi ((ss.length : Int)), .bool (decide ((k : Int) < (ss.length : Int))), vi ((k : Int)), vi ((k : Int) + 1), .tuple #[.agg #[vi ((fdR L (ss.getD k 0)).1), vi ((fdR L (ss.getD k 0)).2.1), .bool ((fdR L (ss.getD k 0)).2.2)], .bool ((findR L (ss.getD k 0)).isSome)], vp b, .slice SA ss.length sc, vi ((k : Int)), .pointer (some ((ad SA).add k)), vi (ss.getD k 0), .tuple #[.agg #[vi ((fdR L (ss.getD k 0)).1), vi ((fdR L (ss.getD k 0)).2.1), .bool ((fdR L (ss.getD k 0)).2.2)], .bool ((findR L (ss.getD k 0)).isSome)], .agg #[vi ((fdR L (ss.getD k 0)).1), vi ((fdR L (ss.getD k 0)).2.1), .bool ((fdR L (ss.getD k 0)).2.2)], .bool ((findR L (ss.getD k 0)).isSome), .bool ((findR L (ss.getD k 0)).isSome), .bool ((findR L (ss.getD k 0)).isSome), mb ((findR L (ss.getD k 0)).isSome) (.pointer (some ⟨B8_7, 1, none⟩)), mb ((findR L (ss.getD k 0)).isSome) (vi ((fdR L (ss.getD k 0)).2.1)), mb ((findR L (ss.getD k 0)).isSome) (vi rm), mb ((findR L (ss.getD k 0)).isSome) (.bool (decide (rm ≤ (fdR L (ss.getD k 0)).2.1))), .bool (((findR L (ss.getD k 0)).isSome) && (decide (rm ≤ (fdR L (ss.getD k 0)).2.1))), (gu u3_ 25), (gu u3_ 26), (gu u3_ 27), (gu u3_ 28)], by omega, by rw [hkr, roomR_at (by omega), hs9]; rfl, rfl, rfl, hp12⟩
  have hs6p : ¬ ((k : Int) < (ss.length : Int)) := by simpa using hs6
  refine wp_cond_false (show Act.eval _ _ = .bool false from (congrArg Value.bool hs6)) (wp_exit (then_exit (then_exit (blk_eq (then_normal (wp_seq (wp_region_P [0] [.k 6 (vi (-1))] [(6, 0, 1, 7)] hst5 fun W13 hst13 => ?_)))))))
  refine then_normal (wp_ret ?_)
  refine bodyPost_ret (v := vi (-1)) (results_tmp Tryz.results55 rfl) rfl ?_
  exact Ret.of (by rw [hkr, List.drop_of_length_le (by omega)]; rfl) hst13.ext
end
end Go.Proofs.YtjnplglnnamfdaaGreatDoor
namespace Go.Proofs.YtjnplglnnamfdaaGreatDoor
section
open Go.RowKit
set_option linter.unusedVariables false
set_option linter.unusedSimpArgs false
theorem own_neN {w : World} {g : Nat} {t : TypeId} {cs : Array Value} {base sz : Nat} {e : TypeId} {v : Value} {n : Nat} {xs : List Value} (h : w.ownsRow base e sz v n xs) (hb : Blk w g t cs) (hne : e ≠ t) : v.ownBlock ≠ some g := by
  rcases h.2 with ⟨rfl, _⟩ | ⟨g', cap, cur, rfl, _, hh, _⟩
  · simp [Value.ownBlock]
  · intro he
    have : g' = g := by simpa [Value.ownBlock] using he
    subst this
    rw [show w.heap[g']? = _ from hb] at hh
    simp at hh
    exact hne hh.2.symm
def RMAt (W : World) (b : Nat) (r : Option Nat) (L : List KD) : Prop :=
  ∃ A c, Blk W b 119 #[.slice A L.length c] ∧ W.ownsRow 0 233 3 (.slice A L.length c) L.length (L.flatMap kdC) ∧ (Value.slice A L.length c).ownBlock = r
def eRM (b : Nat) (r : Option Nat) (L : List KD) : Ent := ⟨b :: r.toList, fun W => RMAt W b r L⟩
theorem rO_eRM (b : Nat) (r : Option Nat) (L : List KD) : rO (eRM b r L) = r := by cases r <;> rfl
theorem eRM_loc (b : Nat) (r : Option Nat) (L : List KD) : (eRM b r L).loc := fun W W' hk h => by
  obtain ⟨A, c, h1, h3, h4⟩ := h
  refine ⟨A, c, (hk b (by simp [eRM])).trans h1, ?_, h4⟩
  have := eO_loc 233 3 (.slice A L.length c) L.length (L.flatMap kdC) W W' (fun k hk' => hk k (by
    have h5 : (Value.slice A L.length c).ownBlock = some k := by simpa [eO] using hk'
    rw [h4] at h5
    simp [eRM, h5])) h3
  exact this
theorem RMAt.fresh {W : World} {b : Nat} (h : Blk W b 119 #[.slice none 0 0]) : RMAt W b none [] := ⟨none, 0, h, World.ownsRow_nil _ _ _ _, rfl⟩
def RMPost (b : Nat) (r : Option Nat) (L : List KD) (w w' : World) : Prop := ∃ r', RMAt w' b r' L ∧ Upd (b :: r.toList) w w' ∧ ∀ k, r' = some k → r = some k ∨ w.heap.size ≤ k
theorem St.lentRM {w : World} {b : Nat} {A : Option Addr} {n c : Nat} {xs : List Value} (h1 : Blk w b 119 #[.slice A n c]) (h2 : w.ownsRow 0 233 3 (.slice A n c) n xs) :
    St w (b :: (Value.slice A n c).ownBlock.toList) [eB b 119 #[.slice A n c], eO 233 3 (.slice A n c) n xs] w := by
  have hne := own_neN h2 h1 (by decide)
  refine ⟨Upd.refl _ _, fun x hx => ?_, List.pairwise_pair.2 fun k hk hk' => ?_⟩
  · simp only [List.mem_cons, List.not_mem_nil, or_false] at hx
    rcases hx with rfl | rfl
    · exact ⟨h1, eB_loc _ _ _, fun k hk => ⟨.inl (by simp [eB] at hk; simp [hk]), by simp [eB] at hk; subst hk; exact h1.lt⟩⟩
    · exact ⟨h2, eO_loc _ _ _ _ _, fun k hk => ⟨.inl (List.mem_cons_of_mem _ hk), own0_block h2 k (by simpa [eO] using hk)⟩⟩
  · have e1 : k = b := by simpa [eB] using hk
    subst e1
    exact hne (by simpa [eO] using hk')
theorem St.rm {w W : World} {b : Nat} {r : Option Nat} {A : Option Addr} {c : Nat} {L : List KD} (h : St w (b :: r.toList) [eB b 119 #[.slice A L.length c], eO 233 3 (.slice A L.length c) L.length (L.flatMap kdC)] W) : RMPost b r L w W := by
  have h1 := h.ok _ (List.mem_cons_self ..)
  have h2 := h.ok (eO 233 3 (.slice A L.length c) L.length (L.flatMap kdC)) (by simp)
  have hB : Blk W b 119 #[.slice A L.length c] := h1.holds
  have hO : W.ownsRow 0 233 3 (.slice A L.length c) L.length (L.flatMap kdC) := h2.holds
  refine ⟨_, ⟨A, c, hB, hO, rfl⟩, h.upd, fun k hk => ?_⟩
  have hne := own_neN hO hB (by decide)
  rcases (h2.own k (by simpa [eO] using hk)).1 with h3 | h3
  · rcases List.mem_cons.1 h3 with e | h3
    · subst e; exact absurd hk hne
    · exact .inl (by simpa using h3)
  · exact .inr h3
theorem St.lentO {w : World} {b : Nat} {r : Option Nat} {L : List KD} (h : RMAt w b r L) : St w (b :: r.toList) [eRM b r L] w := by
  refine ⟨Upd.refl _ _, fun x hx => ?_, List.pairwise_singleton _ _⟩
  rw [List.mem_singleton] at hx
  subst hx
  refine ⟨h, eRM_loc _ _ _, fun k hk => ⟨.inl hk, ?_⟩⟩
  obtain ⟨A, c, h1, h3, h4⟩ := h
  rcases List.mem_cons.1 hk with e | hk
  · rw [e]; exact h1.lt
  · exact own0_block h3 k (by rw [h4]; simpa using hk)
section
variable {P : Program} {ops : Array Oper} {L : List Nat} {a0 : Act} {w0 : World} {bor : List Nat} {X0 : List Ent} {us cr kl : List (List Nat)}
  {D : Nat → (Tmp → Value) → (Tmp → Value) → (Nat → Ent) → Prop} {i : Nat} {o : Oper} {ρ : Operand → Value} {β : Tmp → Value} {W : World} {X : Nat → Ent}
theorem post_rm {v : Value} {W' : World} {b q q' : Nat} {r : Option Nat} {l : List KD} (hX : (X q).fp = b :: r.toList) (hc : atV cr i = [q']) (hk : atV kl i = [q]) (hp : RMPost b r l W W')
    (hD : ∀ (σ β' : Tmp → Value) (X' : Nat → Ent), (∀ t, o.dst ≠ some t → σ t = ρ (.tmp t)) → (∀ t, o.dst ≠ some t → β' t = β t) → (∀ d, o.dst = some d → σ d = v ∧ β' d = v) → X' q' = eRM b (rO (X' q')) l → D i σ β' X') : PostV cr kl D i o.dst ρ β W X v W' := by
  obtain ⟨r', hs, hu, hr⟩ := hp
  have hlt : ∀ k ∈ (eRM b r' l).fp, k < W'.heap.size := fun k hk' => by
    obtain ⟨A, c, h1, h3, h4⟩ := hs
    simp only [eRM, List.mem_cons, Option.mem_toList] at hk'
    rcases hk' with rfl | hk'
    · exact h1.lt
    · exact own0_block h3 k (by rw [h4]; exact hk')
  refine ⟨[eRM b r' l], by rw [hc]; rfl, ⟨?_, fun e he => ?_, List.pairwise_singleton _ _⟩, fun σ β' X' hs' hv hb' hbv hx' hN => hD σ β' X' hs' hb' (fun d hd => ⟨hv d hd, hbv d hd⟩) ?_⟩
  · rw [hk]
    simp only [List.flatMap_cons, List.flatMap_nil, List.append_nil, hX]
    exact hu
  · rw [List.mem_singleton] at he
    subst he
    refine ⟨hs, eRM_loc _ _ _, fun k hk' => ⟨?_, hlt k hk'⟩⟩
    rw [hk]
    simp only [List.flatMap_cons, List.flatMap_nil, List.append_nil, hX]
    simp only [eRM, List.mem_cons, Option.mem_toList] at hk'
    rcases hk' with rfl | hk'
    · exact .inl (by simp)
    · rcases hr k hk' with h | h
      · exact .inl (by simp [h])
      · exact .inr h
  · rw [hc] at hN
    have h1 := (List.cons.inj hN).1
    rw [h1, rO_eRM]
end
theorem Tryz.infoKnown : (Tryz.prog.info? 233).map (fun i => (i.zero, i.size, i.bytes)) = some (some (.agg #[.int .i64 0, .int .i64 0, .bool false]), 3, 24) := by kernel_rfl
theorem kd_snoc (K : List KD) (k : KD) : K.flatMap kdC ++ kdC k = (K ++ [k]).flatMap kdC := by simp
def chL (L : List KD) (x : Int) : List KD := L.filter fun k => k.1 != x
theorem chL_yes {L : List KD} {x : Int} {k : Nat} (h : k < L.length) (h2 : (L.getD k kd0).1 ≠ x) : chL (L.take (k + 1)) x = chL (L.take k) x ++ [L.getD k kd0] := by
  rw [List.getD_eq_getElem?_getD, List.getElem?_eq_getElem h, Option.getD_some] at h2 ⊢
  rw [chL, List.take_add_one, List.getElem?_eq_getElem h, List.filter_append, chL]
  simp [h2]
theorem chL_no {L : List KD} {x : Int} {k : Nat} (h : k < L.length) (h2 : (L.getD k kd0).1 = x) : chL (L.take (k + 1)) x = chL (L.take k) x := by
  rw [List.getD_eq_getElem?_getD, List.getElem?_eq_getElem h, Option.getD_some] at h2
  rw [chL, List.take_add_one, List.getElem?_eq_getElem h, List.filter_append, chL]
  simp [h2]
def RMDone (b : Nat) (r : Option Nat) (L : List KD) (w : World) (e : Ending) (w' : World) : Prop := e = .returned (.tuple #[]) ∧ RMPost b r L w w'
set_option maxRecDepth 100000 in
set_option maxHeartbeats 4000000 in
theorem rch_open (b : Nat) (A : Option Addr) (c : Nat) (L : List KD) (x : Int) (w : World) (hB : Blk w b 119 #[.slice A L.length c]) (hO : w.ownsRow 0 233 3 (.slice A L.length c) L.length (L.flatMap kdC)) (hL : L.length ≤ 1000000) :
    Calls Tryz.prog 53 #[.pointer (some ⟨b, 0, none⟩), .int .i64 x] w (RMDone b (Value.slice A L.length c).ownBlock (chL L x) w) := by
  have st0 := St.lentRM hB hO
  go_enter Tryz.func53, Tryz.ntmps53
  have hst0 := st0
  refine wp_seq (wp_region_Y [0, 1] [] [[2]] [] [.a 6, .a 4] (fun ix σ β X => match ix with | 0 => σ 6 = .slice ((some ⟨(pb' (β 6)), 0, none⟩)) 0 0 ∧ X 2 = eO 233 3 (.slice ((some ⟨(pb' (β 6)), 0, none⟩)) 0 0) 0 ([]) | 1 => σ 4 = .slice ((some ⟨(pb' (β 6)), 0, none⟩)) 0 0 | _ => True) [0, 1, 2] [0, 1] [(4, 1, 1, 5), (1, 0, 1, 2)] hst0 ?_ ?_ ?_)
  · exact fun ix _ _ _ _ _ _ hs hb hx h => match ix, h with
    | 0, h => by dsimp only at h ⊢; rw [← hs 6 rfl, ← hb 6 rfl, ← hx 2 rfl]; exact h
    | 1, h => by dsimp only at h ⊢; rw [← hs 4 rfl, ← hb 6 rfl]; exact h
    | _ + 2, _ => trivial
  · refine ⟨?_, ?_, trivial⟩
    · refine sv_any rfl rfl fun ρ β W X cx => ?_
      exact dv_litN (e := 233) (sz := 3) (xs := []) rfl (by simp [go_sem]) rfl (by decide) rfl rfl (fun σ β' X' hs hb hv hx => ⟨hv, hx⟩)
    · exact sv rfl rfl rfl rfl rfl _ (fun _ _ _ h => h) (fun β β' h => by rw [h 6 (by decide)]) fun ρ β W X cx => run_assign' rfl (dTn (cx.an 0)).1
  intro σ β X W1 hD hst1 fr hfr
  obtain ⟨B6_1, hu_B6_1⟩ : ∃ z, pb' (β 6) = z := ⟨_, rfl⟩
  simp only [exq 2 ((dTn (hD 0 lq)).2), hu_B6_1] at hst1
  simp only [ed 6 ((dTn (hD 0 lq)).1), ed 4 ((dTn (hD 1 lq))), hu_B6_1] at hfr
  clear hD hu_B6_1; subst hfr; clear σ β X
  refine then_normal (wp_seq (wp_seq (wp_region_P [0] [.k 5 (vi 0)] [(5, 0, 1, 6)] hst1 fun W2 hst2 => ?_)))
  refine then_normal (wp_block ?_)
  refine wp_loopN (fun mz az W => ∃ k : Nat, ∃ m : Nat, ∃ KA : Option Addr, ∃ KC : Nat, ∃ K : List KD, ∃ u3_ : List Value, k ≤ L.length ∧ K.length = m ∧ K = chL (L.take k) x ∧ m ≤ k ∧ mz = L.length - k ∧ az = ⟨#[vp b, vi x, undef, undef, .slice KA m KC, vi ((k : Int)), .slice ((some ⟨B6_1, 0, none⟩)) 0 0, (gu u3_ 0), (gu u3_ 1), (gu u3_ 2), (gu u3_ 3), (gu u3_ 4), (gu u3_ 5), (gu u3_ 6), (gu u3_ 7), (gu u3_ 8), (gu u3_ 9), (gu u3_ 10), (gu u3_ 11), (gu u3_ 12), (gu u3_ 13), (gu u3_ 14), (gu u3_ 15), (gu u3_ 16), (gu u3_ 17), (gu u3_ 18), (gu u3_ 19), (gu u3_ 20), (gu u3_ 21), (gu u3_ 22), (gu u3_ 23), (gu u3_ 24), (gu u3_ 25), (gu u3_ 26), (gu u3_ 27), (gu u3_ 28), undef, undef, undef, undef], []⟩ ∧ St w (b :: (Value.slice A L.length c).ownBlock.toList) [eB b 119 #[.slice A L.length c], eO 233 3 (.slice A L.length c) L.length (L.flatMap kdC), eO 233 3 (.slice KA m KC) m (K.flatMap kdC)] W) (L.length - 0) ?_ ?_
  · -- the loop begins
    have hp4 := hst2.pick [0, 1, 2] (by decide) rfl
    exact ⟨0, 0, (some ⟨B6_1, 0, none⟩), 0, [], [undef, undef, undef, undef, undef, undef, undef, undef, undef, undef, undef, undef, undef, undef, undef, undef, undef, undef, undef, undef, undef, undef, undef, undef, undef, undef, undef, undef, undef], by omega, rfl, rfl, by omega, rfl, rfl, hp4⟩
  rintro n3 a3 W3 ⟨k, m, KA, KC, K, u3_, hk, hkm, hK, hmk, rfl, rfl, hst3⟩
  refine wp_seq (wp_seq (wp_region_Z [0, 0, 2, 6, 14, 30, 63] [[], [], [], [], [0]] [.k 7 (vi ((k : Int))), .k 8 (vp b), .k 9 (vp b), .k 10 (vp b), .c 11 (.slice A L.length c), .k 12 (vi ((L.length : Int))), .k 13 (.bool (decide ((k : Int) < (L.length : Int))))] [0, 1, 2] [4] [(7, 0, 7, 14)] hst3 ?_ fun W5 hst5 => ?_))
  · refine ⟨?_, trivial⟩
    · exact xs4 rfl id fun cx => run_load1 rfl (by kernel_rfl) (cx.an 3) ((cx.bi 0 rfl).cell 0)
  refine then_normal ?_
  rcases Bool.eq_false_or_eq_true (decide ((k : Int) < (L.length : Int))) with hs6 | hs6
  · skip
    have hs6p : (k : Int) < (L.length : Int) := by simpa using hs6
    refine wp_cond_true (show Act.eval _ _ = .bool true from (congrArg Value.bool hs6)) (wp_skip (then_normal (wp_seq (wp_block (wp_seq (wp_region_Z [0, 1, 3, 7, 0, 31, 63, 127, 0, 511] [[], [], [], [0], [], [1], [], [1]] [.k 16 (vp b), .k 17 (vp b), .k 18 (vp b), .c 19 (.slice A L.length c), .k 20 (vi ((k : Int))), .c 21 (.pointer (some ((ad A).add (k * 3)))), .c 22 (.pointer (some ((ad A).add (k * 3 + 0)))), .c 23 (vi ((L.getD k kd0).1)), .k 24 (vi x), .k 25 (.bool (((L.getD k kd0).1) != x))] [0, 1, 2] [3, 5, 6, 7] [(16, 0, 10, 26)] hst5 ?_ fun W7 hst7 => ?_))))))
    · refine ⟨?_, ?_, ?_, ?_, trivial⟩
      · exact xs4 rfl id fun cx => run_load1 rfl (by kernel_rfl) (cx.an 2) ((cx.bi 0 rfl).cell 0)
      · exact xs4 rfl id fun cx => run_indexSlM (e := 233) (m := k) (sz := 3) rfl (by kernel_rfl) (by kernel_rfl) (cx.an 3) (cx.an 4) (by omega) (by omega) (At.of_ownN (cx.ri 1 rfl)) (by have h_ := flatLen (f := kdC) (sz := 3) kdC_len L; show 0 < (List.flatMap kdC L).length; omega)
      · exact xs4 rfl id fun cx => run_fieldAd rfl (by kernel_rfl) (cx.an 5)
      · exact xs4 rfl id fun cx => run_load1 rfl (by kernel_rfl) (cx.an 6) (At.eltc (f := kdC) (k := 0) kdC_len (At.of_ownN (cx.ri 1 rfl)) (getD_some (ts := L) (m := k) kd0 (by omega)) rfl)
    refine then_normal ?_
    rcases Bool.eq_false_or_eq_true (((L.getD k kd0).1) != x) with hs8 | hs8
    · skip
      have hs8p : ((L.getD k kd0).1) ≠ x := by simpa using hs8
      refine wp_cond_true (show Act.eval _ _ = .bool true from (congrArg Value.bool hs8)) (wp_region_Y [0, 0, 2, 6, 14, 0, 62, 126, 254, 511, 1023] [[], [], [], [], [0], [], [1], [1], [], [3, 2]] [[], [], [], [], [], [], [], [], [3], [4]] [[], [], [], [], [], [], [], [], [], [2]] [.k 26 (.slice KA m KC), .k 27 (vp b), .k 28 (vp b), .k 29 (vp b), .c 30 (.slice A L.length c), .k 31 (vi ((k : Int))), .c 32 (.pointer (some ((ad A).add (k * 3)))), .c 33 (.agg #[vi ((L.getD k kd0).1), vi ((L.getD k kd0).2.1), .bool ((L.getD k kd0).2.2)]), .a 34, .a 35, .a 4] (fun ix σ β X => match ix with | 0 => True | 1 => True | 2 => True | 3 => True | 4 => True | 5 => True | 6 => True | 7 => True | 8 => σ 34 = .slice ((some ⟨(pb' (β 34)), 0, none⟩)) 1 1 ∧ X 3 = eO 233 3 (.slice ((some ⟨(pb' (β 34)), 0, none⟩)) 1 1) 1 (kdC (L.getD k kd0)) | 9 => σ 35 = .slice (sA (β 35)) (m + 1) (sC (β 35)) ∧ X 4 = eO 233 3 (.slice (sA (β 35)) (m + 1) (sC (β 35))) (m + 1) ((K ++ [L.getD k kd0]).flatMap kdC) | 10 => σ 4 = .slice (sA (β 35)) (m + 1) (sC (β 35)) | _ => True) [0, 1, 3, 4] [4, 6, 7, 8, 9, 10] [(4, 10, 1, 5), (21, 0, 10, 31)] hst7 ?_ ?_ ?_)
      · exact fun ix _ _ _ _ _ _ hs hb hx h => match ix, h with
        | 8, h => by dsimp only at h ⊢; rw [← hs 34 rfl, ← hb 34 rfl, ← hx 3 rfl]; exact h
        | 9, h => by dsimp only at h ⊢; rw [← hs 35 rfl, ← hb 35 rfl, ← hx 4 rfl]; exact h
        | 10, h => by dsimp only at h ⊢; rw [← hs 4 rfl, ← hb 35 rfl]; exact h
        | 0, _ | 1, _ | 2, _ | 3, _ | 4, _ | 5, _ | 6, _ | 7, _ | _ + 11, _ => trivial
      · refine ⟨?_, ?_, ?_, ?_, ?_, ?_, trivial⟩
        · exact xs4 rfl id fun cx => run_load1 rfl (by kernel_rfl) (cx.an 3) ((cx.bi 0 rfl).cell 0)
        · exact xs4 rfl id fun cx => run_indexSlM (e := 233) (m := k) (sz := 3) rfl (by kernel_rfl) (by kernel_rfl) (cx.an 4) (cx.an 5) (by omega) (by omega) (At.of_ownN (cx.ri 1 rfl)) (by have h_ := flatLen (f := kdC) (sz := 3) kdC_len L; show 0 < (List.flatMap kdC L).length; omega)
        · exact xs4 rfl id fun cx => run_loadElt (f := kdC) (m := k) (sz := 3) (off := 0) (n := 3) rfl (by kernel_rfl) (by kernel_rfl) (cx.an 6) rfl kdC_len (At.of_ownN (cx.ri 1 rfl)) (getD_some (ts := L) (m := k) kd0 (by omega)) (fun k hk => match k, hk with | 0, _ => rfl | 1, _ => rfl | 2, _ => rfl | k + 3, hk => absurd hk (by omega))
        · refine sv_any rfl rfl fun ρ β W X cx => ?_
          have fF33 : ρ (.tmp 33) = .agg #[vi ((L.getD k kd0).1), vi ((L.getD k kd0).2.1), .bool ((L.getD k kd0).2.2)] := (cx.an 7)
          exact dv_litN (e := 233) (sz := 3) (xs := [vi ((L.getD k kd0).1), vi ((L.getD k kd0).2.1), .bool ((L.getD k kd0).2.2)]) rfl (by simp [go_sem, fF33]) rfl (by decide) rfl rfl (fun σ β' X' hs hb hv hx => ⟨hv, hx⟩)
        · refine sv_any rfl rfl fun ρ β W X cx => ?_
          obtain ⟨i0, hi0, hz0, hz1, hz2⟩ := info_parts Tryz.infoKnown
          refine dv_appendN (n := m) (m := 1) (nm := m + 1) (sz := 3) (xs := K.flatMap kdC) (news := kdC (L.getD k kd0)) (xs' := (K ++ [L.getD k kd0]).flatMap kdC) rfl (ty := 117) rfl (by kernel_rfl) hi0 hz0 hz1 hz2 rfl (by decide) (cx.an 0) cx (cx.init 2 _ rfl) rfl (dTn (cx.an 8)).1 (by rfl) (At.of_ownN (cx.row (dTn (cx.an 8)).2 rfl)) (by simp [kdC, Value.oneCell']) (by simp only [maxLen]; omega) (by omega) rfl rfl rfl (by omega) (kd_snoc _ _) (fun σ β' X' hs hb hv hx => ?_)
          exact ⟨hv, hx⟩
        · exact sv rfl rfl rfl rfl rfl _ (fun _ _ _ h => h) (fun β β' h => by rw [h 35 (by decide)]) fun ρ β W X cx => run_assign' rfl (dTn (cx.an 9)).1
      intro σ β X W9 hD hst9 fr hfr
      obtain ⟨B34_9, hu_B34_9⟩ : ∃ z, pb' (β 34) = z := ⟨_, rfl⟩
      obtain ⟨A35_9, hu_A35_9⟩ : ∃ z, sA (β 35) = z := ⟨_, rfl⟩
      obtain ⟨c35_9, hu_c35_9⟩ : ∃ z, sC (β 35) = z := ⟨_, rfl⟩
      simp only [exq 3 ((dTn (hD 8 lq)).2), exq 4 ((dTn (hD 9 lq)).2), hu_B34_9, hu_A35_9, hu_c35_9] at hst9
      simp only [ed 34 ((dTn (hD 8 lq)).1), ed 35 ((dTn (hD 9 lq)).1), ed 4 ((dTn (hD 10 lq))), hu_B34_9, hu_A35_9, hu_c35_9] at hfr
      clear hD hu_B34_9 hu_A35_9 hu_c35_9; subst hfr; clear σ β X
      refine blk_normal (then_normal (wp_region_P [0, 1, 3] [.k 14 (vi ((k : Int))), tI 15 ((k : Int) + 1) (by omega), .k 5 (vi ((k : Int) + 1))] [(5, 2, 1, 6), (8, 0, 2, 10)] hst9 fun W10 hst10 => ?_))
      refine then_normal ?_
      refine ⟨L.length - ((k + 1)), by omega, ?_⟩
      have hp11 := hst10.pick [0, 1, 3] (by decide) rfl
      exact ⟨(k + 1), (m + 1), A35_9, c35_9, (K ++ [L.getD k kd0]), [vi ((k : Int)), vp b, vp b, vp b, .slice A L.length c, vi ((L.length : Int)), .bool (decide ((k : Int) < (L.length : Int))), vi ((k : Int)), vi ((k : Int) + 1), vp b, vp b, vp b, .slice A L.length c, vi ((k : Int)), .pointer (some ((ad A).add (k * 3))), .pointer (some ((ad A).add (k * 3 + 0))), vi ((L.getD k kd0).1), vi x, .bool (((L.getD k kd0).1) != x), .slice KA m KC, vp b, vp b, vp b, .slice A L.length c, vi ((k : Int)), .pointer (some ((ad A).add (k * 3))), .agg #[vi ((L.getD k kd0).1), vi ((L.getD k kd0).2.1), .bool ((L.getD k kd0).2.2)], .slice ((some ⟨B34_9, 0, none⟩)) 1 1, .slice A35_9 (m + 1) c35_9], by omega, by rw [List.length_append, hkm]; rfl, by rw [chL_yes (by omega) (by omega), hK], by omega, rfl, rfl, hp11⟩
    have hs8p : ((L.getD k kd0).1) = x := by simpa using hs8
    refine wp_cond_false (show Act.eval _ _ = .bool false from (congrArg Value.bool hs8)) (wp_skip (blk_normal (then_normal (wp_region_P [0, 1, 3] [.k 14 (vi ((k : Int))), tI 15 ((k : Int) + 1) (by omega), .k 5 (vi ((k : Int) + 1))] [(5, 2, 1, 6), (8, 0, 2, 10)] hst7 fun W12 hst12 => ?_))))
    refine then_normal ?_
    refine ⟨L.length - ((k + 1)), by omega, ?_⟩
    have hp13 := hst12.pick [0, 1, 2] (by decide) rfl
    exact ⟨(k + 1), m, KA, KC, K, [vi ((k : Int)), vp b, vp b, vp b, .slice A L.length c, vi ((L.length : Int)), .bool (decide ((k : Int) < (L.length : Int))), vi ((k : Int)), vi ((k : Int) + 1), vp b, vp b, vp b, .slice A L.length c, vi ((k : Int)), .pointer (some ((ad A).add (k * 3))), .pointer (some ((ad A).add (k * 3 + 0))), vi ((L.getD k kd0).1), vi x, .bool (((L.getD k kd0).1) != x), (gu u3_ 19), (gu u3_ 20), (gu u3_ 21), (gu u3_ 22), (gu u3_ 23), (gu u3_ 24), (gu u3_ 25), (gu u3_ 26), (gu u3_ 27), (gu u3_ 28)], by omega, hkm, by rw [chL_no (by omega) (by omega)]; exact hK, by omega, rfl, rfl, hp13⟩
  have hs6p : ¬ ((k : Int) < (L.length : Int)) := by simpa using hs6
  refine wp_cond_false (show Act.eval _ _ = .bool false from (congrArg Value.bool hs6)) (wp_exit (then_exit (then_exit (blk_eq (then_normal (wp_region_Y [0, 0, 3, 7, 15] [[], [], [], [], [0]] [[], [], [], [], [3]] [[], [], [], [], [0]] [.k 36 (vp b), .k 37 (.slice KA m KC), .k 38 (vp b), .k 39 (vp b), .n] (fun ix σ β X => match ix with | 0 => True | 1 => True | 2 => True | 3 => True | 4 => X 3 = eB b 119 #[.slice KA m KC] | _ => True) [1, 2, 3] [4] [(36, 0, 4, 40)] hst5 ?_ ?_ ?_))))))
  · exact fun ix _ _ _ _ _ _ hs hb hx h => match ix, h with
    | 4, h => by dsimp only at h ⊢; rw [← hx 3 rfl]; exact h
    | 0, _ | 1, _ | 2, _ | 3, _ | _ + 5, _ => trivial
  · refine ⟨?_, trivial⟩
    · refine sv_any rfl rfl fun ρ β W X cx => ?_
      exact dv_store (n := 1) rfl (cx.an 3) (cx.an 1) (by kernel_rfl) (by kernel_rfl) (by kernel_rfl) cx (cx.init 0 _ rfl) rfl (nle rfl) (by kernel_rfl) rfl rfl rfl (fun σ β' X' hs hb hx => hx)
  intro σ β X W14 hD hst14 fr hfr
  simp only [exq 3 ((dTn (hD 4 lq)))] at hst14
  clear hD; subst hfr; clear σ β X
  refine bodyPost_end (v := .tuple #[]) (by simp [results, Tryz.results53, go_sem]) rfl ?_
  have hK2 : K = chL L x := by rw [hK, List.take_of_length_le (by omega)]
  subst hkm
  subst hK2
  exact ⟨rfl, St.rm (hst14.pick [2, 1] (by decide) rfl)⟩
end
end Go.Proofs.YtjnplglnnamfdaaGreatDoor
namespace Go.Proofs.YtjnplglnnamfdaaGreatDoor
section
open Go.RowKit
set_option linter.unusedVariables false
set_option linter.unusedSimpArgs false
theorem rchange_any (b : Nat) (r : Option Nat) (L : List KD) (x : Int) (w : World) (h : RMAt w b r L) (hL : L.length ≤ 1000000) : Calls Tryz.prog 53 #[.pointer (some ⟨b, 0, none⟩), .int .i64 x] w (RMDone b r (chL L x) w) := by
  obtain ⟨A, c, h1, h2, rfl⟩ := h
  exact rch_open b A c L x w h1 h2 hL
theorem chL_len (L : List KD) (x : Int) : (chL L x).length ≤ L.length := List.length_filter_le _ _
def allK (g : Int → Int) (hz : Int) (k : FK) : Bool := allF g hz k.1.2.1 k.1.2.2.1
def okR (hd : Bool) (g : Int → Int) (hz : Int) (ks : List FK) (k : Nat) : Bool := hd && (ks.take k).all (allK g hz)
theorem okR_0 (hd : Bool) (g : Int → Int) (hz : Int) (ks : List FK) : okR hd g hz ks 0 = hd := by simp [okR]
theorem okR_succ {hd : Bool} {g : Int → Int} {hz : Int} {ks : List FK} {k : Nat} (h : k < ks.length) : okR hd g hz ks (k + 1) = (okR hd g hz ks k && allK g hz (ks.getD k fk0)) := by
  rw [okR, okR, List.take_add_one, List.getElem?_eq_getElem h, List.getD_eq_getElem?_getD, List.getElem?_eq_getElem h, List.all_append]
  simp [Bool.and_assoc]
theorem hrroom_any (v : PV) (A : Option Addr) (c : Nat) (w : World) (h : v.wf) (hA : At w A (strs v.its)) (hc : v.its.length ≤ c) : Calls Tryz.prog 125 #[.agg #[.int .i64 v.k, .int .i64 v.l, .slice A v.its.length c]] w (Ret (.int .i64 (roomV v)) w) := by
  rw [strs_map] at hA
  have hl : v.its.length = (v.its.map Prod.fst).length := (List.length_map _).symm
  exact rroom_any v.k v.l A v.its.length c _ w hl hA (PV.small h) hc
/-- what the reference's Look keeps of a page -/
def knR (g : Int → Int) (hz p : Int) (v : PV) : KD := (p, if v.ok then roomV v else 0, hdF v && (allF' v).all fun f => allF g hz f.2.1 f.2.2.1)
theorem knR_look (g : Int → Int) (hz p : Int) (v : PV) : knR g hz p v = (p, (lookF g hz v).2, (lookF g hz v).1) := by
  have e : ((allF' v).all fun f => allF g hz f.2.1 f.2.2.1) = !((allF' v).any (anyF g hz)) := by
    simp [anyF, List.not_any_eq_all_not]
  rw [knR, lookF, e]
theorem St.openRM {w0 W : World} {bor : List Nat} {L1 : List Ent} {b : Nat} {r : Option Nat} {L : List KD} (h : St w0 bor (L1 ++ [eRM b r L]) W) : ∃ A c, St w0 bor (L1 ++ [eB b 119 #[.slice A L.length c], eO 233 3 (.slice A L.length c) L.length (L.flatMap kdC)]) W := by
  have h1 := h.ok (eRM b r L) (by simp)
  obtain ⟨A, c, hB, hO, hr⟩ := h1.holds
  have hne := own_neN hO hB (by decide)
  have hfp : ∀ k, k ∈ (eO 233 3 (.slice A L.length c) L.length (L.flatMap kdC)).fp → k ∈ (eRM b r L).fp := fun k hk => by
    have : (Value.slice A L.length c).ownBlock = some k := by simpa [eO] using hk
    rw [hr] at this
    simp [eRM, this]
  have hb : b ∈ (eRM b r L).fp := by simp [eRM]
  refine ⟨A, c, h.upd, fun x hx => ?_, ?_⟩
  · rcases List.mem_append.1 hx with hx | hx
    · exact h.ok x (List.mem_append_left _ hx)
    · simp only [List.mem_cons, List.not_mem_nil, or_false] at hx
      rcases hx with rfl | rfl
      · exact ⟨hB, eB_loc _ _ _, fun k hk => h1.own k (by simp [eB] at hk; subst hk; exact hb)⟩
      · exact ⟨hO, eO_loc _ _ _ _ _, fun k hk => h1.own k (hfp k hk)⟩
  · have ha := h.apart
    rw [List.pairwise_append] at ha ⊢
    refine ⟨ha.1, List.pairwise_pair.2 fun k hk hk' => ?_, fun a ha' b' hb' => ?_⟩
    · have e1 : k = b := by simpa [eB] using hk
      subst e1
      exact hne (by simpa [eO] using hk')
    · simp only [List.mem_cons, List.not_mem_nil, or_false] at hb'
      rcases hb' with e | e
      · rw [e]; exact fun k hk hk' => ha.2.2 a ha' (eRM b r L) (by simp) k hk (by simp [eB] at hk'; subst hk'; exact hb)
      · rw [e]; exact fun k hk hk' => ha.2.2 a ha' (eRM b r L) (by simp) k hk (hfp k hk')
/-- an object whose parts are known again -/
theorem St.rm' {w W : World} {bor : List Nat} {b : Nat} {r : Option Nat} {A : Option Addr} {c n : Nat} {L : List KD} (hbor : bor = b :: r.toList) (hn : n = L.length) (h : St w bor [eB b 119 #[.slice A n c], eO 233 3 (.slice A n c) n (L.flatMap kdC)] W) : RMPost b r L w W := by
  subst hbor hn
  exact St.rm h
end
end Go.Proofs.YtjnplglnnamfdaaGreatDoor
namespace Go.Proofs.YtjnplglnnamfdaaGreatDoor
section
open Go.RowKit
set_option linter.unusedVariables false
set_option linter.unusedSimpArgs false
theorem tbF_dec (v : PV) : decide (tbF v ≥ 0) = hdF v := by
  have h := tbF_hd v
  cases hh : hdF v with
  | true => exact decide_eq_true (h.2 hh)
  | false => exact decide_eq_false (fun h2 => by rw [h.1 h2] at hh; cases hh)
set_option maxRecDepth 100000 in
set_option maxHeartbeats 4000000 in
theorem rlook_any (b : Nat) (r : Option Nat) (L : List KD) (PA : Option Addr) (pc : Nat) (Ps : List PgD) (p hz : Int) (T : List Int) (g : Int → Int) (w : World) (h : RMAt w b r L) (hL : L.length ≤ 100000) (hP : ∀ W, Upd (b :: r.toList) w W → PgsAt W PA Ps) (hT : T.length = 128) (hg : ∀ x, tabF T x = g x) :
    Calls Tryz.prog 52 #[.pointer (some ⟨b, 0, none⟩), .agg #[.slice PA Ps.length pc], .int .i64 p, .int .i64 hz, .agg (T.map (Value.int .i64)).toArray] w (RMDone b r (chL L p ++ [knR g hz p (pvF Ps p)]) w) := by
  have st0 := St.lentO h
  have hP0 := hP w (Upd.refl _ _)
  have hwf := hP0.wf p
  have hwl := hwf.1
  have hal := allF_len hwf
  have hcl := chL_len L p
  go_enter Tryz.func52, Tryz.ntmps52
  have hst0 := st0
  refine wp_seq (wp_region_Y [0, 0] [] [[1], [2]] [] [.a 6, .a 9] (fun ix σ β X => match ix with | 0 => σ 6 = vp (pb (β 6)) ∧ X 1 = eB (pb (β 6)) 30 #[.slice PA Ps.length pc] | 1 => σ 9 = vp (pb (β 9)) ∧ X 2 = eB (pb (β 9)) 34 (T.map (Value.int .i64)).toArray | _ => True) [0, 1, 2] [0, 1] [(6, 0, 1, 7), (2, 1, 1, 3)] hst0 ?_ ?_ ?_)
  · exact fun ix _ _ _ _ _ _ hs hb hx h => match ix, h with
    | 0, h => by dsimp only at h ⊢; rw [← hs 6 rfl, ← hb 6 rfl, ← hx 1 rfl]; exact h
    | 1, h => by dsimp only at h ⊢; rw [← hs 9 rfl, ← hb 9 rfl, ← hx 2 rfl]; exact h
    | _ + 2, _ => trivial
  · refine ⟨?_, ?_, trivial⟩
    · refine sv_any rfl rfl fun ρ β W X cx => ?_
      exact dv_box (cs := #[.slice PA Ps.length pc]) rfl (cx.ou 1) rfl rfl rfl (fun σ β' X' hs hb hv hx => ⟨hv, hx⟩)
    · refine sv_any rfl rfl fun ρ β W X cx => ?_
      exact dv_box (cs := (T.map (Value.int .i64)).toArray) rfl (cx.ou 4) rfl rfl rfl (fun σ β' X' hs hb hv hx => ⟨hv, hx⟩)
  intro σ β X W1 hD hst1 fr hfr
  obtain ⟨B6_1, hu_B6_1⟩ : ∃ z, pb (β 6) = z := ⟨_, rfl⟩
  obtain ⟨B9_1, hu_B9_1⟩ : ∃ z, pb (β 9) = z := ⟨_, rfl⟩
  simp only [exq 1 ((dTn (hD 0 lq)).2), exq 2 ((dTn (hD 1 lq)).2), hu_B6_1, hu_B9_1] at hst1
  simp only [ed 6 ((dTn (hD 0 lq)).1), ed 9 ((dTn (hD 1 lq)).1), hu_B6_1, hu_B9_1] at hfr
  clear hD hu_B6_1 hu_B9_1; subst hfr; clear σ β X
  refine then_normal (wp_seq (wp_region_Y [0, 0, 3] [[], [], [0]] [[], [], [3]] [[], [], [0]] [.k 15 (vp b), .k 16 (vi p), .a 17] (fun ix σ β X => match ix with | 0 => True | 1 => True | 2 => σ 17 = .tuple #[] ∧ X 3 = eRM b (rO (X 3)) (chL L p) | _ => True) [1, 2, 3] [2] [(15, 0, 3, 18)] hst1 ?_ ?_ ?_))
  · exact fun ix _ _ _ _ _ _ hs hb hx h => match ix, h with
    | 2, h => by dsimp only at h ⊢; rw [← hs 17 rfl, ← hx 3 rfl]; exact h
    | 0, _ | 1, _ | _ + 3, _ => trivial
  · refine ⟨?_, trivial⟩
    · refine sv_any rfl rfl fun ρ β W X cx => ?_
      refine DoesU.call (run_callF (args := #[vp b, vi p]) rfl cx.sees rfl (by kernel_rfl) (map2 (cx.an 0) (cx.an 1))) ?_
      refine (rchange_any b r L p _ (CtxV.holdE cx (cx.init 0 _ rfl) rfl) (by omega)).mono ?_
      rintro e W1 ⟨rfl, hu⟩
      refine ⟨_, rfl, post_rm (by rw [(cx.init 0 _ rfl)]; rfl) rfl rfl hu (fun σ β' X' hs hb hv hx => ?_)⟩
      exact ⟨(hv 17 rfl).1, hx⟩
  intro σ β X W2 hD hst2 fr hfr
  have xX3 : X 3 = _ := (dTn (hD 2 lq)).2
  obtain ⟨r3_2, hu_r3_2⟩ : ∃ z, rO (X 3) = z := ⟨_, rfl⟩
  rw [hu_r3_2] at xX3
  clear hu_r3_2
  simp only [xX3] at hst2
  simp only [ed 17 ((dTn (hD 2 lq)).1)] at hfr
  clear hD xX3; subst hfr; clear σ β X
  refine then_normal (wp_seq (wp_region_Y [0, 0, 0, 6, 14, 31, 0, 127] [[], [0], [], [], [], [], [], [3]] [[], [], [], [], [], [], [3], [4]] [[], [], [], [], [], [], [], [3]] [.k 18 (vi p), .c 19 (.agg #[.slice PA Ps.length pc]), .k 20 (vi p), .c 21 (vi ((tbF (pvF Ps p)))), .k 22 (.bool (decide (0 ≤ (tbF (pvF Ps p))))), .k 23 (.agg #[vi p, vi 0, .bool (decide (0 ≤ (tbF (pvF Ps p))))]), .a 10, .n] (fun ix σ β X => match ix with | 0 => True | 1 => True | 2 => True | 3 => True | 4 => True | 5 => True | 6 => σ 10 = vp (pb (β 10)) ∧ X 3 = eB (pb (β 10)) 233 #[vi 0, vi 0, .bool false] | 7 => X 4 = eB (pb (β 10)) 233 #[vi p, vi 0, .bool (decide (0 ≤ (tbF (pvF Ps p))))] | _ => True) [0, 1, 2, 4] [1, 3, 6, 7] [(10, 6, 1, 11), (7, 0, 6, 13)] hst2 ?_ ?_ ?_))
  · exact fun ix _ _ _ _ _ _ hs hb hx h => match ix, h with
    | 6, h => by dsimp only at h ⊢; rw [← hs 10 rfl, ← hb 10 rfl, ← hx 3 rfl]; exact h
    | 7, h => by dsimp only at h ⊢; rw [← hb 10 rfl, ← hx 4 rfl]; exact h
    | 0, _ | 1, _ | 2, _ | 3, _ | 4, _ | 5, _ | _ + 8, _ => trivial
  · refine ⟨?_, ?_, ?_, ?_, trivial⟩
    · exact xs4 rfl id fun cx => run_loadB (n := 1) rfl (by kernel_rfl) (by kernel_rfl) (cx.ou 6) (cx.bi 0 rfl) (nle rfl) rfl
    · exact xsc rfl id rfl rfl fun cx => ⟨_, rtable_any _ _ Ps p _ (hP _ cx.upd), (map2 (cx.an 1) (cx.an 2))⟩
    · refine sv_any rfl rfl fun ρ β W X cx => ?_
      exact dv_alloc (cs := #[vi 0, vi 0, .bool false]) rfl (by kernel_rfl) rfl rfl (fun σ β' X' hs hb hv hx => ⟨hv, hx⟩)
    · refine sv_any rfl rfl fun ρ β W X cx => ?_
      exact dv_store (n := 3) rfl (dTn (cx.an 6)).1 (cx.an 5) (by kernel_rfl) (by kernel_rfl) (by kernel_rfl) cx (dTn (cx.an 6)).2 rfl (nle rfl) (by kernel_rfl) rfl rfl rfl (fun σ β' X' hs hb hx => by rw [hb 10]; exact hx)
  intro σ β X W3 hD hst3 fr hfr
  obtain ⟨B10_3, hu_B10_3⟩ : ∃ z, pb (β 10) = z := ⟨_, rfl⟩
  simp only [exq 4 ((dTn (hD 7 lq))), hu_B10_3] at hst3
  simp only [ed 10 ((dTn (hD 6 lq)).1), hu_B10_3] at hfr
  clear hD hu_B10_3; subst hfr; clear σ β X
  refine then_normal (wp_seq (wp_region_Y [0, 0, 3, 7, 15, 15, 0, 95, 255] [[0], [], [], [], [], [], [], [5]] [[], [], [4], [], [], [], [5], [6]] [[], [], [], [], [], [], [], [5]] [.c 25 (.agg #[.slice PA Ps.length pc]), .k 26 (vi p), .a 27, .a 24, .a 28, .c 29 (.bool ((pvF Ps p).ok)), .a 11, .n, .k 12 (.bool ((pvF Ps p).ok))] (fun ix σ β X => match ix with | 0 => True | 1 => True | 2 => σ 27 = .tuple #[.agg #[vi ((pvF Ps p).k), vi ((pvF Ps p).l), .slice (sA (tg (tg (β 27) 0) 2)) ((pvF Ps p).its.length) (sC (tg (tg (β 27) 0) 2))], .bool ((pvF Ps p).ok)] ∧ X 4 = eO 9 1 (.slice (sA (tg (tg (β 27) 0) 2)) ((pvF Ps p).its.length) (sC (tg (tg (β 27) 0) 2))) ((pvF Ps p).its.length) (strs (pvF Ps p).its) | 3 => σ 24 = .tuple #[.agg #[vi ((pvF Ps p).k), vi ((pvF Ps p).l), .slice (sA (tg (tg (β 27) 0) 2)) ((pvF Ps p).its.length) (sC (tg (tg (β 27) 0) 2))], .bool ((pvF Ps p).ok)] | 4 => σ 28 = .agg #[vi ((pvF Ps p).k), vi ((pvF Ps p).l), .slice (sA (tg (tg (β 27) 0) 2)) ((pvF Ps p).its.length) (sC (tg (tg (β 27) 0) 2))] | 5 => True | 6 => σ 11 = vp (pb (β 11)) ∧ X 5 = eB (pb (β 11)) 64 #[vi 0, vi 0, .slice none 0 0] | 7 => X 6 = eB (pb (β 11)) 64 #[vi ((pvF Ps p).k), vi ((pvF Ps p).l), .slice (sA (tg (tg (β 27) 0) 2)) ((pvF Ps p).its.length) (sC (tg (tg (β 27) 0) 2))] | _ => True) [0, 1, 2, 3, 4, 6] [0, 2, 3, 4, 5, 6, 7] [(11, 6, 3, 13), (11, 3, 1, 12), (0, 0, 3, 3), (0, 4, 2, 2)] hst3 ?_ ?_ ?_))
  · exact fun ix _ _ _ _ _ _ hs hb hx h => match ix, h with
    | 2, h => by dsimp only at h ⊢; rw [← hs 27 rfl, ← hb 27 rfl, ← hx 4 rfl]; exact h
    | 3, h => by dsimp only at h ⊢; rw [← hs 24 rfl, ← hb 27 rfl]; exact h
    | 4, h => by dsimp only at h ⊢; rw [← hs 28 rfl, ← hb 27 rfl]; exact h
    | 6, h => by dsimp only at h ⊢; rw [← hs 11 rfl, ← hb 11 rfl, ← hx 5 rfl]; exact h
    | 7, h => by dsimp only at h ⊢; rw [← hb 11 rfl, ← hb 27 rfl, ← hx 6 rfl]; exact h
    | 0, _ | 1, _ | 5, _ | _ + 8, _ => trivial
  · refine ⟨?_, ?_, ?_, ?_, ?_, ?_, ?_, trivial⟩
    · exact xs4 rfl id fun cx => run_loadB (n := 1) rfl (by kernel_rfl) (by kernel_rfl) (cx.ou 6) (cx.bi 0 rfl) (nle rfl) rfl
    · refine sv_any rfl rfl fun ρ β W X cx => ?_
      refine DoesU.call (run_callF (args := #[.agg #[.slice PA Ps.length pc], vi p]) rfl cx.sees rfl (by kernel_rfl) (map2 (cx.an 0) (cx.an 1))) ?_
      refine (rpage_any _ _ Ps p _ (hP _ cx.upd)).mono ?_
      rintro e W1 ⟨A4, c4, rfl, ho, hx⟩
      refine ⟨_, rfl, post_call [eO 9 1 (.slice A4 (pvF Ps p).its.length c4) (pvF Ps p).its.length (strs (pvF Ps p).its)] rfl rfl hx (one_new (eO_new ho)) (List.pairwise_singleton _ _) (fun σ β' X' hs hb hv hN => ?_)⟩
      have hv1 := (hv 27 rfl).1; have hv2 := (hv 27 rfl).2
      exact ⟨hv1.trans (by rw [hv2]; rfl), (by rw [hv2]; exact (List.cons.inj hN).1)⟩
    · exact sv rfl rfl rfl rfl rfl _ (fun _ _ _ h => h) (fun β β' h => by rw [h 27 (by decide)]) fun ρ β W X cx => run_move' rfl (dTn (cx.an 2)).1
    · exact sv rfl rfl rfl rfl rfl _ (fun _ _ _ h => h) (fun β β' h => by rw [h 27 (by decide)]) fun ρ β W X cx => run_extract' rfl (dTn (cx.an 3)) rfl
    · exact xs4 rfl id fun cx => run_extract' rfl (dTn (cx.an 3)) rfl
    · refine sv_any rfl rfl fun ρ β W X cx => ?_
      exact dv_alloc (cs := #[vi 0, vi 0, .slice none 0 0]) rfl (by kernel_rfl) rfl rfl (fun σ β' X' hs hb hv hx => ⟨hv, hx⟩)
    · refine sv_any rfl rfl fun ρ β W X cx => ?_
      exact dv_store (n := 3) rfl (dTn (cx.an 6)).1 (dTn (cx.an 4)) (by kernel_rfl) (by kernel_rfl) (by kernel_rfl) cx (dTn (cx.an 6)).2 rfl (nle rfl) (by kernel_rfl) rfl rfl rfl (fun σ β' X' hs hb hx => by rw [hb 11, hb 27]; exact hx)
  intro σ β X W4 hD hst4 fr hfr
  obtain ⟨A27_4, hu_A27_4⟩ : ∃ z, sA (tg (tg (β 27) 0) 2) = z := ⟨_, rfl⟩
  obtain ⟨c27_4, hu_c27_4⟩ : ∃ z, sC (tg (tg (β 27) 0) 2) = z := ⟨_, rfl⟩
  obtain ⟨B11_4, hu_B11_4⟩ : ∃ z, pb (β 11) = z := ⟨_, rfl⟩
  simp only [exq 4 ((dTn (hD 2 lq)).2), exq 6 ((dTn (hD 7 lq))), hu_A27_4, hu_c27_4, hu_B11_4] at hst4
  simp only [ed 27 ((dTn (hD 2 lq)).1), ed 24 ((dTn (hD 3 lq))), ed 28 ((dTn (hD 4 lq))), ed 11 ((dTn (hD 6 lq)).1), hu_A27_4, hu_c27_4, hu_B11_4] at hfr
  clear hD hu_A27_4 hu_c27_4 hu_B11_4; subst hfr; clear σ β X
  refine then_normal (wp_seq (wp_seq (wp_region_P [0] [.k 30 (.bool ((pvF Ps p).ok))] [(30, 0, 1, 31)] hst4 fun W5 hst5 => ?_)))
  refine then_normal ?_
  rcases Bool.eq_false_or_eq_true ((pvF Ps p).ok) with hs6 | hs6
  · skip
    refine wp_cond_true (show Act.eval _ _ = .bool true from (congrArg Value.bool hs6)) (wp_region_Y [0, 1, 3, 7] [[5], [4], [], [3]] [[], [], [], [6]] [[], [], [], [3]] [.c 31 (.agg #[vi ((pvF Ps p).k), vi ((pvF Ps p).l), .slice A27_4 ((pvF Ps p).its.length) c27_4]), .c 32 (vi ((roomV (pvF Ps p)))), .k 33 (.pointer (some ⟨B10_3, 1, none⟩)), .n] (fun ix σ β X => match ix with | 0 => True | 1 => True | 2 => True | 3 => X 6 = eB B10_3 233 #[vi p, vi ((roomV (pvF Ps p))), .bool (decide (0 ≤ (tbF (pvF Ps p))))] | _ => True) [0, 1, 2, 4, 5, 6] [0, 1, 3] [(31, 0, 3, 34)] hst5 ?_ ?_ ?_)
    · exact fun ix _ _ _ _ _ _ hs hb hx h => match ix, h with
      | 3, h => by dsimp only at h ⊢; rw [← hx 6 rfl]; exact h
      | 0, _ | 1, _ | 2, _ | _ + 4, _ => trivial
    · refine ⟨?_, ?_, ?_, trivial⟩
      · exact xs4 rfl id fun cx => run_loadB (n := 3) rfl (by kernel_rfl) (by kernel_rfl) (cx.ou 11) (cx.bi 5 rfl) (nle rfl) rfl
      · exact xsc rfl id rfl rfl fun cx => ⟨_, hrroom_any (pvF Ps p) _ _ _ hwf (At.of_own (cx.ri 4 rfl)) (eown_cap (cx.ri 4 rfl)), (map1 (cx.an 0))⟩
      · refine sv_any rfl rfl fun ρ β W X cx => ?_
        exact dv_store (n := 1) rfl (cx.an 2) (cx.an 1) (by kernel_rfl) (by kernel_rfl) (by kernel_rfl) cx (cx.init 3 _ rfl) rfl (nle rfl) (by kernel_rfl) rfl rfl rfl (fun σ β' X' hs hb hx => hx)
    intro σ β X W7 hD hst7 fr hfr
    simp only [exq 6 ((dTn (hD 3 lq)))] at hst7
    clear hD; subst hfr; clear σ β X
    refine then_normal (wp_seq (wp_region_Y [0, 0, 3, 7] [[0]] [[], [], [6]] [] [.c 34 (.agg #[.slice PA Ps.length pc]), .k 35 (vi p), .a 36, .a 13] (fun ix σ β X => match ix with | 0 => True | 1 => True | 2 => σ 36 = .slice (sA (β 36)) ((allF' (pvF Ps p)).length) (sC (β 36)) ∧ X 6 = eFnd 147 (.slice (sA (β 36)) ((allF' (pvF Ps p)).length) (sC (β 36))) (allF' (pvF Ps p)) p | 3 => σ 13 = .slice (sA (β 36)) ((allF' (pvF Ps p)).length) (sC (β 36)) | _ => True) [0, 1, 2, 3, 4, 5, 6] [0, 2, 3] [(13, 3, 1, 14), (20, 0, 3, 23)] hst7 ?_ ?_ ?_))
    · exact fun ix _ _ _ _ _ _ hs hb hx h => match ix, h with
      | 2, h => by dsimp only at h ⊢; rw [← hs 36 rfl, ← hb 36 rfl, ← hx 6 rfl]; exact h
      | 3, h => by dsimp only at h ⊢; rw [← hs 13 rfl, ← hb 36 rfl]; exact h
      | 0, _ | 1, _ | _ + 4, _ => trivial
    · refine ⟨?_, ?_, ?_, trivial⟩
      · exact xs4 rfl id fun cx => run_loadB (n := 1) rfl (by kernel_rfl) (by kernel_rfl) (cx.ou 6) (cx.bi 0 rfl) (nle rfl) rfl
      · refine sv_any rfl rfl fun ρ β W X cx => ?_
        refine DoesU.call (run_callF (args := #[.agg #[.slice PA Ps.length pc], vi p]) rfl cx.sees rfl (by kernel_rfl) (map2 (cx.an 0) (cx.an 1))) ?_
        refine (rall9_any _ _ Ps p _ (hP _ cx.upd)).mono ?_
        rintro e W1 ⟨A4, c4, ks4, hks4, rfl, ho, hx⟩
        refine ⟨_, rfl, post_call [eFnd 147 (.slice A4 (allF' (pvF Ps p)).length c4) (allF' (pvF Ps p)) p] rfl rfl hx (one_new (eFnd_new hks4 ho)) (List.pairwise_singleton _ _) (fun σ β' X' hs hb hv hN => ?_)⟩
        have hv1 := (hv 36 rfl).1; have hv2 := (hv 36 rfl).2
        exact ⟨hv1.trans (by rw [hv2]; rfl), (by rw [hv2]; exact (List.cons.inj hN).1)⟩
      · exact sv rfl rfl rfl rfl rfl _ (fun _ _ _ h => h) (fun β β' h => by rw [h 36 (by decide)]) fun ρ β W X cx => run_assign' rfl (dTn (cx.an 2)).1
    intro σ β X W8 hD hst8 fr hfr
    obtain ⟨A36_8, hu_A36_8⟩ : ∃ z, sA (β 36) = z := ⟨_, rfl⟩
    obtain ⟨c36_8, hu_c36_8⟩ : ∃ z, sC (β 36) = z := ⟨_, rfl⟩
    simp only [exq 6 ((dTn (hD 2 lq)).2), hu_A36_8, hu_c36_8] at hst8
    simp only [ed 36 ((dTn (hD 2 lq)).1), ed 13 ((dTn (hD 3 lq))), hu_A36_8, hu_c36_8] at hfr
    clear hD hu_A36_8 hu_c36_8; subst hfr; clear σ β X
    refine then_normal (wp_seq (wp_seq (wp_region_P [0] [.k 14 (vi 0)] [(14, 0, 1, 15)] hst8 fun W9 hst9 => ?_)))
    refine then_normal (wp_block ?_)
    obtain ⟨ks, hks, hKO⟩ := (hst9.get 6 rfl).holds
    have hm10 := St.repl (L1 := [eB B6_1 30 #[.slice PA Ps.length pc], eB B9_1 34 (T.map (Value.int .i64)).toArray, eRM b r3_2 (chL L p), eO 9 1 (.slice A27_4 ((pvF Ps p).its.length) c27_4) ((pvF Ps p).its.length) (strs (pvF Ps p).its), eB B11_4 64 #[vi ((pvF Ps p).k), vi ((pvF Ps p).l), .slice A27_4 ((pvF Ps p).its.length) c27_4], eB B10_3 233 #[vi p, vi ((roomV (pvF Ps p))), .bool (decide (0 ≤ (tbF (pvF Ps p))))]]) (L2 := []) (E' := eO 147 8 (.slice A36_8 ((allF' (pvF Ps p)).length) c36_8) ((allF' (pvF Ps p)).length) (ks.flatMap (cellsF p))) hst9 rfl (fun _ => hKO) (eO_loc _ _ _ _ _)
    simp only [List.cons_append, List.nil_append] at hm10
    have hkl := ks_len hks
    rw [show eB B10_3 233 #[vi p, vi ((roomV (pvF Ps p))), .bool (decide (0 ≤ (tbF (pvF Ps p))))] = eB B10_3 233 #[vi p, vi ((roomV (pvF Ps p))), .bool ((okR (decide (0 ≤ (tbF (pvF Ps p)))) g hz ks 0))] from by rw [okR_0]] at hm10
    refine wp_loopN (fun mz az W => ∃ k : Nat, ∃ u11_ : List Value, k ≤ ks.length ∧ mz = ks.length - k ∧ az = ⟨#[vp b, .agg #[.slice PA Ps.length pc], vi p, vi hz, .agg (T.map (Value.int .i64)).toArray, undef, vp B6_1, undef, undef, vp B9_1, vp B10_3, vp B11_4, .bool ((pvF Ps p).ok), .slice A36_8 ((allF' (pvF Ps p)).length) c36_8, vi ((k : Int)), vp b, vi p, .tuple #[], vi p, .agg #[.slice PA Ps.length pc], vi p, vi ((tbF (pvF Ps p))), .bool (decide (0 ≤ (tbF (pvF Ps p)))), .agg #[vi p, vi 0, .bool (decide (0 ≤ (tbF (pvF Ps p))))], .tuple #[.agg #[vi ((pvF Ps p).k), vi ((pvF Ps p).l), .slice A27_4 ((pvF Ps p).its.length) c27_4], .bool ((pvF Ps p).ok)], .agg #[.slice PA Ps.length pc], vi p, .tuple #[.agg #[vi ((pvF Ps p).k), vi ((pvF Ps p).l), .slice A27_4 ((pvF Ps p).its.length) c27_4], .bool ((pvF Ps p).ok)], .agg #[vi ((pvF Ps p).k), vi ((pvF Ps p).l), .slice A27_4 ((pvF Ps p).its.length) c27_4], .bool ((pvF Ps p).ok), .bool ((pvF Ps p).ok), .agg #[vi ((pvF Ps p).k), vi ((pvF Ps p).l), .slice A27_4 ((pvF Ps p).its.length) c27_4], vi ((roomV (pvF Ps p))), .pointer (some ⟨B10_3, 1, none⟩), .agg #[.slice PA Ps.length pc], vi p, .slice A36_8 ((allF' (pvF Ps p)).length) c36_8, (gu u11_ 0), (gu u11_ 1), (gu u11_ 2), (gu u11_ 3), (gu u11_ 4), (gu u11_ 5), (gu u11_ 6), (gu u11_ 7), (gu u11_ 8), (gu u11_ 9), (gu u11_ 10), (gu u11_ 11), (gu u11_ 12), (gu u11_ 13), (gu u11_ 14), (gu u11_ 15), (gu u11_ 16), (gu u11_ 17), (gu u11_ 18), undef, undef, undef, undef, undef, undef, undef, undef, undef, undef], []⟩ ∧ St w (b :: r.toList) [eB B6_1 30 #[.slice PA Ps.length pc], eB B9_1 34 (T.map (Value.int .i64)).toArray, eRM b r3_2 (chL L p), eB B11_4 64 #[vi ((pvF Ps p).k), vi ((pvF Ps p).l), .slice A27_4 ((pvF Ps p).its.length) c27_4], eB B10_3 233 #[vi p, vi ((roomV (pvF Ps p))), .bool ((okR (decide (0 ≤ (tbF (pvF Ps p)))) g hz ks k))], eO 147 8 (.slice A36_8 ((allF' (pvF Ps p)).length) c36_8) ((allF' (pvF Ps p)).length) (ks.flatMap (cellsF p))] W) (ks.length - 0) ?_ ?_
    · -- the loop begins
      have hp12 := hm10.pick [0, 1, 2, 4, 5, 6] (by decide) rfl
      exact ⟨0, [undef, undef, undef, undef, undef, undef, undef, undef, undef, undef, undef, undef, undef, undef, undef, undef, undef, undef, undef], by omega, rfl, rfl, hp12⟩
    rintro n11 a11 W11 ⟨k, u11_, hk, rfl, rfl, hst11⟩
    refine wp_seq (wp_seq (wp_region_P [0, 0, 2, 7] [.k 37 (vi ((k : Int))), .k 38 (.slice A36_8 ((allF' (pvF Ps p)).length) c36_8), .k 39 (vi (((allF' (pvF Ps p)).length : Int))), .k 40 (.bool (decide ((k : Int) < ((allF' (pvF Ps p)).length : Int))))] [(37, 0, 4, 41)] hst11 fun W13 hst13 => ?_))
    refine then_normal ?_
    rcases Bool.eq_false_or_eq_true (decide ((k : Int) < ((allF' (pvF Ps p)).length : Int))) with hs14 | hs14
    · skip
      have hs14p : (k : Int) < ((allF' (pvF Ps p)).length : Int) := by simpa using hs14
      refine wp_cond_true (show Act.eval _ _ = .bool true from (congrArg Value.bool hs14)) (wp_skip (then_normal (wp_seq (wp_block ?_))))
      rcases Bool.eq_false_or_eq_true ((okR (decide (0 ≤ (tbF (pvF Ps p)))) g hz ks k)) with hs16 | hs16
      · skip
        refine wp_region_Y [0, 1, 3, 7, 7, 31, 63, 127, 7, 7, 1023, 2047, 4095, 8191] [[], [4], [], [], [], [5], [], [5], [], [1], [], [], [], [4]] [[], [], [], [], [], [], [], [], [], [], [], [], [], [6]] [[], [], [], [], [], [], [], [], [], [], [], [], [], [4]] [.k 43 (.pointer (some ⟨B10_3, 2, none⟩)), .c 44 (.bool true), .k 45 (.bool true), .k 46 (.slice A36_8 ((allF' (pvF Ps p)).length) c36_8), .k 47 (vi ((k : Int))), .c 48 (.pointer (some ((ad A36_8).add (k * 8)))), .c 49 (.pointer (some ((ad A36_8).add (k * 8 + 2)))), .c 50 (.agg #[vi ((ks.getD k fk0).1.2.1), vi ((ks.getD k fk0).1.2.2.1), vi ((ks.getD k fk0).1.2.2.2.1), vi ((ks.getD k fk0).1.2.2.2.2.1), .bool ((ks.getD k fk0).1.2.2.2.2.2.1), .slice ((ks.getD k fk0).2.1) ((ks.getD k fk0).1.2.2.2.2.2.2.length) ((ks.getD k fk0).2.2)]), .k 51 (vi hz), .c 52 (.agg (T.map (Value.int .i64)).toArray), .c 53 (.bool ((allK g hz (ks.getD k fk0)))), .k 54 (.bool ((allK g hz (ks.getD k fk0)))), .k 55 (.pointer (some ⟨B10_3, 2, none⟩)), .n] (fun ix σ β X => match ix with | 0 => True | 1 => True | 2 => True | 3 => True | 4 => True | 5 => True | 6 => True | 7 => True | 8 => True | 9 => True | 10 => True | 11 => True | 12 => True | 13 => X 6 = eB B10_3 233 #[vi p, vi ((roomV (pvF Ps p))), .bool ((allK g hz (ks.getD k fk0)))] | _ => True) [0, 1, 2, 3, 5, 6] [1, 5, 6, 7, 9, 10, 13] [(43, 0, 13, 56)] hst13 ?_ ?_ ?_
        · exact fun ix _ _ _ _ _ _ hs hb hx h => match ix, h with
          | 13, h => by dsimp only at h ⊢; rw [← hx 6 rfl]; exact h
          | 0, _ | 1, _ | 2, _ | 3, _ | 4, _ | 5, _ | 6, _ | 7, _ | 8, _ | 9, _ | 10, _ | 11, _ | 12, _ | _ + 14, _ => trivial
        · refine ⟨?_, ?_, ?_, ?_, ?_, ?_, ?_, trivial⟩
          · exact s4 rfl (fun _ _ _ h => h.trans (congrArg Value.bool hs16)) fun cx => run_load1 rfl (by kernel_rfl) (cx.an 0) ((cx.bi 4 rfl).cell 2)
          · exact xs5 rfl id (fun cx => (cx.an 2)) fun cx => run_indexSlM (e := 147) (m := k) (sz := 8) rfl (by kernel_rfl) (by kernel_rfl) (cx.an 3) (cx.an 4) (by omega) (by omega) (At.of_ownN (cx.ri 5 rfl)) (by have h_ := flatLen (f := (cellsF p)) (sz := 8) (cellsF_len p) ks; show 0 < (List.flatMap (cellsF p) ks).length; omega)
          · exact xs5 rfl id (fun cx => (cx.an 2)) fun cx => run_fieldAd rfl (by kernel_rfl) (cx.an 5)
          · exact xs5 rfl id (fun cx => (cx.an 2)) fun cx => run_loadElt (f := (cellsF p)) (m := k) (sz := 8) (off := 2) (n := 6) rfl (by kernel_rfl) (by kernel_rfl) (cx.an 6) rfl (cellsF_len p) (At.of_ownN (cx.ri 5 rfl)) (getD_some (ts := ks) (m := k) fk0 (by omega)) (fun k hk => match k, hk with | 0, _ => rfl | 1, _ => rfl | 2, _ => rfl | 3, _ => rfl | 4, _ => rfl | 5, _ => rfl | k + 6, hk => absurd hk (by omega))
          · exact xs5 rfl id (fun cx => (cx.an 2)) fun cx => run_loadAr (n := 128) rfl (by kernel_rfl) (by kernel_rfl) (cx.ou 9) (cx.bi 1 rfl) (by simp [hT])
          · exact sv_call_on rfl rfl rfl rfl rfl rfl (fun _ _ _ h => h) (fun _ _ _ _ cx => (cx.an 2)) fun ρ β W X cx => ⟨_, _, run_callF (args := #[.agg #[vi ((ks.getD k fk0).1.2.1), vi ((ks.getD k fk0).1.2.2.1), vi ((ks.getD k fk0).1.2.2.2.1), vi ((ks.getD k fk0).1.2.2.2.2.1), .bool ((ks.getD k fk0).1.2.2.2.2.2.1), .slice ((ks.getD k fk0).2.1) ((ks.getD k fk0).1.2.2.2.2.2.2.length) ((ks.getD k fk0).2.2)], vi hz, .agg (T.map (Value.int .i64)).toArray]) rfl cx.sees rfl (by kernel_rfl) (map3 (cx.an 7) (cx.an 8) (cx.an 9)), rall_any hz T g _ _ _ _ _ _ _ _ _ hT hg⟩
          · refine sv_any rfl rfl fun ρ β W X cx => ?_
            exact dv_store (n := 1) rfl (cx.an 12) (cx.an 11) (by kernel_rfl) (by kernel_rfl) (by kernel_rfl) cx (cx.init 4 _ rfl) rfl (nle rfl) (by kernel_rfl) rfl rfl rfl (fun σ β' X' hs hb hx => hx)
        intro σ β X W17 hD hst17 fr hfr
        simp only [exq 6 ((dTn (hD 13 lq)))] at hst17
        clear hD; subst hfr; clear σ β X
        refine blk_normal (then_normal (wp_region_P [0, 1, 3] [.k 41 (vi ((k : Int))), tI 42 ((k : Int) + 1) (by omega), .k 14 (vi ((k : Int) + 1))] [(14, 2, 1, 15), (26, 0, 2, 28)] hst17 fun W18 hst18 => ?_))
        refine then_normal ?_
        rw [show eB B10_3 233 #[vi p, vi ((roomV (pvF Ps p))), .bool ((allK g hz (ks.getD k fk0)))] = eB B10_3 233 #[vi p, vi ((roomV (pvF Ps p))), .bool ((okR (decide (0 ≤ (tbF (pvF Ps p)))) g hz ks (k + 1)))] from by rw [okR_succ (by omega), hs16]; rfl] at hst18
        refine ⟨ks.length - ((k + 1)), by omega, ?_⟩
        have hp19 := hst18.pick [0, 1, 2, 3, 5, 4] (by decide) rfl
        exact ⟨(k + 1), [vi ((k : Int)), .slice A36_8 ((allF' (pvF Ps p)).length) c36_8, vi (((allF' (pvF Ps p)).length : Int)), .bool (decide ((k : Int) < ((allF' (pvF Ps p)).length : Int))), vi ((k : Int)), vi ((k : Int) + 1), .pointer (some ⟨B10_3, 2, none⟩), .bool true, .bool true, .slice A36_8 ((allF' (pvF Ps p)).length) c36_8, vi ((k : Int)), .pointer (some ((ad A36_8).add (k * 8))), .pointer (some ((ad A36_8).add (k * 8 + 2))), .agg #[vi ((ks.getD k fk0).1.2.1), vi ((ks.getD k fk0).1.2.2.1), vi ((ks.getD k fk0).1.2.2.2.1), vi ((ks.getD k fk0).1.2.2.2.2.1), .bool ((ks.getD k fk0).1.2.2.2.2.2.1), .slice ((ks.getD k fk0).2.1) ((ks.getD k fk0).1.2.2.2.2.2.2.length) ((ks.getD k fk0).2.2)], vi hz, .agg (T.map (Value.int .i64)).toArray, .bool ((allK g hz (ks.getD k fk0))), .bool ((allK g hz (ks.getD k fk0))), .pointer (some ⟨B10_3, 2, none⟩)], by omega, rfl, rfl, hp19⟩
      refine wp_region_Y [0, 1, 3, 7, 7, 31, 63, 127, 7, 7, 1023, 2047, 4095, 8191] [[], [4], [], [], [], [], [], [], [], [], [], [], [], [4]] [[], [], [], [], [], [], [], [], [], [], [], [], [], [6]] [[], [], [], [], [], [], [], [], [], [], [], [], [], [4]] [.k 43 (.pointer (some ⟨B10_3, 2, none⟩)), .c 44 (.bool false), .k 45 (.bool false), .u 46, .u 47, .u 48, .u 49, .u 50, .u 51, .u 52, .u 53, .k 54 (.bool false), .k 55 (.pointer (some ⟨B10_3, 2, none⟩)), .n] (fun ix σ β X => match ix with | 0 => True | 1 => True | 2 => True | 3 => True | 4 => True | 5 => True | 6 => True | 7 => True | 8 => True | 9 => True | 10 => True | 11 => True | 12 => True | 13 => X 6 = eB B10_3 233 #[vi p, vi ((roomV (pvF Ps p))), .bool false] | _ => True) [0, 1, 2, 3, 5, 6] [1, 13] [(43, 0, 13, 56)] hst13 ?_ ?_ ?_
      · exact fun ix _ _ _ _ _ _ hs hb hx h => match ix, h with
        | 13, h => by dsimp only at h ⊢; rw [← hx 6 rfl]; exact h
        | 0, _ | 1, _ | 2, _ | 3, _ | 4, _ | 5, _ | 6, _ | 7, _ | 8, _ | 9, _ | 10, _ | 11, _ | 12, _ | _ + 14, _ => trivial
      · refine ⟨?_, ?_, trivial⟩
        · exact s4 rfl (fun _ _ _ h => h.trans (congrArg Value.bool hs16)) fun cx => run_load1 rfl (by kernel_rfl) (cx.an 0) ((cx.bi 4 rfl).cell 2)
        · refine sv_any rfl rfl fun ρ β W X cx => ?_
          exact dv_store (n := 1) rfl (cx.an 12) (cx.an 11) (by kernel_rfl) (by kernel_rfl) (by kernel_rfl) cx (cx.init 4 _ rfl) rfl (nle rfl) (by kernel_rfl) rfl rfl rfl (fun σ β' X' hs hb hx => hx)
      intro σ β X W20 hD hst20 fr hfr
      simp only [exq 6 ((dTn (hD 13 lq)))] at hst20
      clear hD; subst hfr; clear σ β X
      refine blk_normal (then_normal (wp_region_P [0, 1, 3] [.k 41 (vi ((k : Int))), tI 42 ((k : Int) + 1) (by omega), .k 14 (vi ((k : Int) + 1))] [(14, 2, 1, 15), (26, 0, 2, 28)] hst20 fun W21 hst21 => ?_))
      refine then_normal ?_
      rw [show eB B10_3 233 #[vi p, vi ((roomV (pvF Ps p))), .bool false] = eB B10_3 233 #[vi p, vi ((roomV (pvF Ps p))), .bool ((okR (decide (0 ≤ (tbF (pvF Ps p)))) g hz ks (k + 1)))] from by rw [okR_succ (by omega), hs16]; rfl] at hst21
      refine ⟨ks.length - ((k + 1)), by omega, ?_⟩
      have hp22 := hst21.pick [0, 1, 2, 3, 5, 4] (by decide) rfl
      exact ⟨(k + 1), [vi ((k : Int)), .slice A36_8 ((allF' (pvF Ps p)).length) c36_8, vi (((allF' (pvF Ps p)).length : Int)), .bool (decide ((k : Int) < ((allF' (pvF Ps p)).length : Int))), vi ((k : Int)), vi ((k : Int) + 1), .pointer (some ⟨B10_3, 2, none⟩), .bool false, .bool false, undef, undef, undef, undef, undef, undef, undef, undef, .bool false, .pointer (some ⟨B10_3, 2, none⟩)], by omega, rfl, rfl, hp22⟩
    have hs14p : ¬ ((k : Int) < ((allF' (pvF Ps p)).length : Int)) := by simpa using hs14
    refine wp_cond_false (show Act.eval _ _ = .bool false from (congrArg Value.bool hs14)) (wp_exit (then_exit (then_exit (blk_eq (then_normal ?_)))))
    obtain ⟨oA, oc, hm23⟩ := St.openRM (L1 := [eB B6_1 30 #[.slice PA Ps.length pc], eB B9_1 34 (T.map (Value.int .i64)).toArray, eB B11_4 64 #[vi ((pvF Ps p).k), vi ((pvF Ps p).l), .slice A27_4 ((pvF Ps p).its.length) c27_4], eB B10_3 233 #[vi p, vi ((roomV (pvF Ps p))), .bool ((okR (decide (0 ≤ (tbF (pvF Ps p)))) g hz ks k))], eO 147 8 (.slice A36_8 ((allF' (pvF Ps p)).length) c36_8) ((allF' (pvF Ps p)).length) (ks.flatMap (cellsF p))]) (hst13.pick [0, 1, 3, 4, 5, 2] (by decide) rfl)
    simp only [List.cons_append, List.nil_append] at hm23
    refine wp_region_Y [0, 0, 2, 6, 14, 0, 32, 126, 255, 511, 1023] [[], [], [], [], [5], [3], [], [7, 6], [], [], [5]] [[], [], [], [], [], [], [7], [8], [], [], [9]] [[], [], [], [], [], [], [], [6], [], [], [5]] [.k 56 (vp b), .k 57 (vp b), .k 58 (vp b), .k 59 (vp b), .c 60 (.slice oA ((chL L p).length) oc), .c 61 (.agg #[vi p, vi ((roomV (pvF Ps p))), .bool ((okR (decide (0 ≤ (tbF (pvF Ps p)))) g hz ks k))]), .a 62, .a 63, .k 64 (vp b), .k 65 (vp b), .n] (fun ix σ β X => match ix with | 0 => True | 1 => True | 2 => True | 3 => True | 4 => True | 5 => True | 6 => σ 62 = .slice ((some ⟨(pb' (β 62)), 0, none⟩)) 1 1 ∧ X 7 = eO 233 3 (.slice ((some ⟨(pb' (β 62)), 0, none⟩)) 1 1) 1 (kdC (p, (roomV (pvF Ps p)), (okR (decide (0 ≤ (tbF (pvF Ps p)))) g hz ks k))) | 7 => σ 63 = .slice (sA (β 63)) ((chL L p).length + 1) (sC (β 63)) ∧ X 8 = eO 233 3 (.slice (sA (β 63)) ((chL L p).length + 1) (sC (β 63))) ((chL L p).length + 1) ((chL L p ++ [(p, (roomV (pvF Ps p)), (okR (decide (0 ≤ (tbF (pvF Ps p)))) g hz ks k))]).flatMap kdC) | 8 => True | 9 => True | 10 => X 9 = eB b 119 #[.slice (sA (β 63)) ((chL L p).length + 1) (sC (β 63))] | _ => True) [0, 1, 2, 3, 4, 7, 8, 9] [4, 5, 6, 7, 10] [(56, 0, 10, 66)] hm23 ?_ ?_ ?_
    · exact fun ix _ _ _ _ _ _ hs hb hx h => match ix, h with
      | 6, h => by dsimp only at h ⊢; rw [← hs 62 rfl, ← hb 62 rfl, ← hx 7 rfl]; exact h
      | 7, h => by dsimp only at h ⊢; rw [← hs 63 rfl, ← hb 63 rfl, ← hx 8 rfl]; exact h
      | 10, h => by dsimp only at h ⊢; rw [← hb 63 rfl, ← hx 9 rfl]; exact h
      | 0, _ | 1, _ | 2, _ | 3, _ | 4, _ | 5, _ | 8, _ | 9, _ | _ + 11, _ => trivial
    · refine ⟨?_, ?_, ?_, ?_, ?_, trivial⟩
      · exact xs4 rfl id fun cx => run_load1 rfl (by kernel_rfl) (cx.an 3) ((cx.bi 5 rfl).cell 0)
      · exact xs4 rfl id fun cx => run_loadB (n := 3) rfl (by kernel_rfl) (by kernel_rfl) (cx.ou 10) (cx.bi 3 rfl) (nle rfl) rfl
      · refine sv_any rfl rfl fun ρ β W X cx => ?_
        have fF61 : ρ (.tmp 61) = .agg #[vi p, vi ((roomV (pvF Ps p))), .bool ((okR (decide (0 ≤ (tbF (pvF Ps p)))) g hz ks k))] := (cx.an 5)
        exact dv_litN (e := 233) (sz := 3) (xs := [vi p, vi ((roomV (pvF Ps p))), .bool ((okR (decide (0 ≤ (tbF (pvF Ps p)))) g hz ks k))]) rfl (by simp [go_sem, fF61]) rfl (by decide) rfl rfl (fun σ β' X' hs hb hv hx => ⟨hv, hx⟩)
      · refine sv_any rfl rfl fun ρ β W X cx => ?_
        obtain ⟨i0, hi0, hz0, hz1, hz2⟩ := info_parts Tryz.infoKnown
        refine dv_appendN (n := (chL L p).length) (m := 1) (nm := (chL L p).length + 1) (sz := 3) (xs := (chL L p).flatMap kdC) (news := kdC (p, (roomV (pvF Ps p)), (okR (decide (0 ≤ (tbF (pvF Ps p)))) g hz ks k))) (xs' := (chL L p ++ [(p, (roomV (pvF Ps p)), (okR (decide (0 ≤ (tbF (pvF Ps p)))) g hz ks k))]).flatMap kdC) rfl (ty := 117) rfl (by kernel_rfl) hi0 hz0 hz1 hz2 rfl (by decide) (cx.an 4) cx (cx.init 6 _ rfl) rfl (dTn (cx.an 6)).1 (by rfl) (At.of_ownN (cx.row (dTn (cx.an 6)).2 rfl)) (by simp [kdC, Value.oneCell']) (by simp only [maxLen]; omega) (by omega) rfl rfl rfl (by omega) (kd_snoc _ _) (fun σ β' X' hs hb hv hx => ?_)
        exact ⟨hv, hx⟩
      · refine sv_any rfl rfl fun ρ β W X cx => ?_
        exact dv_store (n := 1) rfl (cx.an 9) (dTn (cx.an 7)).1 (by kernel_rfl) (by kernel_rfl) (by kernel_rfl) cx (cx.init 5 _ rfl) rfl (nle rfl) (by kernel_rfl) rfl rfl rfl (fun σ β' X' hs hb hx => by rw [hb 63]; exact hx)
    intro σ β X W24 hD hst24 fr hfr
    obtain ⟨B62_24, hu_B62_24⟩ : ∃ z, pb' (β 62) = z := ⟨_, rfl⟩
    obtain ⟨A63_24, hu_A63_24⟩ : ∃ z, sA (β 63) = z := ⟨_, rfl⟩
    obtain ⟨c63_24, hu_c63_24⟩ : ∃ z, sC (β 63) = z := ⟨_, rfl⟩
    simp only [exq 7 ((dTn (hD 6 lq)).2), exq 8 ((dTn (hD 7 lq)).2), exq 9 ((dTn (hD 10 lq))), hu_B62_24, hu_A63_24, hu_c63_24] at hst24
    simp only [ed 62 ((dTn (hD 6 lq)).1), ed 63 ((dTn (hD 7 lq)).1), hu_B62_24, hu_A63_24, hu_c63_24] at hfr
    clear hD hu_B62_24 hu_A63_24 hu_c63_24; subst hfr; clear σ β X
    refine bodyPost_end (v := .tuple #[]) (by simp [results, Tryz.results52, go_sem]) rfl ?_
    have hkn : knR g hz p (pvF Ps p) = (p, (roomV (pvF Ps p)), (okR (decide (0 ≤ (tbF (pvF Ps p)))) g hz ks k)) := by rw [knR, hs6, okR, List.take_of_length_le (by omega), ← hks, List.all_map, ← tbF_dec]; rfl
    rw [hkn]
    exact ⟨rfl, St.rm' rfl (by rw [List.length_append]; rfl) (hst24.pick [7, 6] (by decide) rfl)⟩
  refine wp_cond_false (show Act.eval _ _ = .bool false from (congrArg Value.bool hs6)) (wp_skip (then_normal (wp_seq (wp_region_Y [0, 0, 3, 7] [[0]] [[], [], [6]] [] [.c 34 (.agg #[.slice PA Ps.length pc]), .k 35 (vi p), .a 36, .a 13] (fun ix σ β X => match ix with | 0 => True | 1 => True | 2 => σ 36 = .slice (sA (β 36)) ((allF' (pvF Ps p)).length) (sC (β 36)) ∧ X 6 = eFnd 147 (.slice (sA (β 36)) ((allF' (pvF Ps p)).length) (sC (β 36))) (allF' (pvF Ps p)) p | 3 => σ 13 = .slice (sA (β 36)) ((allF' (pvF Ps p)).length) (sC (β 36)) | _ => True) [0, 1, 2, 3, 4, 5, 6] [0, 2, 3] [(13, 3, 1, 14), (20, 0, 3, 23)] hst5 ?_ ?_ ?_))))
  · exact fun ix _ _ _ _ _ _ hs hb hx h => match ix, h with
    | 2, h => by dsimp only at h ⊢; rw [← hs 36 rfl, ← hb 36 rfl, ← hx 6 rfl]; exact h
    | 3, h => by dsimp only at h ⊢; rw [← hs 13 rfl, ← hb 36 rfl]; exact h
    | 0, _ | 1, _ | _ + 4, _ => trivial
  · refine ⟨?_, ?_, ?_, trivial⟩
    · exact xs4 rfl id fun cx => run_loadB (n := 1) rfl (by kernel_rfl) (by kernel_rfl) (cx.ou 6) (cx.bi 0 rfl) (nle rfl) rfl
    · refine sv_any rfl rfl fun ρ β W X cx => ?_
      refine DoesU.call (run_callF (args := #[.agg #[.slice PA Ps.length pc], vi p]) rfl cx.sees rfl (by kernel_rfl) (map2 (cx.an 0) (cx.an 1))) ?_
      refine (rall9_any _ _ Ps p _ (hP _ cx.upd)).mono ?_
      rintro e W1 ⟨A4, c4, ks4, hks4, rfl, ho, hx⟩
      refine ⟨_, rfl, post_call [eFnd 147 (.slice A4 (allF' (pvF Ps p)).length c4) (allF' (pvF Ps p)) p] rfl rfl hx (one_new (eFnd_new hks4 ho)) (List.pairwise_singleton _ _) (fun σ β' X' hs hb hv hN => ?_)⟩
      have hv1 := (hv 36 rfl).1; have hv2 := (hv 36 rfl).2
      exact ⟨hv1.trans (by rw [hv2]; rfl), (by rw [hv2]; exact (List.cons.inj hN).1)⟩
    · exact sv rfl rfl rfl rfl rfl _ (fun _ _ _ h => h) (fun β β' h => by rw [h 36 (by decide)]) fun ρ β W X cx => run_assign' rfl (dTn (cx.an 2)).1
  intro σ β X W25 hD hst25 fr hfr
  obtain ⟨A36_25, hu_A36_25⟩ : ∃ z, sA (β 36) = z := ⟨_, rfl⟩
  obtain ⟨c36_25, hu_c36_25⟩ : ∃ z, sC (β 36) = z := ⟨_, rfl⟩
  simp only [exq 6 ((dTn (hD 2 lq)).2), hu_A36_25, hu_c36_25] at hst25
  simp only [ed 36 ((dTn (hD 2 lq)).1), ed 13 ((dTn (hD 3 lq))), hu_A36_25, hu_c36_25] at hfr
  clear hD hu_A36_25 hu_c36_25; subst hfr; clear σ β X
  refine then_normal (wp_seq (wp_seq (wp_region_P [0] [.k 14 (vi 0)] [(14, 0, 1, 15)] hst25 fun W26 hst26 => ?_)))
  refine then_normal (wp_block ?_)
  obtain ⟨ks, hks, hKO⟩ := (hst26.get 6 rfl).holds
  have hm27 := St.repl (L1 := [eB B6_1 30 #[.slice PA Ps.length pc], eB B9_1 34 (T.map (Value.int .i64)).toArray, eRM b r3_2 (chL L p), eB B10_3 233 #[vi p, vi 0, .bool (decide (0 ≤ (tbF (pvF Ps p))))], eO 9 1 (.slice A27_4 ((pvF Ps p).its.length) c27_4) ((pvF Ps p).its.length) (strs (pvF Ps p).its), eB B11_4 64 #[vi ((pvF Ps p).k), vi ((pvF Ps p).l), .slice A27_4 ((pvF Ps p).its.length) c27_4]]) (L2 := []) (E' := eO 147 8 (.slice A36_25 ((allF' (pvF Ps p)).length) c36_25) ((allF' (pvF Ps p)).length) (ks.flatMap (cellsF p))) hst26 rfl (fun _ => hKO) (eO_loc _ _ _ _ _)
  simp only [List.cons_append, List.nil_append] at hm27
  have hkl := ks_len hks
  rw [show eB B10_3 233 #[vi p, vi 0, .bool (decide (0 ≤ (tbF (pvF Ps p))))] = eB B10_3 233 #[vi p, vi 0, .bool ((okR (decide (0 ≤ (tbF (pvF Ps p)))) g hz ks 0))] from by rw [okR_0]] at hm27
  refine wp_loopN (fun mz az W => ∃ k : Nat, ∃ u28_ : List Value, k ≤ ks.length ∧ mz = ks.length - k ∧ az = ⟨#[vp b, .agg #[.slice PA Ps.length pc], vi p, vi hz, .agg (T.map (Value.int .i64)).toArray, undef, vp B6_1, undef, undef, vp B9_1, vp B10_3, vp B11_4, .bool ((pvF Ps p).ok), .slice A36_25 ((allF' (pvF Ps p)).length) c36_25, vi ((k : Int)), vp b, vi p, .tuple #[], vi p, .agg #[.slice PA Ps.length pc], vi p, vi ((tbF (pvF Ps p))), .bool (decide (0 ≤ (tbF (pvF Ps p)))), .agg #[vi p, vi 0, .bool (decide (0 ≤ (tbF (pvF Ps p))))], .tuple #[.agg #[vi ((pvF Ps p).k), vi ((pvF Ps p).l), .slice A27_4 ((pvF Ps p).its.length) c27_4], .bool ((pvF Ps p).ok)], .agg #[.slice PA Ps.length pc], vi p, .tuple #[.agg #[vi ((pvF Ps p).k), vi ((pvF Ps p).l), .slice A27_4 ((pvF Ps p).its.length) c27_4], .bool ((pvF Ps p).ok)], .agg #[vi ((pvF Ps p).k), vi ((pvF Ps p).l), .slice A27_4 ((pvF Ps p).its.length) c27_4], .bool ((pvF Ps p).ok), .bool ((pvF Ps p).ok), undef, undef, undef, .agg #[.slice PA Ps.length pc], vi p, .slice A36_25 ((allF' (pvF Ps p)).length) c36_25, (gu u28_ 0), (gu u28_ 1), (gu u28_ 2), (gu u28_ 3), (gu u28_ 4), (gu u28_ 5), (gu u28_ 6), (gu u28_ 7), (gu u28_ 8), (gu u28_ 9), (gu u28_ 10), (gu u28_ 11), (gu u28_ 12), (gu u28_ 13), (gu u28_ 14), (gu u28_ 15), (gu u28_ 16), (gu u28_ 17), (gu u28_ 18), undef, undef, undef, undef, undef, undef, undef, undef, undef, undef], []⟩ ∧ St w (b :: r.toList) [eB B6_1 30 #[.slice PA Ps.length pc], eB B9_1 34 (T.map (Value.int .i64)).toArray, eRM b r3_2 (chL L p), eB B10_3 233 #[vi p, vi 0, .bool ((okR (decide (0 ≤ (tbF (pvF Ps p)))) g hz ks k))], eB B11_4 64 #[vi ((pvF Ps p).k), vi ((pvF Ps p).l), .slice A27_4 ((pvF Ps p).its.length) c27_4], eO 147 8 (.slice A36_25 ((allF' (pvF Ps p)).length) c36_25) ((allF' (pvF Ps p)).length) (ks.flatMap (cellsF p))] W) (ks.length - 0) ?_ ?_
  · -- the loop begins
    have hp29 := hm27.pick [0, 1, 2, 3, 5, 6] (by decide) rfl
    exact ⟨0, [undef, undef, undef, undef, undef, undef, undef, undef, undef, undef, undef, undef, undef, undef, undef, undef, undef, undef, undef], by omega, rfl, rfl, hp29⟩
  rintro n28 a28 W28 ⟨k, u28_, hk, rfl, rfl, hst28⟩
  refine wp_seq (wp_seq (wp_region_P [0, 0, 2, 7] [.k 37 (vi ((k : Int))), .k 38 (.slice A36_25 ((allF' (pvF Ps p)).length) c36_25), .k 39 (vi (((allF' (pvF Ps p)).length : Int))), .k 40 (.bool (decide ((k : Int) < ((allF' (pvF Ps p)).length : Int))))] [(37, 0, 4, 41)] hst28 fun W30 hst30 => ?_))
  refine then_normal ?_
  rcases Bool.eq_false_or_eq_true (decide ((k : Int) < ((allF' (pvF Ps p)).length : Int))) with hs31 | hs31
  · skip
    have hs31p : (k : Int) < ((allF' (pvF Ps p)).length : Int) := by simpa using hs31
    refine wp_cond_true (show Act.eval _ _ = .bool true from (congrArg Value.bool hs31)) (wp_skip (then_normal (wp_seq (wp_block ?_))))
    rcases Bool.eq_false_or_eq_true ((okR (decide (0 ≤ (tbF (pvF Ps p)))) g hz ks k)) with hs33 | hs33
    · skip
      refine wp_region_Y [0, 1, 3, 7, 7, 31, 63, 127, 7, 7, 1023, 2047, 4095, 8191] [[], [3], [], [], [], [5], [], [5], [], [1], [], [], [], [3]] [[], [], [], [], [], [], [], [], [], [], [], [], [], [6]] [[], [], [], [], [], [], [], [], [], [], [], [], [], [3]] [.k 43 (.pointer (some ⟨B10_3, 2, none⟩)), .c 44 (.bool true), .k 45 (.bool true), .k 46 (.slice A36_25 ((allF' (pvF Ps p)).length) c36_25), .k 47 (vi ((k : Int))), .c 48 (.pointer (some ((ad A36_25).add (k * 8)))), .c 49 (.pointer (some ((ad A36_25).add (k * 8 + 2)))), .c 50 (.agg #[vi ((ks.getD k fk0).1.2.1), vi ((ks.getD k fk0).1.2.2.1), vi ((ks.getD k fk0).1.2.2.2.1), vi ((ks.getD k fk0).1.2.2.2.2.1), .bool ((ks.getD k fk0).1.2.2.2.2.2.1), .slice ((ks.getD k fk0).2.1) ((ks.getD k fk0).1.2.2.2.2.2.2.length) ((ks.getD k fk0).2.2)]), .k 51 (vi hz), .c 52 (.agg (T.map (Value.int .i64)).toArray), .c 53 (.bool ((allK g hz (ks.getD k fk0)))), .k 54 (.bool ((allK g hz (ks.getD k fk0)))), .k 55 (.pointer (some ⟨B10_3, 2, none⟩)), .n] (fun ix σ β X => match ix with | 0 => True | 1 => True | 2 => True | 3 => True | 4 => True | 5 => True | 6 => True | 7 => True | 8 => True | 9 => True | 10 => True | 11 => True | 12 => True | 13 => X 6 = eB B10_3 233 #[vi p, vi 0, .bool ((allK g hz (ks.getD k fk0)))] | _ => True) [0, 1, 2, 4, 5, 6] [1, 5, 6, 7, 9, 10, 13] [(43, 0, 13, 56)] hst30 ?_ ?_ ?_
      · exact fun ix _ _ _ _ _ _ hs hb hx h => match ix, h with
        | 13, h => by dsimp only at h ⊢; rw [← hx 6 rfl]; exact h
        | 0, _ | 1, _ | 2, _ | 3, _ | 4, _ | 5, _ | 6, _ | 7, _ | 8, _ | 9, _ | 10, _ | 11, _ | 12, _ | _ + 14, _ => trivial
      · refine ⟨?_, ?_, ?_, ?_, ?_, ?_, ?_, trivial⟩
        · exact s4 rfl (fun _ _ _ h => h.trans (congrArg Value.bool hs33)) fun cx => run_load1 rfl (by kernel_rfl) (cx.an 0) ((cx.bi 3 rfl).cell 2)
        · exact xs5 rfl id (fun cx => (cx.an 2)) fun cx => run_indexSlM (e := 147) (m := k) (sz := 8) rfl (by kernel_rfl) (by kernel_rfl) (cx.an 3) (cx.an 4) (by omega) (by omega) (At.of_ownN (cx.ri 5 rfl)) (by have h_ := flatLen (f := (cellsF p)) (sz := 8) (cellsF_len p) ks; show 0 < (List.flatMap (cellsF p) ks).length; omega)
        · exact xs5 rfl id (fun cx => (cx.an 2)) fun cx => run_fieldAd rfl (by kernel_rfl) (cx.an 5)
        · exact xs5 rfl id (fun cx => (cx.an 2)) fun cx => run_loadElt (f := (cellsF p)) (m := k) (sz := 8) (off := 2) (n := 6) rfl (by kernel_rfl) (by kernel_rfl) (cx.an 6) rfl (cellsF_len p) (At.of_ownN (cx.ri 5 rfl)) (getD_some (ts := ks) (m := k) fk0 (by omega)) (fun k hk => match k, hk with | 0, _ => rfl | 1, _ => rfl | 2, _ => rfl | 3, _ => rfl | 4, _ => rfl | 5, _ => rfl | k + 6, hk => absurd hk (by omega))
        · exact xs5 rfl id (fun cx => (cx.an 2)) fun cx => run_loadAr (n := 128) rfl (by kernel_rfl) (by kernel_rfl) (cx.ou 9) (cx.bi 1 rfl) (by simp [hT])
        · exact sv_call_on rfl rfl rfl rfl rfl rfl (fun _ _ _ h => h) (fun _ _ _ _ cx => (cx.an 2)) fun ρ β W X cx => ⟨_, _, run_callF (args := #[.agg #[vi ((ks.getD k fk0).1.2.1), vi ((ks.getD k fk0).1.2.2.1), vi ((ks.getD k fk0).1.2.2.2.1), vi ((ks.getD k fk0).1.2.2.2.2.1), .bool ((ks.getD k fk0).1.2.2.2.2.2.1), .slice ((ks.getD k fk0).2.1) ((ks.getD k fk0).1.2.2.2.2.2.2.length) ((ks.getD k fk0).2.2)], vi hz, .agg (T.map (Value.int .i64)).toArray]) rfl cx.sees rfl (by kernel_rfl) (map3 (cx.an 7) (cx.an 8) (cx.an 9)), rall_any hz T g _ _ _ _ _ _ _ _ _ hT hg⟩
        · refine sv_any rfl rfl fun ρ β W X cx => ?_
          exact dv_store (n := 1) rfl (cx.an 12) (cx.an 11) (by kernel_rfl) (by kernel_rfl) (by kernel_rfl) cx (cx.init 3 _ rfl) rfl (nle rfl) (by kernel_rfl) rfl rfl rfl (fun σ β' X' hs hb hx => hx)
      intro σ β X W34 hD hst34 fr hfr
      simp only [exq 6 ((dTn (hD 13 lq)))] at hst34
      clear hD; subst hfr; clear σ β X
      refine blk_normal (then_normal (wp_region_P [0, 1, 3] [.k 41 (vi ((k : Int))), tI 42 ((k : Int) + 1) (by omega), .k 14 (vi ((k : Int) + 1))] [(14, 2, 1, 15), (26, 0, 2, 28)] hst34 fun W35 hst35 => ?_))
      refine then_normal ?_
      rw [show eB B10_3 233 #[vi p, vi 0, .bool ((allK g hz (ks.getD k fk0)))] = eB B10_3 233 #[vi p, vi 0, .bool ((okR (decide (0 ≤ (tbF (pvF Ps p)))) g hz ks (k + 1)))] from by rw [okR_succ (by omega), hs33]; rfl] at hst35
      refine ⟨ks.length - ((k + 1)), by omega, ?_⟩
      have hp36 := hst35.pick [0, 1, 2, 5, 3, 4] (by decide) rfl
      exact ⟨(k + 1), [vi ((k : Int)), .slice A36_25 ((allF' (pvF Ps p)).length) c36_25, vi (((allF' (pvF Ps p)).length : Int)), .bool (decide ((k : Int) < ((allF' (pvF Ps p)).length : Int))), vi ((k : Int)), vi ((k : Int) + 1), .pointer (some ⟨B10_3, 2, none⟩), .bool true, .bool true, .slice A36_25 ((allF' (pvF Ps p)).length) c36_25, vi ((k : Int)), .pointer (some ((ad A36_25).add (k * 8))), .pointer (some ((ad A36_25).add (k * 8 + 2))), .agg #[vi ((ks.getD k fk0).1.2.1), vi ((ks.getD k fk0).1.2.2.1), vi ((ks.getD k fk0).1.2.2.2.1), vi ((ks.getD k fk0).1.2.2.2.2.1), .bool ((ks.getD k fk0).1.2.2.2.2.2.1), .slice ((ks.getD k fk0).2.1) ((ks.getD k fk0).1.2.2.2.2.2.2.length) ((ks.getD k fk0).2.2)], vi hz, .agg (T.map (Value.int .i64)).toArray, .bool ((allK g hz (ks.getD k fk0))), .bool ((allK g hz (ks.getD k fk0))), .pointer (some ⟨B10_3, 2, none⟩)], by omega, rfl, rfl, hp36⟩
    refine wp_region_Y [0, 1, 3, 7, 7, 31, 63, 127, 7, 7, 1023, 2047, 4095, 8191] [[], [3], [], [], [], [], [], [], [], [], [], [], [], [3]] [[], [], [], [], [], [], [], [], [], [], [], [], [], [6]] [[], [], [], [], [], [], [], [], [], [], [], [], [], [3]] [.k 43 (.pointer (some ⟨B10_3, 2, none⟩)), .c 44 (.bool false), .k 45 (.bool false), .u 46, .u 47, .u 48, .u 49, .u 50, .u 51, .u 52, .u 53, .k 54 (.bool false), .k 55 (.pointer (some ⟨B10_3, 2, none⟩)), .n] (fun ix σ β X => match ix with | 0 => True | 1 => True | 2 => True | 3 => True | 4 => True | 5 => True | 6 => True | 7 => True | 8 => True | 9 => True | 10 => True | 11 => True | 12 => True | 13 => X 6 = eB B10_3 233 #[vi p, vi 0, .bool false] | _ => True) [0, 1, 2, 4, 5, 6] [1, 13] [(43, 0, 13, 56)] hst30 ?_ ?_ ?_
    · exact fun ix _ _ _ _ _ _ hs hb hx h => match ix, h with
      | 13, h => by dsimp only at h ⊢; rw [← hx 6 rfl]; exact h
      | 0, _ | 1, _ | 2, _ | 3, _ | 4, _ | 5, _ | 6, _ | 7, _ | 8, _ | 9, _ | 10, _ | 11, _ | 12, _ | _ + 14, _ => trivial
    · refine ⟨?_, ?_, trivial⟩
      · exact s4 rfl (fun _ _ _ h => h.trans (congrArg Value.bool hs33)) fun cx => run_load1 rfl (by kernel_rfl) (cx.an 0) ((cx.bi 3 rfl).cell 2)
      · refine sv_any rfl rfl fun ρ β W X cx => ?_
        exact dv_store (n := 1) rfl (cx.an 12) (cx.an 11) (by kernel_rfl) (by kernel_rfl) (by kernel_rfl) cx (cx.init 3 _ rfl) rfl (nle rfl) (by kernel_rfl) rfl rfl rfl (fun σ β' X' hs hb hx => hx)
    intro σ β X W37 hD hst37 fr hfr
    simp only [exq 6 ((dTn (hD 13 lq)))] at hst37
    clear hD; subst hfr; clear σ β X
    refine blk_normal (then_normal (wp_region_P [0, 1, 3] [.k 41 (vi ((k : Int))), tI 42 ((k : Int) + 1) (by omega), .k 14 (vi ((k : Int) + 1))] [(14, 2, 1, 15), (26, 0, 2, 28)] hst37 fun W38 hst38 => ?_))
    refine then_normal ?_
    rw [show eB B10_3 233 #[vi p, vi 0, .bool false] = eB B10_3 233 #[vi p, vi 0, .bool ((okR (decide (0 ≤ (tbF (pvF Ps p)))) g hz ks (k + 1)))] from by rw [okR_succ (by omega), hs33]; rfl] at hst38
    refine ⟨ks.length - ((k + 1)), by omega, ?_⟩
    have hp39 := hst38.pick [0, 1, 2, 5, 3, 4] (by decide) rfl
    exact ⟨(k + 1), [vi ((k : Int)), .slice A36_25 ((allF' (pvF Ps p)).length) c36_25, vi (((allF' (pvF Ps p)).length : Int)), .bool (decide ((k : Int) < ((allF' (pvF Ps p)).length : Int))), vi ((k : Int)), vi ((k : Int) + 1), .pointer (some ⟨B10_3, 2, none⟩), .bool false, .bool false, undef, undef, undef, undef, undef, undef, undef, undef, .bool false, .pointer (some ⟨B10_3, 2, none⟩)], by omega, rfl, rfl, hp39⟩
  have hs31p : ¬ ((k : Int) < ((allF' (pvF Ps p)).length : Int)) := by simpa using hs31
  refine wp_cond_false (show Act.eval _ _ = .bool false from (congrArg Value.bool hs31)) (wp_exit (then_exit (then_exit (blk_eq (then_normal ?_)))))
  obtain ⟨oA, oc, hm40⟩ := St.openRM (L1 := [eB B6_1 30 #[.slice PA Ps.length pc], eB B9_1 34 (T.map (Value.int .i64)).toArray, eB B10_3 233 #[vi p, vi 0, .bool ((okR (decide (0 ≤ (tbF (pvF Ps p)))) g hz ks k))], eB B11_4 64 #[vi ((pvF Ps p).k), vi ((pvF Ps p).l), .slice A27_4 ((pvF Ps p).its.length) c27_4], eO 147 8 (.slice A36_25 ((allF' (pvF Ps p)).length) c36_25) ((allF' (pvF Ps p)).length) (ks.flatMap (cellsF p))]) (hst30.pick [0, 1, 3, 4, 5, 2] (by decide) rfl)
  simp only [List.cons_append, List.nil_append] at hm40
  refine wp_region_Y [0, 0, 2, 6, 14, 0, 32, 126, 255, 511, 1023] [[], [], [], [], [5], [2], [], [7, 6], [], [], [5]] [[], [], [], [], [], [], [7], [8], [], [], [9]] [[], [], [], [], [], [], [], [6], [], [], [5]] [.k 56 (vp b), .k 57 (vp b), .k 58 (vp b), .k 59 (vp b), .c 60 (.slice oA ((chL L p).length) oc), .c 61 (.agg #[vi p, vi 0, .bool ((okR (decide (0 ≤ (tbF (pvF Ps p)))) g hz ks k))]), .a 62, .a 63, .k 64 (vp b), .k 65 (vp b), .n] (fun ix σ β X => match ix with | 0 => True | 1 => True | 2 => True | 3 => True | 4 => True | 5 => True | 6 => σ 62 = .slice ((some ⟨(pb' (β 62)), 0, none⟩)) 1 1 ∧ X 7 = eO 233 3 (.slice ((some ⟨(pb' (β 62)), 0, none⟩)) 1 1) 1 (kdC (p, 0, (okR (decide (0 ≤ (tbF (pvF Ps p)))) g hz ks k))) | 7 => σ 63 = .slice (sA (β 63)) ((chL L p).length + 1) (sC (β 63)) ∧ X 8 = eO 233 3 (.slice (sA (β 63)) ((chL L p).length + 1) (sC (β 63))) ((chL L p).length + 1) ((chL L p ++ [(p, 0, (okR (decide (0 ≤ (tbF (pvF Ps p)))) g hz ks k))]).flatMap kdC) | 8 => True | 9 => True | 10 => X 9 = eB b 119 #[.slice (sA (β 63)) ((chL L p).length + 1) (sC (β 63))] | _ => True) [0, 1, 2, 3, 4, 7, 8, 9] [4, 5, 6, 7, 10] [(56, 0, 10, 66)] hm40 ?_ ?_ ?_
  · exact fun ix _ _ _ _ _ _ hs hb hx h => match ix, h with
    | 6, h => by dsimp only at h ⊢; rw [← hs 62 rfl, ← hb 62 rfl, ← hx 7 rfl]; exact h
    | 7, h => by dsimp only at h ⊢; rw [← hs 63 rfl, ← hb 63 rfl, ← hx 8 rfl]; exact h
    | 10, h => by dsimp only at h ⊢; rw [← hb 63 rfl, ← hx 9 rfl]; exact h
    | 0, _ | 1, _ | 2, _ | 3, _ | 4, _ | 5, _ | 8, _ | 9, _ | _ + 11, _ => trivial
  · refine ⟨?_, ?_, ?_, ?_, ?_, trivial⟩
    · exact xs4 rfl id fun cx => run_load1 rfl (by kernel_rfl) (cx.an 3) ((cx.bi 5 rfl).cell 0)
    · exact xs4 rfl id fun cx => run_loadB (n := 3) rfl (by kernel_rfl) (by kernel_rfl) (cx.ou 10) (cx.bi 2 rfl) (nle rfl) rfl
    · refine sv_any rfl rfl fun ρ β W X cx => ?_
      have fF61 : ρ (.tmp 61) = .agg #[vi p, vi 0, .bool ((okR (decide (0 ≤ (tbF (pvF Ps p)))) g hz ks k))] := (cx.an 5)
      exact dv_litN (e := 233) (sz := 3) (xs := [vi p, vi 0, .bool ((okR (decide (0 ≤ (tbF (pvF Ps p)))) g hz ks k))]) rfl (by simp [go_sem, fF61]) rfl (by decide) rfl rfl (fun σ β' X' hs hb hv hx => ⟨hv, hx⟩)
    · refine sv_any rfl rfl fun ρ β W X cx => ?_
      obtain ⟨i0, hi0, hz0, hz1, hz2⟩ := info_parts Tryz.infoKnown
      refine dv_appendN (n := (chL L p).length) (m := 1) (nm := (chL L p).length + 1) (sz := 3) (xs := (chL L p).flatMap kdC) (news := kdC (p, 0, (okR (decide (0 ≤ (tbF (pvF Ps p)))) g hz ks k))) (xs' := (chL L p ++ [(p, 0, (okR (decide (0 ≤ (tbF (pvF Ps p)))) g hz ks k))]).flatMap kdC) rfl (ty := 117) rfl (by kernel_rfl) hi0 hz0 hz1 hz2 rfl (by decide) (cx.an 4) cx (cx.init 6 _ rfl) rfl (dTn (cx.an 6)).1 (by rfl) (At.of_ownN (cx.row (dTn (cx.an 6)).2 rfl)) (by simp [kdC, Value.oneCell']) (by simp only [maxLen]; omega) (by omega) rfl rfl rfl (by omega) (kd_snoc _ _) (fun σ β' X' hs hb hv hx => ?_)
      exact ⟨hv, hx⟩
    · refine sv_any rfl rfl fun ρ β W X cx => ?_
      exact dv_store (n := 1) rfl (cx.an 9) (dTn (cx.an 7)).1 (by kernel_rfl) (by kernel_rfl) (by kernel_rfl) cx (cx.init 5 _ rfl) rfl (nle rfl) (by kernel_rfl) rfl rfl rfl (fun σ β' X' hs hb hx => by rw [hb 63]; exact hx)
  intro σ β X W41 hD hst41 fr hfr
  obtain ⟨B62_41, hu_B62_41⟩ : ∃ z, pb' (β 62) = z := ⟨_, rfl⟩
  obtain ⟨A63_41, hu_A63_41⟩ : ∃ z, sA (β 63) = z := ⟨_, rfl⟩
  obtain ⟨c63_41, hu_c63_41⟩ : ∃ z, sC (β 63) = z := ⟨_, rfl⟩
  simp only [exq 7 ((dTn (hD 6 lq)).2), exq 8 ((dTn (hD 7 lq)).2), exq 9 ((dTn (hD 10 lq))), hu_B62_41, hu_A63_41, hu_c63_41] at hst41
  simp only [ed 62 ((dTn (hD 6 lq)).1), ed 63 ((dTn (hD 7 lq)).1), hu_B62_41, hu_A63_41, hu_c63_41] at hfr
  clear hD hu_B62_41 hu_A63_41 hu_c63_41; subst hfr; clear σ β X
  refine bodyPost_end (v := .tuple #[]) (by simp [results, Tryz.results52, go_sem]) rfl ?_
  have hkn : knR g hz p (pvF Ps p) = (p, 0, (okR (decide (0 ≤ (tbF (pvF Ps p)))) g hz ks k)) := by rw [knR, hs6, okR, List.take_of_length_le (by omega), ← hks, List.all_map, ← tbF_dec]; rfl
  rw [hkn]
  exact ⟨rfl, St.rm' rfl (by rw [List.length_append]; rfl) (hst41.pick [7, 6] (by decide) rfl)⟩
end
end Go.Proofs.YtjnplglnnamfdaaGreatDoor
namespace Go.Proofs.YtjnplglnnamfdaaGreatDoor
section
open Go.RowKit
set_option linter.unusedVariables false
set_option linter.unusedSimpArgs false
def Agr (m : Int → Option KN) (L : List KD) : Prop := ∀ x, (m x).isSome = (findR L x).isSome ∧ (m x).getD (false, 0) = ((fdR L x).2.2, (fdR L x).2.1)
theorem agr_nil : Agr (fun _ => none) [] := fun x => ⟨rfl, rfl⟩
theorem findR_app (A B : List KD) (x : Int) : findR (A ++ B) x = (findR A x).or (findR B x) := by
  induction A with
  | nil => rfl
  | cons k A ih =>
    rw [List.cons_append, findR, findR]
    by_cases h : k.1 = x
    · rw [if_pos h, if_pos h]; rfl
    · rw [if_neg h, if_neg h, ih]
theorem findR_ch (L : List KD) (p x : Int) : findR (chL L p) x = if x = p then none else findR L x := by
  induction L with
  | nil => simp [chL, findR]
  | cons k L ih =>
    rw [chL, List.filter_cons, ← chL]
    by_cases h : k.1 = p
    · rw [if_neg (by simp [h]), ih]
      by_cases h2 : x = p
      · rw [if_pos h2, if_pos h2]
      · rw [if_neg h2, if_neg h2, findR, if_neg (by omega)]
    · rw [if_pos (by simp [h]), findR, findR, ih]
      by_cases h2 : x = p
      · rw [if_pos h2, if_pos h2, if_neg (by omega)]
      · rw [if_neg h2, if_neg h2]
theorem agr_del {m : Int → Option KN} {L : List KD} (h : Agr m L) (p : Int) : Agr (putM m p none) (chL L p) := fun x => by
  have hx := h x
  rw [fdR, findR_ch, putM]
  by_cases e : x = p
  · rw [if_pos e, if_pos e]; exact ⟨rfl, rfl⟩
  · rw [if_neg e, if_neg e]; exact hx
theorem agr_look {m : Int → Option KN} {L : List KD} (h : Agr m L) (g : Int → Int) (hz p : Int) (v : PV) : Agr (putM m p (some (lookF g hz v))) (chL L p ++ [knR g hz p v]) := fun x => by
  have hx := h x
  rw [fdR, findR_app, findR_ch, putM, knR_look]
  by_cases e : x = p
  · rw [if_pos e, if_pos e, findR, if_pos e.symm]; exact ⟨rfl, rfl⟩
  · rw [if_neg e, if_neg e, findR, if_neg (fun e' => e e'.symm), findR, Option.or_none]; exact hx
theorem agr_room {m : Int → Option KN} {L : List KD} (h : Agr m L) (rm : Int) (ss : List Int) : roomM m rm ss = roomR L rm ss := by
  induction ss with
  | nil => rfl
  | cons s ss ih => rw [roomM, roomR, (h s).1, (h s).2, ih]
theorem agr_all {m : Int → Option KN} {L : List KD} (h : Agr m L) (x : Int) : ((m x).getD (false, 0)).1 = (fdR L x).2.2 := by rw [(h x).2]
theorem agr_len {L : List KD} (p : Int) (k : KD) : (chL L p ++ [k]).length ≤ L.length + 1 := by
  have := chL_len L p
  simp only [List.length_append, List.length_cons, List.length_nil]; omega
set_option maxRecDepth 100000 in
set_option maxHeartbeats 2000000 in
theorem vchange_nil (x : Int) (w : World) :
    Calls Tryz.prog 51 #[.pointer none, .int .i64 x] w (Ret (.tuple #[]) w) := by
  go_enter Tryz.func51, Tryz.ntmps51
  have hst0 := St.start w
  refine wp_seq (wp_region_Z [0, 1] [] [.k 4 (.pointer none), .c 5 (.bool false)] [] [1] [(4, 0, 2, 6)] hst0 ?_ fun W1 hst1 => ?_)
  · refine ⟨?_, trivial⟩
    · exact sv0 rfl rfl rfl rfl rfl (fun _ _ _ h => h) fun ρ β W X cx => by
        have fF4 : ρ (.tmp 4) = .pointer none := (cx.an 0)
        simp [go_sem, cx.sees.const, fF4]
  refine then_normal (wp_cond_false (show Act.eval _ _ = .bool false from rfl) (wp_skip ?_))
  refine bodyPost_end (v := .tuple #[]) (by simp [results, Tryz.results51, go_sem]) rfl ?_
  exact Ret.of rfl hst1.ext
set_option maxRecDepth 100000 in
set_option maxHeartbeats 2000000 in
theorem vlook_nil (t : TypeId) (v : Value) (p hz : Int) (t2 : TypeId) (v2 : Value) (w : World) :
    Calls Tryz.prog 50 #[.pointer none, .iface t (v), .int .i64 p, .int .i64 hz, .iface t2 (v2)] w (Ret (.tuple #[]) w) := by
  go_enter Tryz.func50, Tryz.ntmps50
  have hst0 := St.start w
  refine wp_seq (wp_region_Y [0, 0] [] [[0], [1]] [] [.a 8, .a 9] (fun ix σ β X => match ix with | 0 => σ 8 = vp (pb (β 8)) ∧ X 0 = eB (pb (β 8)) 3 #[vi hz] | 1 => σ 9 = vp (pb (β 9)) ∧ X 1 = eB (pb (β 9)) 138 #[.iface t2 (v2)] | _ => True) [0, 1] [0, 1] [(8, 0, 2, 10)] hst0 ?_ ?_ ?_)
  · exact fun ix _ _ _ _ _ _ hs hb hx h => match ix, h with
    | 0, h => by dsimp only at h ⊢; rw [← hs 8 rfl, ← hb 8 rfl, ← hx 0 rfl]; exact h
    | 1, h => by dsimp only at h ⊢; rw [← hs 9 rfl, ← hb 9 rfl, ← hx 1 rfl]; exact h
    | _ + 2, _ => trivial
  · refine ⟨?_, ?_, trivial⟩
    · refine sv_any rfl rfl fun ρ β W X cx => ?_
      exact dv_box (cs := #[vi hz]) rfl (cx.ou 3) rfl rfl rfl (fun σ β' X' hs hb hv hx => ⟨hv, hx⟩)
    · refine sv_any rfl rfl fun ρ β W X cx => ?_
      exact dv_box (cs := #[.iface t2 (v2)]) rfl (cx.ou 4) rfl rfl rfl (fun σ β' X' hs hb hv hx => ⟨hv, hx⟩)
  intro σ β X W1 hD hst1 fr hfr
  obtain ⟨B8_1, hu_B8_1⟩ : ∃ z, pb (β 8) = z := ⟨_, rfl⟩
  obtain ⟨B9_1, hu_B9_1⟩ : ∃ z, pb (β 9) = z := ⟨_, rfl⟩
  simp only [exq 0 ((dTn (hD 0 lq)).2), exq 1 ((dTn (hD 1 lq)).2), hu_B8_1, hu_B9_1] at hst1
  simp only [ed 8 ((dTn (hD 0 lq)).1), ed 9 ((dTn (hD 1 lq)).1), hu_B8_1, hu_B9_1] at hfr
  clear hD hu_B8_1 hu_B9_1; subst hfr; clear σ β X
  refine then_normal (wp_seq (wp_seq (wp_region_Z [0, 1] [] [.k 14 (.pointer none), .c 15 (.bool true)] [0, 1] [1] [(14, 0, 2, 16)] hst1 ?_ fun W2 hst2 => ?_)))
  · refine ⟨?_, trivial⟩
    · exact sv0 rfl rfl rfl rfl rfl (fun _ _ _ h => h) fun ρ β W X cx => by
        have fF14 : ρ (.tmp 14) = .pointer none := (cx.an 0)
        simp [go_sem, cx.sees.const, fF14]
  refine then_normal (wp_cond_true (show Act.eval _ _ = .bool true from rfl) (wp_ret (then_ret ?_)))
  refine bodyPost_ret (v := .tuple #[]) (by simp [results, Tryz.results50, go_sem]) rfl ?_
  exact Ret.of rfl hst2.ext
end
end Go.Proofs.YtjnplglnnamfdaaGreatDoor
namespace Go.Proofs.YtjnplglnnamfdaaGreatDoor
section
open Go.RowKit Go.Maps
set_option linter.unusedVariables false
set_option linter.unusedSimpArgs false
/-- block b holds a map from int to bool of at most n entries that answers m -/
def MapB (P : Program) (k e b n : Nat) (m : Int → Bool) (W : World) : Prop :=
  ∃ D : DataW Unit, W.ownsMap P k (plainElem P e) b n D ∧ IsMap D ∧ ∀ x : Int, (Lit.int .i64 x).wf = true → D.atKey (.int .i64 x) (.lit (.bool false)) = .lit (.bool (m x))
def eMb (P : Program) (k e b n : Nat) (m : Int → Bool) : Ent := ⟨[b], MapB P k e b n m⟩
theorem eMb_loc (P : Program) (k e b n : Nat) (m : Int → Bool) : (eMb P k e b n m).loc := fun W W' h hb => by
  obtain ⟨D, ⟨es, clock, h1, h2⟩, h3⟩ := hb
  exact ⟨D, ⟨es, clock, (h b (by simp [eMb])).trans h1, h2⟩, h3⟩
theorem MapB.lt {P : Program} {k e b n : Nat} {m : Int → Bool} {W : World} (h : MapB P k e b n m W) : b < W.heap.size := by
  obtain ⟨D, hD, _⟩ := h
  exact hD.lt
theorem i64_wf {x : Int} (h : -9223372036854775808 ≤ x ∧ x ≤ 9223372036854775807) : (Lit.int .i64 x).wf = true := by
  show (decide (IntKind.i64.min ≤ x) && decide (x ≤ IntKind.i64.max)) = true
  have h1 : IntKind.i64.min = -9223372036854775808 := by decide
  have h2 : IntKind.i64.max = 9223372036854775807 := by decide
  rw [h1, h2, decide_eq_true h.1, decide_eq_true h.2]; rfl
section
variable {P : Program} {o : Oper} {ρ : Operand → Value} {W : World} {k e b n : Nat} {m : Int → Bool}
theorem MapB.set {t : TypeId} {x : Int} {v : Bool} (h : MapB P k e b n m W) (hk : P.underlying k = some (.int .i64)) (he : P.underlying e = some .bool) (ht : P.underlying t = some (.map k e)) (hn : n < 1000000) (hx : (Lit.int .i64 x).wf = true) :
    ∃ W', (Instr.mapUpdate t (.map (some b)) (.int .i64 x) (.bool v)).run P W = .ok () W' ∧ MapB P k e b (n + 1) (fun y => if y = x then v else m y) W' ∧ Upd [b] W W' := by
  obtain ⟨D, hD, hI, hm⟩ := h
  obtain ⟨W', hrun, hown, hg⟩ := hD.update (int_keyed hk) ht (by simp only [maxLen]; omega) (keyOf_int_mk hk hx) (plainElem_bool he v)
  refine ⟨W', hrun, ⟨_, hown, hown.isMap, fun y hy => ?_⟩, ⟨hg.os, hg.tape, hg.output, hg.size, fun i hi hn => hg.block i hi (fun e' => hn (by cases e'; simp))⟩⟩
  by_cases e' : y = x
  · subst e'
    show _ = DataW.lit (Lit.bool (if y = y then v else m y))
    rw [if_pos rfl]
    exact atKey_put_same hI (by trivial) _ _
  · show _ = DataW.lit (Lit.bool (if y = x then v else m y))
    rw [if_neg e', atKey_put_other (by simpa using e')]
    exact hm y hy
theorem run_setMb {t : TypeId} {y z u : Operand} {x : Int} {v : Bool} (h : o.op = .mapUpdate t y z u ∨ o.op = .insert t y z u) (hy : ρ y = .map (some b)) (hz : ρ z = .int .i64 x) (hu : ρ u = .bool v) (hb : MapB P k e b n m W) (hn : n < 1000000) (hx : -9223372036854775808 ≤ x ∧ x ≤ 9223372036854775807)
    (hk : P.underlying k = some (.int .i64) := by kernel_rfl) (he : P.underlying e = some .bool := by kernel_rfl) (ht : P.underlying t = some (.map k e) := by kernel_rfl) :
    ∃ W', (execOp ρ o).run P W = .ok .skip W' ∧ MapB P k e b (n + 1) (fun y => if y = x then v else m y) W' ∧ Upd [b] W W' := by
  obtain ⟨W', hrun, h1, h2⟩ := hb.set (v := v) hk he ht hn (i64_wf hx)
  refine ⟨W', ?_, h1, h2⟩
  unfold execOp
  rcases h with h | h <;> rw [h] <;> simp [hy, hz, hu, hrun]
theorem MapB.made : MapB P k e W.heap.size 0 (fun _ => false) (W.alloc (.map #[] 0)) := ⟨.map [], World.ownsMap_made W P k (plainElem P e), ⟨_, rfl⟩, fun x hx => rfl⟩
end
def pbm : Value → Nat
  | .map (some b) => b
  | _ => 0
section
variable {P : Program} {ops : Array Oper} {L : List Nat} {a0 : Act} {w0 : World} {bor : List Nat} {X0 : List Ent} {us cr kl : List (List Nat)}
  {D : Nat → (Tmp → Value) → (Tmp → Value) → (Nat → Ent) → Prop} {i : Nat} {o : Oper} {ρ : Operand → Value} {β : Tmp → Value} {W : World} {X : Nat → Ent}
theorem CtxV.mb {q k e b n : Nat} {m : Int → Bool} (cx : CtxV ops L a0 w0 bor X0 us D i ρ β W X) (hX : X q = eMb P k e b n m) (hu : (atV us i).contains q = true) : MapB P k e b n m W := by
  have h := (cx.ok q hu).holds
  rw [hX] at h; exact h
theorem dv_makeMb {t d k e q : Nat} (h : o.op = .makeMap t none) (hd : o.dst = some d) (hc : atV cr i = [q]) (hk : atV kl i = [])
    (hD : ∀ (σ β' : Tmp → Value) (X' : Nat → Ent), (∀ t, t ≠ d → σ t = ρ (.tmp t)) → (∀ t, t ≠ d → β' t = β t) → σ d = .map (some (pbm (β' d))) → X' q = eMb P k e (pbm (β' d)) 0 (fun _ => false) → D i σ β' X') : DoesU P o ρ W (PostV cr kl D i o.dst ρ β W X) := by
  refine DoesU.value (v := .map (some W.heap.size)) (w' := W.alloc (.map #[] 0)) (by unfold execOp; rw [h]; rfl) ?_
  refine post_call [eMb P k e W.heap.size 0 (fun _ => false)] hk (by rw [hc]; rfl) ((Ext.refl W).alloc _) (one_new ⟨MapB.made, eMb_loc _ _ _ _ _ _, fun k' hk' => ?_⟩) (List.pairwise_singleton _ _) (fun σ β' X' hs hb hv hN => ?_)
  · have : k' = W.heap.size := by simpa [eMb] using hk'
    subst this
    exact ⟨Nat.le_refl _, by simp⟩
  · have hv1 := (hv d hd).1; have hv2 := (hv d hd).2
    rw [hc] at hN
    refine hD σ β' X' (fun t ht => hs t (by rw [hd]; simpa using ht.symm)) (fun t ht => hb t (by rw [hd]; simpa using ht.symm)) ?_ ?_
    · rw [hv1, hv2]; rfl
    · rw [hv2]; exact (List.cons.inj hN).1
theorem dv_setMb {t k e b n q q' : Nat} {m : Int → Bool} {y z u : Operand} {x : Int} {v : Bool} (h : o.op = .mapUpdate t y z u ∨ o.op = .insert t y z u) (hy : ρ y = .map (some b)) (hz : ρ z = .int .i64 x) (hu : ρ u = .bool v)
    (cx : CtxV ops L a0 w0 bor X0 us D i ρ β W X) (hX : X q = eMb P k e b n m) (hq : (atV us i).contains q = true) (hn : n < 1000000) (hx : -9223372036854775808 ≤ x ∧ x ≤ 9223372036854775807) (hd : o.dst = none) (hc : atV cr i = [q']) (hkl : atV kl i = [q])
    (hD : ∀ (σ β' : Tmp → Value) (X' : Nat → Ent), (∀ t, σ t = ρ (.tmp t)) → (∀ t, β' t = β t) → X' q' = eMb P k e b (n + 1) (fun y => if y = x then v else m y) → D i σ β' X')
    (hk : P.underlying k = some (.int .i64) := by kernel_rfl) (he : P.underlying e = some .bool := by kernel_rfl) (ht : P.underlying t = some (.map k e) := by kernel_rfl) : DoesU P o ρ W (PostV cr kl D i o.dst ρ β W X) := by
  obtain ⟨W', hrun, h1, h2⟩ := run_setMb (v := v) h hy hz hu (cx.mb hX hq) hn hx hk he ht
  refine DoesU.skip hrun ⟨[eMb P k e b (n + 1) (fun y => if y = x then v else m y)], by rw [hc]; rfl, ⟨?_, fun e' he' => ?_, List.pairwise_singleton _ _⟩, fun σ β' X' hs hv hb' hbv hx' hN => hD σ β' X' (fun t => hs t (by rw [hd]; simp)) (fun t => hb' t (by rw [hd]; simp)) ?_⟩
  · rw [hkl]
    simp only [List.flatMap_cons, List.flatMap_nil, List.append_nil, hX]
    exact h2
  · rw [List.mem_singleton] at he'
    subst he'
    refine ⟨h1, eMb_loc _ _ _ _ _ _, fun k' hk' => ?_⟩
    have hkb : k' = b := by simpa [eMb] using hk'
    subst hkb
    refine ⟨.inl ?_, h1.lt⟩
    rw [hkl]
    simp [hX, eMb]
  · rw [hc] at hN
    exact (List.cons.inj hN).1
end
end
end Go.Proofs.YtjnplglnnamfdaaGreatDoor
namespace Go.Proofs.YtjnplglnnamfdaaGreatDoor
section
open Go.RowKit
set_option linter.unusedVariables false
set_option linter.unusedSimpArgs false
set_option maxRecDepth 100000 in
set_option maxHeartbeats 2000000 in
theorem cloneI_none (rn rc : Nat) (w : World) :
    Calls Tryz.prog 182 #[.slice none rn rc] w (Ret (.slice none 0 0) w) := by
  go_enter Tryz.func182, Tryz.ntmps182
  have hst0 := St.start w
  refine wp_seq (wp_region_P [0] [.k 2 (.slice none 0 0)] [(2, 0, 1, 3)] hst0 fun W1 hst1 => ?_)
  refine then_normal (wp_seq (wp_seq (wp_region_P [0, 1] [.k 3 (.slice none rn rc), .k 4 (.bool true)] [(3, 0, 2, 5)] hst1 fun W2 hst2 => ?_)))
  refine then_normal (wp_cond_true (show Act.eval _ _ = .bool true from rfl) (wp_seq (wp_region_P [0] [.k 2 (.slice none 0 0)] [(2, 0, 1, 3)] hst2 fun W3 hst3 => ?_)))
  refine then_normal (wp_ret (then_ret ?_))
  refine bodyPost_ret (v := .slice none 0 0) (results_tmp Tryz.results182 rfl) rfl ?_
  exact Ret.of rfl hst3.ext
def NewWPost (w : World) (e : Ending) (w' : World) : Prop := ∃ b q, e = .returned (.pointer (some ⟨b, 0, none⟩)) ∧ (Blk w' b 297 #[.int .i64 0, .string ByteArray.empty, .slice none 0 0, .slice none 0 0, .slice none 0 0, .int .i64 5, .int .i64 0, .slice none 0 0, .slice none 0 0, .slice none 0 0, .int .i64 0, .int .i64 0, .bool false, .map (some q)] ∧ w.heap.size ≤ b) ∧ Ext w w'
set_option maxRecDepth 100000 in
set_option maxHeartbeats 2000000 in
theorem vacnew_0  (w : World) :
    Calls Tryz.prog 116 #[.agg #[.int .i64 0, .string ByteArray.empty, .slice none 0 0, .slice none 0 0], .slice none 0 0, .int .i64 5] w (NewWPost w) := by
  go_enter Tryz.func116, Tryz.ntmps116
  have hst0 := St.start w
  refine wp_seq (wp_region_Y [0, 0] [] [[0]] [] [.a 3, .k 6 (.pointer none)] (fun ix σ β X => match ix with | 0 => σ 3 = vp (pb (β 3)) ∧ X 0 = eB (pb (β 3)) 219 #[vi 0, .string ByteArray.empty, .slice none 0 0, .slice none 0 0] | _ => True) [0] [0] [(3, 0, 1, 4), (2, 1, 1, 3)] hst0 ?_ ?_ ?_)
  · exact fun ix _ _ _ _ _ _ hs hb hx h => match ix, h with
    | 0, h => by dsimp only at h ⊢; rw [← hs 3 rfl, ← hb 3 rfl, ← hx 0 rfl]; exact h
    | _ + 1, _ => trivial
  · refine ⟨?_, trivial⟩
    · refine sv_any rfl rfl fun ρ β W X cx => ?_
      exact dv_box (cs := #[vi 0, .string ByteArray.empty, .slice none 0 0, .slice none 0 0]) rfl (cx.ou 0) rfl rfl rfl (fun σ β' X' hs hb hv hx => ⟨hv, hx⟩)
  intro σ β X W1 hD hst1 fr hfr
  obtain ⟨B3_1, hu_B3_1⟩ : ∃ z, pb (β 3) = z := ⟨_, rfl⟩
  simp only [exq 0 ((dTn (hD 0 lq)).2), hu_B3_1] at hst1
  simp only [ed 3 ((dTn (hD 0 lq)).1), hu_B3_1] at hfr
  clear hD hu_B3_1; subst hfr; clear σ β X
  refine then_normal (wp_seq (wp_region_Y [0, 0, 2, 0, 0, 0, 48, 112, 255, 511, 1023] [[0], [], [], [], [], [], [1]] [[], [], [], [], [1], [], [2], [], [], [3]] [[], [], [], [], [], [], [1]] [.c 10 (.agg #[vi 0, .string ByteArray.empty, .slice none 0 0, .slice none 0 0]), .k 11 (.slice none 0 0), .c 12 (.slice none 0 0), .k 13 (vi 5), .a 14, .k 15 (vi 5), .n, .a 16, .a 17, .a 18, .a 7] (fun ix σ β X => match ix with | 0 => True | 1 => True | 2 => True | 3 => True | 4 => σ 14 = .map (some (pbm (β 14))) ∧ X 1 = eMb Tryz.prog 3 4 (pbm (β 14)) 0 (fun _ => false) | 5 => True | 6 => X 2 = eMb Tryz.prog 3 4 (pbm (β 14)) 1 (fun y => if y = 5 then true else (fun _ => false) y) | 7 => σ 16 = .map (some (pbm (β 14))) | 8 => σ 17 = .agg #[vi 0, .string ByteArray.empty, .slice none 0 0, .slice none 0 0, .slice none 0 0, vi 5, vi 0, .slice none 0 0, .slice none 0 0, .slice none 0 0, vi 0, vi 0, .bool false, .map (some (pbm (β 14)))] | 9 => σ 18 = vp (pb (β 18)) ∧ X 3 = eB (pb (β 18)) 297 #[vi 0, .string ByteArray.empty, .slice none 0 0, .slice none 0 0, .slice none 0 0, vi 5, vi 0, .slice none 0 0, .slice none 0 0, .slice none 0 0, vi 0, vi 0, .bool false, .map (some (pbm (β 14)))] | 10 => σ 7 = vp (pb (β 18)) | _ => True) [0, 2, 3] [0, 2, 4, 6, 7, 8, 9, 10] [(7, 10, 1, 8), (2, 0, 10, 11)] hst1 ?_ ?_ ?_))
  · exact fun ix _ _ _ _ _ _ hs hb hx h => match ix, h with
    | 4, h => by dsimp only at h ⊢; rw [← hs 14 rfl, ← hb 14 rfl, ← hx 1 rfl]; exact h
    | 6, h => by dsimp only at h ⊢; rw [← hb 14 rfl, ← hx 2 rfl]; exact h
    | 7, h => by dsimp only at h ⊢; rw [← hs 16 rfl, ← hb 14 rfl]; exact h
    | 8, h => by dsimp only at h ⊢; rw [← hs 17 rfl, ← hb 14 rfl]; exact h
    | 9, h => by dsimp only at h ⊢; rw [← hs 18 rfl, ← hb 14 rfl, ← hb 18 rfl, ← hx 3 rfl]; exact h
    | 10, h => by dsimp only at h ⊢; rw [← hs 7 rfl, ← hb 18 rfl]; exact h
    | 0, _ | 1, _ | 2, _ | 3, _ | 5, _ | _ + 11, _ => trivial
  · refine ⟨?_, ?_, ?_, ?_, ?_, ?_, ?_, ?_, trivial⟩
    · exact xs4 rfl id fun cx => run_loadB (n := 4) rfl (by kernel_rfl) (by kernel_rfl) (cx.ou 3) (cx.bi 0 rfl) (nle rfl) rfl
    · exact xsc rfl id rfl rfl fun cx => ⟨_, cloneI_none 0 0 _, (map1 (cx.an 1))⟩
    · refine sv_any rfl rfl fun ρ β W X cx => ?_
      exact dv_makeMb rfl rfl rfl rfl (fun σ β' X' hs hb hv hx => ⟨hv, hx⟩)
    · refine sv_any rfl rfl fun ρ β W X cx => ?_
      exact dv_setMb (.inr rfl) (dTn (cx.an 4)).1 (cx.an 5) (cx.co _) cx (dTn (cx.an 4)).2 rfl (by omega) (by omega) rfl rfl rfl (fun σ β' X' hs hb hx => by rw [hb 14]; exact hx)
    · exact sv rfl rfl rfl rfl rfl _ (fun _ _ _ h => h) (fun β β' h => by rw [h 14 (by decide)]) fun ρ β W X cx => run_move' rfl (dTn (cx.an 4)).1
    · exact sv rfl rfl rfl rfl rfl _ (fun _ _ _ h => h) (fun β β' h => by rw [h 14 (by decide)]) fun ρ β W X cx => run_buildL rfl (pmc (cx.an 0) (pmc (cx.an 2) (pmc (cx.an 3) (pmc (dTn (cx.an 7)) pmn)))) (by kernel_rfl)
    · refine sv_any rfl rfl fun ρ β W X cx => ?_
      exact dv_box (cs := #[vi 0, .string ByteArray.empty, .slice none 0 0, .slice none 0 0, .slice none 0 0, vi 5, vi 0, .slice none 0 0, .slice none 0 0, .slice none 0 0, vi 0, vi 0, .bool false, .map (some (pbm (β 14)))]) rfl (dTn (cx.an 8)) rfl rfl rfl (fun σ β' X' hs hb hv hx => ⟨hv, by rw [hb 14 (by decide)]; exact hx⟩)
    · exact sv rfl rfl rfl rfl rfl _ (fun _ _ _ h => h) (fun β β' h => by rw [h 18 (by decide)]) fun ρ β W X cx => run_assign' rfl (dTn (cx.an 9)).1
  intro σ β X W2 hD hst2 fr hfr
  obtain ⟨M14_2, hu_M14_2⟩ : ∃ z, pbm (β 14) = z := ⟨_, rfl⟩
  obtain ⟨B18_2, hu_B18_2⟩ : ∃ z, pb (β 18) = z := ⟨_, rfl⟩
  simp only [exq 2 ((dTn (hD 6 lq))), exq 3 ((dTn (hD 9 lq)).2), hu_M14_2, hu_B18_2] at hst2
  simp only [ed 14 ((dTn (hD 4 lq)).1), ed 16 ((dTn (hD 7 lq))), ed 17 ((dTn (hD 8 lq))), ed 18 ((dTn (hD 9 lq)).1), ed 7 ((dTn (hD 10 lq))), hu_M14_2, hu_B18_2] at hfr
  clear hD hu_M14_2 hu_B18_2; subst hfr; clear σ β X
  refine then_normal (wp_seq (wp_seq (wp_region_Z [0, 1, 3, 0] [[], [0]] [.k 19 (.pointer (some ⟨B3_1, 3, none⟩)), .c 20 (.slice none 0 0), .k 21 (vi 0), .k 22 (vi 0)] [0, 1, 2] [1] [(19, 0, 4, 23)] hst2 ?_ fun W3 hst3 => ?_)))
  · refine ⟨?_, trivial⟩
    · exact xs4 rfl id fun cx => run_load1 rfl (by kernel_rfl) (cx.an 0) ((cx.bi 0 rfl).cell 3)
  refine then_normal (wp_block ?_)
  refine wp_loopN (fun mz az W => ∃ u4_ : List Value, True ∧ mz = 0 ∧ az = ⟨#[.agg #[vi 0, .string ByteArray.empty, .slice none 0 0, .slice none 0 0], .slice none 0 0, vi 5, vp B3_1, undef, undef, .pointer none, vp B18_2, undef, (gu u4_ 0), .agg #[vi 0, .string ByteArray.empty, .slice none 0 0, .slice none 0 0], .slice none 0 0, .slice none 0 0, vi 5, .map (some M14_2), vi 5, .map (some M14_2), .agg #[vi 0, .string ByteArray.empty, .slice none 0 0, .slice none 0 0, .slice none 0 0, vi 5, vi 0, .slice none 0 0, .slice none 0 0, .slice none 0 0, vi 0, vi 0, .bool false, .map (some M14_2)], vp B18_2, .pointer (some ⟨B3_1, 3, none⟩), .slice none 0 0, vi 0, vi 0, (gu u4_ 1), (gu u4_ 2), (gu u4_ 3), (gu u4_ 4), (gu u4_ 5), (gu u4_ 6), (gu u4_ 7), (gu u4_ 8), (gu u4_ 9), (gu u4_ 10), (gu u4_ 11), (gu u4_ 12), (gu u4_ 13), (gu u4_ 14), (gu u4_ 15), undef], []⟩ ∧ St w [] [eB B3_1 219 #[vi 0, .string ByteArray.empty, .slice none 0 0, .slice none 0 0], eMb Tryz.prog 3 4 M14_2 1 (fun y => if y = 5 then true else (fun _ => false) y), eB B18_2 297 #[vi 0, .string ByteArray.empty, .slice none 0 0, .slice none 0 0, .slice none 0 0, vi 5, vi 0, .slice none 0 0, .slice none 0 0, .slice none 0 0, vi 0, vi 0, .bool false, .map (some M14_2)]] W) (0) ?_ ?_
  · -- the loop begins
    have hp5 := hst3.pick [0, 1, 2] (by decide) rfl
    exact ⟨[undef, undef, undef, undef, undef, undef, undef, undef, undef, undef, undef, undef, undef, undef, undef, undef], trivial, rfl, rfl, hp5⟩
  rintro n4 a4 W4 ⟨u4_, -, rfl, rfl, hst4⟩
  refine wp_seq (wp_region_P [0] [.k 23 (.bool false)] [(23, 0, 1, 24)] hst4 fun W6 hst6 => ?_)
  refine then_normal (wp_seq (wp_cond_false (show Act.eval _ _ = .bool false from rfl) (wp_exit (then_exit (then_exit (blk_eq (then_normal (wp_seq (wp_region_P [0, 1] [.k 38 (vp B18_2), .k 6 (vp B18_2)] [(6, 1, 1, 7), (31, 0, 1, 32)] hst6 fun W7 hst7 => ?_)))))))))
  refine then_normal (wp_ret ?_)
  refine bodyPost_ret (v := vp B18_2) (results_tmp Tryz.results116 rfl) rfl ?_
  exact ⟨_, _, rfl, ⟨hst7.blk 2 rfl, ((hst7.get 2 rfl).own _ (by simp [eB])).1.resolve_left (by simp)⟩, hst7.ext⟩
set_option maxRecDepth 100000 in
set_option maxHeartbeats 2000000 in
theorem vacdone_0 (b q : Nat) (w : World) (hB : Blk w b 297 #[.int .i64 0, .string ByteArray.empty, .slice none 0 0, .slice none 0 0, .slice none 0 0, .int .i64 5, .int .i64 0, .slice none 0 0, .slice none 0 0, .slice none 0 0, .int .i64 0, .int .i64 0, .bool false, .map (some q)]) :
    Calls Tryz.prog 117 #[.pointer (some ⟨b, 0, none⟩)] w (Ret (.bool true) w) := by
  go_enter Tryz.func117, Tryz.ntmps117
  have hst0 := St.start w
  refine wp_seq (wp_region_P [0] [.k 2 (.bool false)] [(2, 0, 1, 3)] hst0 fun W1 hst1 => ?_)
  refine then_normal (wp_seq (wp_region_Z [0, 1, 3, 7, 15, 31, 63, 127, 255, 511, 1023, 2047, 4095, 8191, 16383, 32767, 65535, 131071, 262143] [] [.k 3 (vp b), .c 4 (.bool false), .k 5 (.bool false), .k 6 (vp b), .k 7 (vp b), .k 8 (.pointer (some ⟨b, 4, none⟩)), .c 9 (.slice none 0 0), .k 10 (vi 0), .k 11 (.bool true), .k 12 (.bool true), .k 13 (vp b), .k 14 (vp b), .k 15 (.pointer (some ⟨b, 9, none⟩)), .c 16 (.slice none 0 0), .k 17 (vi 0), .k 18 (.bool true), .k 19 (.bool true), .k 20 (.bool true), .k 2 (.bool true)] [] [1, 6, 13] [(2, 18, 1, 3), (0, 0, 18, 18)] hst1 ?_ fun W2 hst2 => ?_))
  · refine ⟨?_, ?_, ?_, trivial⟩
    · exact sv0 rfl rfl rfl rfl rfl (fun _ _ _ h => h) fun ρ β W X cx => by
        have fF3 : ρ (.tmp 3) = vp b := (cx.an 0)
        simp [go_sem, cx.sees.const, fF3]
    · exact xs5 rfl id (fun cx => (cx.an 2)) fun cx => run_load1 rfl (by kernel_rfl) (cx.an 5) ((Blk.ext hB cx.upd.to_ext).cell 4)
    · exact xs5 rfl id (fun cx => (cx.an 9)) fun cx => run_load1 rfl (by kernel_rfl) (cx.an 12) ((Blk.ext hB cx.upd.to_ext).cell 9)
  refine then_normal (wp_ret ?_)
  refine bodyPost_ret (v := .bool true) (results_tmp Tryz.results117 rfl) rfl ?_
  exact Ret.bool rfl hst2.ext
end
end Go.Proofs.YtjnplglnnamfdaaGreatDoor
namespace Go.Proofs.YtjnplglnnamfdaaGreatDoor
section
open Go.RowKit
set_option linter.unusedVariables false
set_option linter.unusedSimpArgs false
def VMAt (W : World) (b : Nat) (r : Option Nat) (l : Nat × (Int → Option KN)) : Prop := ∃ q, r = some q ∧ VM W b q l.1 l.2
def eVMo (b : Nat) (r : Option Nat) (l : Nat × (Int → Option KN)) : Ent := ⟨b :: r.toList, fun W => VMAt W b r l⟩
theorem rO_eVMo (b : Nat) (r : Option Nat) (l : Nat × (Int → Option KN)) : rO (eVMo b r l) = r := by cases r <;> rfl
theorem eVMo_loc (b : Nat) (r : Option Nat) (l : Nat × (Int → Option KN)) : (eVMo b r l).loc := fun W W' hk h => by
  obtain ⟨q, rfl, h1, h2⟩ := h
  exact ⟨q, rfl, (hk b (by simp [eVMo])).trans h1, (eMg_loc (C := knC) Tryz.prog 3 q l.1 l.2) W W' (fun k hk' => hk k (by have e : k = q := List.mem_singleton.1 hk'; simp [eVMo, e])) h2⟩
def VMPost (b : Nat) (r : Option Nat) (l : Nat × (Int → Option KN)) (w w' : World) : Prop := ∃ r', VMAt w' b r' l ∧ Upd (b :: r.toList) w w' ∧ ∀ k, r' = some k → r = some k ∨ w.heap.size ≤ k
theorem VM.ne {w : World} {b q n : Nat} {m : Int → Option KN} (h : VM w b q n m) : b ≠ q := by
  rintro rfl
  obtain ⟨h1, D, ⟨es, clock, h2, _⟩, _⟩ := h
  have h3 : w.heap[b]? = _ := h1
  rw [h2] at h3
  cases h3
theorem VPost.obj {b q n n' : Nat} {m m' : Int → Option KN} {w w' : World} {e : Ending} (h : VM w b q n m) (hp : VPost b q n' m' w e w') : e = .returned (.tuple #[]) ∧ VMPost b (some q) (n', m') w w' := by
  obtain ⟨he, h1, h2⟩ := hp
  refine ⟨he, some q, ⟨q, rfl, h.1.upd h2 (by simp [h.ne]), h1⟩, h2.mono (fun k _ hk => by simp at hk; simp [hk]), fun k hk => .inl hk⟩
section
variable {P : Program} {ops : Array Oper} {L : List Nat} {a0 : Act} {w0 : World} {bor : List Nat} {X0 : List Ent} {us cr kl : List (List Nat)}
  {D : Nat → (Tmp → Value) → (Tmp → Value) → (Nat → Ent) → Prop} {i : Nat} {o : Oper} {ρ : Operand → Value} {β : Tmp → Value} {W : World} {X : Nat → Ent}
theorem post_vm {v : Value} {W' : World} {b q q' : Nat} {r : Option Nat} {l : Nat × (Int → Option KN)} (hX : (X q).fp = b :: r.toList) (hc : atV cr i = [q']) (hk : atV kl i = [q]) (hp : VMPost b r l W W')
    (hD : ∀ (σ β' : Tmp → Value) (X' : Nat → Ent), (∀ t, o.dst ≠ some t → σ t = ρ (.tmp t)) → (∀ t, o.dst ≠ some t → β' t = β t) → (∀ d, o.dst = some d → σ d = v ∧ β' d = v) → X' q' = eVMo b (rO (X' q')) l → D i σ β' X') : PostV cr kl D i o.dst ρ β W X v W' := by
  obtain ⟨r', hs, hu, hr⟩ := hp
  have hlt : ∀ k ∈ (eVMo b r' l).fp, k < W'.heap.size := fun k hk' => by
    obtain ⟨q2, h4, h1, h3⟩ := hs
    simp only [eVMo, List.mem_cons, Option.mem_toList] at hk'
    rcases hk' with rfl | hk'
    · exact h1.lt
    · rw [h4] at hk'
      have : k = q2 := (Option.some.inj hk').symm
      rw [this]; exact h3.lt
  refine ⟨[eVMo b r' l], by rw [hc]; rfl, ⟨?_, fun e he => ?_, List.pairwise_singleton _ _⟩, fun σ β' X' hs' hv hb' hbv hx' hN => hD σ β' X' hs' hb' (fun d hd => ⟨hv d hd, hbv d hd⟩) ?_⟩
  · rw [hk]
    simp only [List.flatMap_cons, List.flatMap_nil, List.append_nil, hX]
    exact hu
  · rw [List.mem_singleton] at he
    subst he
    refine ⟨hs, eVMo_loc _ _ _, fun k hk' => ⟨?_, hlt k hk'⟩⟩
    rw [hk]
    simp only [List.flatMap_cons, List.flatMap_nil, List.append_nil, hX]
    simp only [eVMo, List.mem_cons, Option.mem_toList] at hk'
    rcases hk' with rfl | hk'
    · exact .inl (by simp)
    · rcases hr k hk' with h | h
      · exact .inl (by simp [h])
      · exact .inr h
  · rw [hc] at hN
    have h1 := (List.cons.inj hN).1
    rw [h1, rO_eVMo]
end
end
end Go.Proofs.YtjnplglnnamfdaaGreatDoor
namespace Go.Proofs.YtjnplglnnamfdaaGreatDoor
section
open Go.RowKit
set_option linter.unusedVariables false
set_option linter.unusedSimpArgs false
set_option maxRecDepth 100000 in
set_option maxHeartbeats 2000000 in
theorem rto_any (x : Int) (w : World) (hx : 0 ≤ x ∧ x < 256) :
    Calls Tryz.prog 78 #[.int .i64 x] w (Ret (.string (strOfNums [0, x])) w) := by
  go_enter Tryz.func78, Tryz.ntmps78
  have hst0 := St.start w
  refine wp_seq (wp_region_P [0] [.k 2 (.string ⟨#[]⟩)] [(2, 0, 1, 3)] hst0 fun W1 hst1 => ?_)
  refine then_normal (wp_seq (wp_region_Y [0, 1, 3, 7, 15] [[], [], [], [0]] [[], [], [0]] [] [.k 3 (vi x), tW 4 .u8 x x (IntWalk.u8_in _ (by omega)), .a 5, .c 6 (.string (strOfNums ([0, x]))), .k 2 (.string (strOfNums ([0, x])))] (fun ix σ β X => match ix with | 0 => True | 1 => True | 2 => σ 5 = .slice (sA (β 5)) 2 2 ∧ X 0 = eO 5 1 (.slice (sA (β 5)) 2 2) 2 ([.int .u8 0, .int .u8 x]) | _ => True) [0] [2, 3] [(2, 4, 1, 3), (0, 0, 4, 4)] hst1 ?_ ?_ ?_))
  · exact fun ix _ _ _ _ _ _ hs hb hx h => match ix, h with
    | 2, h => by dsimp only at h ⊢; rw [← hs 5 rfl, ← hb 5 rfl, ← hx 0 rfl]; exact h
    | 0, _ | 1, _ | _ + 3, _ => trivial
  · refine ⟨?_, ?_, trivial⟩
    · refine sv_any rfl rfl fun ρ β W X cx => ?_
      have fF4 : ρ (.tmp 4) = .int .u8 x := (cx.an 1)
      exact dv_lit (e := 5) (xs := [.int .u8 0, .int .u8 x]) rfl (by simp [go_sem, fF4, cx.sees.const]) rfl (by decide) rfl rfl (fun σ β' X' hs hb hv hx => ⟨hv, hx⟩)
    · exact xs4 rfl id fun cx => run_convB (e := 5) rfl (by kernel_rfl) (by kernel_rfl) (by kernel_rfl) (dTn (cx.an 2)).1 (cx.row (dTn (cx.an 2)).2 rfl)
  intro σ β X W2 hD hst2 fr hfr
  obtain ⟨A5_2, hu_A5_2⟩ : ∃ z, sA (β 5) = z := ⟨_, rfl⟩
  simp only [exq 0 ((dTn (hD 2 lq)).2), hu_A5_2] at hst2
  simp only [ed 5 ((dTn (hD 2 lq)).1), hu_A5_2] at hfr
  clear hD hu_A5_2; subst hfr; clear σ β X
  refine then_normal (wp_ret ?_)
  refine bodyPost_ret (v := .string (strOfNums ([0, x]))) (results_tmp Tryz.results78 rfl) rfl ?_
  exact Ret.of rfl hst2.ext
theorem withL_mem' {ss : List ByteArray} {K : Nat} {s x : ByteArray} (h : x ∈ withL ss K s) : x = s ∨ x ∈ ss ∨ x = ByteArray.empty := by
  rcases List.mem_or_eq_of_mem_set h with h | h
  · rcases List.mem_append.1 h with h1 | h1
    · exact .inr (.inl (List.mem_of_mem_take h1))
    · exact .inr (.inr (List.mem_replicate.1 h1).2)
  · exact .inl h
theorem withL_desc {ss : List ByteArray} {K : Nat} {s : ByteArray} (h : ∀ x ∈ ss, ∃ o, Desc x o) (hs : ∃ o, Desc s o) : ∀ x ∈ plainL (withL ss K s), ∃ o, Desc x o := by
  intro x hx
  rcases withL_mem' (List.mem_of_mem_take hx) with rfl | h1 | rfl
  · exact hs
  · exact h x h1
  · exact ⟨none, by show ByteArray.empty.size < 8; decide⟩
theorem its_of {ss : List ByteArray} (h : ∀ x ∈ ss, ∃ o, Desc x o) : ∃ its : List Itm, its.map Prod.fst = ss ∧ ∀ i ∈ its, Desc i.1 i.2 := by
  induction ss with
  | nil => exact ⟨[], rfl, fun i hi => by cases hi⟩
  | cons s ss ih =>
    obtain ⟨o, ho⟩ := h s (by simp)
    obtain ⟨its, h1, h2⟩ := ih (fun x hx => h x (by simp [hx]))
    exact ⟨(s, o) :: its, by simp [h1], fun i hi => by
      rcases List.mem_cons.1 hi with rfl | hi
      · exact ho
      · exact h2 i hi⟩
end
end Go.Proofs.YtjnplglnnamfdaaGreatDoor
namespace Go.Proofs.YtjnplglnnamfdaaGreatDoor
section
open Go.RowKit
set_option linter.unusedVariables false
set_option linter.unusedSimpArgs false
theorem digA_size : ∀ (f : Nat) (m : Int) (s : ByteArray), (digA f m s).size ≤ f + s.size
  | 0, _, s => by rw [digA]; omega
  | f + 1, m, s => by
    rw [digA]
    split
    · omega
    · have := digA_size f (m / 10) (oneS (48 + m % 10) ++ s)
      rw [ByteArray.size_append, oneS_size] at this
      omega
theorem digF_size (n : Int) : (digF n).size ≤ 6 := by
  rw [digF, digG]
  simp only [if_true]
  have := digA_size 5 (n / 10) (oneS (48 + n % 10) ++ ⟨#[]⟩)
  rw [ByteArray.size_append, oneS_size] at this
  have h0 : (⟨#[]⟩ : ByteArray).size = 0 := rfl
  omega
theorem valF_ok {x : Int} (h : 0 ≤ x) : vrightF (valF x) = true ∧ plainV (valF x) = valF x ∧ -9223372036854775808 ≤ (valF x).2.1 ∧ (valF x).2.1 ≤ 9223372036854775807 := by
  unfold valF
  split
  · exact ⟨by decide, rfl, by decide, by decide⟩
  · split
    · have hs : ((⟨#[97, 98, 99]⟩ : ByteArray).extract 0 (x / 5 % 4).toNat).size ≤ 40 := by
        rw [ByteArray.size_extract]
        have : (⟨#[97, 98, 99]⟩ : ByteArray).size = 3 := rfl
        omega
      refine ⟨?_, rfl, by show (-9223372036854775808 : Int) ≤ 0; decide, by show (0 : Int) ≤ _; decide⟩
      simp only [vrightF, knownF]
      simpa using hs
    · split
      · have hs := digF_size (x / 5)
        refine ⟨?_, rfl, by show (-9223372036854775808 : Int) ≤ 0; decide, by show (0 : Int) ≤ _; decide⟩
        simp only [vrightF, knownF]
        have : (digF (x / 5)).size ≤ 40 := by omega
        simpa using this
      · refine ⟨rfl, rfl, ?_, ?_⟩
        · show _ ≤ x / 5 % 9 - 2; omega
        · show x / 5 % 9 - 2 ≤ _; omega
theorem madeR_mem {k : Nat} {l : List Int} {v : Val} (h : v ∈ madeR k l) : ∃ x : Int, 0 ≤ x ∧ v = valF x := by
  simp only [madeR, List.mem_map, List.mem_range] at h
  obtain ⟨i, _, rfl⟩ := h
  exact ⟨_, by omega, rfl⟩
theorem made_plain (l : List Int) : plainR (vrowF l) = vrowF l := by
  rw [plainR, vrowF]
  have : ∀ rs : List Val, (∀ v ∈ rs, plainV v = v) → rs.map plainV = rs := fun rs h => by
    induction rs with
    | nil => rfl
    | cons a rs ih => rw [List.map_cons, h a (List.mem_cons_self ..), ih fun v hv => h v (List.mem_cons_of_mem _ hv)]
  exact this _ fun v hv => by obtain ⟨x, hx, rfl⟩ := madeR_mem hv; exact (valF_ok hx).2.1
theorem made_ns (l : List Int) : NsOk (vrowF l) := fun v hv _ => by
  rw [vrowF] at hv
  obtain ⟨x, hx, rfl⟩ := madeR_mem hv
  exact (valF_ok hx).2.2
theorem made_rright (l : List Int) : rrightF (vrowF l) = true := by
  rw [rrightF, Bool.and_eq_true, decide_eq_true_eq, List.all_eq_true]
  refine ⟨fun v hv => ?_, ?_⟩
  · rw [vrowF] at hv
    obtain ⟨x, hx, rfl⟩ := madeR_mem hv
    exact (valF_ok hx).1
  · rw [vrowF, madeR_len]; omega
theorem made_right (l : List Int) : trightF (vminF l) (vmaxF l) (vpgF l) (vslF l) (vrowF l) = true := by
  rw [trightF, made_rright, Bool.and_true, Bool.and_eq_true, Bool.and_eq_true]
  refine ⟨⟨?_, ?_⟩, ?_⟩
  · simp only [onF, Bool.or_eq_true, Bool.and_eq_true, beq_iff_eq, decide_eq_true_eq]; rw [vminF]; omega
  · simp only [onZ, onF, Bool.or_eq_true, Bool.and_eq_true, beq_iff_eq, decide_eq_true_eq]; rw [vmaxF]; split <;> omega
  · simp only [tnextF, Bool.or_eq_true, Bool.and_eq_true, beq_iff_eq, decide_eq_true_eq]; rw [vpgF, vslF]; split <;> omega
theorem withL_len (ss : List ByteArray) (K : Nat) (s : ByteArray) : (withL ss K s).length = max (plainL ss).length (K + 1) := by
  simp only [withL, padTo, List.length_set, List.length_append, List.length_replicate]; omega
theorem put_right {k l : Int} {ss : List ByteArray} {slot : Int} {s : ByteArray} (h : rightB k l ss = true) (hp : putErr k l ss slot s = 0) : rightB k l (plainL (withL ss slot.toNat s)) = true := by
  obtain ⟨hk, hl, ⟨h24, hsz⟩, _⟩ := right_parts h
  unfold putErr at hp
  rw [h, if_neg (by simp)] at hp
  split at hp
  · cases hp
  · rename_i hb
    split at hp
    · cases hp
    · rename_i hz
      have hpl := plainL_len (withL ss slot.toNat s)
      have htr := trimN_le (withL ss slot.toNat s) (withL ss slot.toNat s).length
      have hwl := withL_len ss slot.toNat s
      have hpl2 := plainL_len ss
      have htr2 := trimN_le ss ss.length
      have hz2 : sizeL (plainL (withL ss slot.toNat s)) = sizeL (withL ss slot.toNat s) := by rw [sizeL, plain_plain, sizeL]
      have hlong : longB (plainL (withL ss slot.toNat s)) = false := by
        rw [longB, List.any_eq_false]
        intro x hx
        have hx' := withL_mem' (List.mem_of_mem_take hx)
        rcases hx' with rfl | hx' | rfl
        · simp; omega
        · have := hsz x hx'; simp; omega
        · simp
      simp only [rightB, Bool.and_eq_true, decide_eq_true_eq, hlong, Bool.not_false, hz2, true_and]
      exact ⟨hk.1, hk.2, hl.1, hl.2, by omega, by omega⟩
/-- the numbers of page n, the first k filled in -/
def mdC (s : List Int) (n k : Nat) : List Int := (List.range 40).map fun i => if i < k then s.getD (40 * n + i) 0 % 65536 else 0
def mdV (s : List Int) (n : Nat) : List Int := mdC s n 40
theorem mdC_len (s : List Int) (n k : Nat) : (mdC s n k).length = 40 := by simp [mdC]
theorem mdC_get (s : List Int) (n k i : Nat) (h : i < 40) : (mdC s n k).getD i 0 = if i < k then s.getD (40 * n + i) 0 % 65536 else 0 := by simp [mdC, h]
theorem mdC_0 (s : List Int) (n : Nat) : mdC s n 0 = List.replicate 40 0 := by
  apply List.ext_getElem
  · simp [mdC]
  · intro i h1 h2
    simp only [mdC, List.getElem_map, List.getElem_range, List.getElem_replicate, Nat.not_lt_zero, if_false]
theorem mdC_set (s : List Int) (n k : Nat) (h : k < 40) : (mdC s n k).set k (s.getD (40 * n + k) 0 % 65536) = mdC s n (k + 1) := by
  apply List.ext_getElem
  · simp [mdC]
  · intro i h1 h2
    simp only [mdC, List.length_set, List.length_map, List.length_range] at h1
    rw [List.getElem_set]
    simp only [mdC, List.getElem_map, List.getElem_range]
    by_cases e : k = i
    · subst e; simp
    · rw [if_neg e]
      by_cases h3 : i < k
      · rw [if_pos h3, if_pos (by omega)]
      · rw [if_neg h3, if_neg (by omega)]
theorem mdC_no (s : List Int) (n k : Nat) (h : s.length ≤ 40 * n + k) : mdC s n k = mdC s n (k + 1) := by
  apply List.ext_getElem
  · simp [mdC]
  · intro i h1 h2
    simp only [mdC, List.length_map, List.length_range] at h1
    simp only [mdC, List.getElem_map, List.getElem_range]
    by_cases h3 : i < k
    · rw [if_pos h3, if_pos (by omega)]
    · rw [if_neg h3]
      by_cases h4 : i < k + 1
      · have h5 : s.getD (40 * n + i) 0 = 0 := by simp [show s.length ≤ 40 * n + i by omega]
        rw [if_pos h4, h5]; rfl
      · rw [if_neg h4]
theorem mdC_bd (s : List Int) (n k i : Nat) : 0 ≤ (mdC s n k).getD i 0 ∧ (mdC s n k).getD i 0 ≤ 65535 := by
  rcases Nat.lt_or_ge i 40 with h | h
  · rw [mdC_get s n k i h]; split <;> omega
  · have e : (mdC s n k).getD i 0 = 0 := by simp [mdC, h]
    rw [e]; omega
theorem mdV_bd (s : List Int) (n i : Nat) : 0 ≤ (mdV s n).getD i 0 ∧ (mdV s n).getD i 0 ≤ 65535 := mdC_bd s n 40 i
theorem mdV_len (s : List Int) (n : Nat) : (mdV s n).length = 40 := mdC_len s n 40
/-- the version that three numbers give, and the item -/
def mdL (x y z : Int) : List Int := [x, y, z, x % 2, y, x]
def itV (n : Nat) (x y z : Int) : VerD := (2 + x % 59, if 0 < vmaxF (mdL x y z) then 3 + y % 58 else vmaxF (mdL x y z), if 0 < y % 3 then (n : Int) else vpgF (mdL x y z), if 0 < y % 3 then 1 + x % 12 else vslF (mdL x y z), vhotF (mdL x y z), vrowF (mdL x y z))
theorem vmax_0 (l : List Int) : 0 ≤ vmaxF l ∧ vmaxF l < 128 := by rw [vmaxF]; have := mk8_bd l 1; split <;> omega
theorem itV_ok (n : Nat) (x y z : Int) (hn : n < 400) : okD (itV n x y z) := by
  refine ⟨?_, made_ns _, made_plain _⟩
  have h := made_right (mdL x y z)
  rw [trightF, made_rright, Bool.and_true, Bool.and_eq_true, Bool.and_eq_true] at h
  have hv := vmax_0 (mdL x y z)
  rw [trightF, itV]
  dsimp only
  rw [made_rright, Bool.and_true, Bool.and_eq_true, Bool.and_eq_true]
  refine ⟨⟨?_, ?_⟩, ?_⟩
  · simp only [onF, Bool.or_eq_true, Bool.and_eq_true, beq_iff_eq, decide_eq_true_eq]; omega
  · simp only [onZ, onF, Bool.or_eq_true, Bool.and_eq_true, beq_iff_eq, decide_eq_true_eq]; split <;> omega
  · split
    · simp only [tnextF, Bool.or_eq_true, Bool.and_eq_true, beq_iff_eq, decide_eq_true_eq]; omega
    · exact h.2
def it1 (x : Int) (b : ByteArray) : ByteArray := if x % 13 = 3 then ByteArray.empty else b
def it2 (x : Int) (b : ByteArray) : ByteArray := if x % 17 = 5 then ⟨#[111, 100, 100]⟩ else b
def it3 (x y : Int) (b : ByteArray) : ByteArray := if x % 10 = 7 then strOfNums [0, y % 13] else b
def itS (n : Nat) (x y z : Int) : ByteArray := it3 x y (it2 x (it1 x (txD (itV n x y z))))
theorem itS_desc (n : Nat) (x y z : Int) (hn : n < 400) : ∃ o, Desc (itS n x y z) o := by
  rw [itS, it3]
  split
  · exact ⟨none, by rw [Desc, strOfNums_size]; show 2 < 8; decide⟩
  · rw [it2]
    split
    · exact ⟨none, by show 3 < 8; decide⟩
    · rw [it1]
      split
      · exact ⟨none, by show 0 < 8; decide⟩
      · exact ⟨some _, itV_ok n x y z hn, rfl⟩
/-- kind and header of a page -/
def mdK (V : List Int) : Int := if V.getD 2 0 % 9 = 4 then V.getD 3 0 % 3 else 1
def mdH (V : List Int) : ByteArray := if V.getD 2 0 % 11 = 5 then ⟨#[120]⟩ else putS (1 + V.getD 1 0 % 2) 2
theorem mdK_bd (V : List Int) : 0 ≤ mdK V ∧ mdK V ≤ 2 := by rw [mdK]; split <;> omega
theorem mdH_size (V : List Int) : (mdH V).size ≤ 2 := by
  rw [mdH]
  split
  · show 1 ≤ 2; decide
  · rw [putS_size _ 2 (by omega)]; omega
def mdI (V : List Int) (n i : Nat) : ByteArray := itS n (V.getD (3 * i) 0) (V.getD (3 * i + 1) 0) (V.getD (3 * i + 2) 0)
/-- the items when number i is at hand -/
def mdSs (V : List Int) (n : Nat) : Nat → List ByteArray
  | 0 => [mdH V]
  | i + 1 => if i = 0 then [mdH V] else
      if putErr (mdK V) (V.getD 0 0) (mdSs V n i) i (mdI V n i) = 0 then plainL (withL (mdSs V n i) i (mdI V n i)) else mdSs V n i
theorem mdSs_yes {V : List Int} {n i : Nat} (h0 : 1 ≤ i) (h : putErr (mdK V) (V.getD 0 0) (mdSs V n i) i (mdI V n i) = 0) : mdSs V n (i + 1) = plainL (withL (mdSs V n i) i (mdI V n i)) := by rw [mdSs, if_neg (by omega), if_pos h]
theorem mdSs_no {V : List Int} {n i : Nat} (h0 : 1 ≤ i) (h : putErr (mdK V) (V.getD 0 0) (mdSs V n i) i (mdI V n i) ≠ 0) : mdSs V n (i + 1) = mdSs V n i := by rw [mdSs, if_neg (by omega), if_neg h]
theorem sizeT_one (s : ByteArray) : sizeT (plainL [s]) ≤ 2 + s.size := by
  rw [plainL]
  have h := trimN_le [s] [s].length
  simp only [List.length_singleton] at h ⊢
  rcases (by omega : trimN [s] 1 = 0 ∨ trimN [s] 1 = 1) with e | e <;> rw [e] <;> simp [sizeT]
theorem mdSs_right (s : List Int) (n i : Nat) : rightB (mdK (mdV s n)) ((mdV s n).getD 0 0) (mdSs (mdV s n) n i) = true := by
  have hb := mdV_bd s n 0
  have hk := mdK_bd (mdV s n)
  have hh := mdH_size (mdV s n)
  have h1 : rightB (mdK (mdV s n)) ((mdV s n).getD 0 0) [mdH (mdV s n)] = true := by
    have := sizeT_one (mdH (mdV s n))
    simp only [rightB, Bool.and_eq_true, decide_eq_true_eq, sizeL, longB, List.any_cons, List.any_nil, Bool.or_false, Bool.not_eq_true', decide_eq_false_iff_not, List.length_singleton]
    exact ⟨hk.1, hk.2, hb.1, by omega, by omega, by omega, decide_eq_true (by omega)⟩
  induction i with
  | zero => exact h1
  | succ i ih =>
    rw [mdSs]
    split
    · exact h1
    · split
      · rename_i hp
        exact put_right (slot := ((i : Nat) : Int)) ih hp
      · exact ih
theorem mdSs_desc (s : List Int) (n i : Nat) (hn : n < 400) : ∀ x ∈ mdSs (mdV s n) n i, ∃ o, Desc x o := by
  have h1 : ∀ x ∈ [mdH (mdV s n)], ∃ o, Desc x o := fun x hx => by
    rw [List.mem_singleton] at hx
    subst hx
    have := mdH_size (mdV s n)
    exact ⟨none, by rw [Desc]; omega⟩
  induction i with
  | zero => exact h1
  | succ i ih =>
    rw [mdSs]
    split
    · exact h1
    · split
      · exact withL_desc ih (itS_desc _ _ _ _ hn)
      · exact ih
/-- all of R as one entry -/
def eM (R : List Ent) : Ent := ⟨R.flatMap (·.fp), fun W => ∀ e ∈ R, e.holds W ∧ e.loc⟩
theorem eM_loc (R : List Ent) : (eM R).loc := fun W W' hk h e he =>
  ⟨(h e he).2 W W' (fun k hk' => hk k (List.mem_flatMap.2 ⟨e, he, hk'⟩)) (h e he).1, (h e he).2⟩
theorem St.emNil {w0 W : World} {bor : List Nat} {L : List Ent} (h : St w0 bor L W) : St w0 bor (L ++ [eM []]) W := by
  refine ⟨h.upd, fun x hx => ?_, ?_⟩
  · rcases List.mem_append.1 hx with hx | hx
    · exact h.ok x hx
    · rw [List.mem_singleton] at hx
      subst hx
      exact ⟨fun e he => (by cases he), eM_loc _, fun k hk => (by cases hk)⟩
  · rw [List.pairwise_append]
    refine ⟨h.apart, List.pairwise_singleton _ _, fun a _ b hb => ?_⟩
    rw [List.mem_singleton] at hb
    subst hb
    exact fun k _ hk => by cases hk
/-- the last entry joins the many -/
theorem St.merge {w0 W : World} {bor : List Nat} {L R : List Ent} {e : Ent} (h : St w0 bor (L ++ [eM R, e]) W) : St w0 bor (L ++ [eM (R ++ [e])]) W := by
  have hM := h.ok (eM R) (by simp)
  have hE := h.ok e (by simp)
  have hfp : ∀ k, k ∈ (eM (R ++ [e])).fp ↔ k ∈ (eM R).fp ∨ k ∈ e.fp := fun k => by simp [eM]
  refine ⟨h.upd, fun x hx => ?_, ?_⟩
  · rcases List.mem_append.1 hx with hx | hx
    · exact h.ok x (by simp [hx])
    · rw [List.mem_singleton] at hx
      subst hx
      refine ⟨fun x hx => ?_, eM_loc _, fun k hk => ?_⟩
      · rcases List.mem_append.1 hx with hx | hx
        · exact hM.holds x hx
        · rw [List.mem_singleton] at hx
          subst hx
          exact ⟨hE.holds, hE.loc⟩
      · rcases (hfp k).1 hk with hk | hk
        · exact hM.own k hk
        · exact hE.own k hk
  · have ha := h.apart
    rw [List.pairwise_append] at ha ⊢
    refine ⟨ha.1, List.pairwise_singleton _ _, fun a ha' b hb => ?_⟩
    rw [List.mem_singleton] at hb
    subst hb
    intro k hk hkb
    rcases (hfp k).1 hkb with hkb | hkb
    · exact ha.2.2 a ha' (eM R) (by simp) k hk hkb
    · exact ha.2.2 a ha' e (by simp) k hk hkb
/-- a page's items as an entry; the pages of Made as one entry -/
def entP (p : PgD) : Ent := eO 9 1 (.slice p.A p.its.length p.c) p.its.length (strs p.its)
def ePs (Ps : List PgD) : Ent := eM (Ps.map entP)
def MdOk (s : List Int) (n : Nat) (p : PgD) : Prop := p.k = mdK (mdV s n) ∧ p.l = (mdV s n).getD 0 0 ∧ p.its.map Prod.fst = mdSs (mdV s n) n 12 ∧ (∀ i ∈ p.its, Desc i.1 i.2)
def eMd (s : List Int) (A : Option Addr) (fp : List Nat) : Ent := ⟨fp, fun W => ∃ (c : Nat) (Ps : List PgD), Ps.length = 5 ∧ (∀ n, n < 5 → MdOk s n (Ps.getD n p0)) ∧ fp = (eM (Ps.map entP ++ [eO 64 3 (.slice A 5 c) 5 (Ps.flatMap pgC)])).fp ∧ (eM (Ps.map entP ++ [eO 64 3 (.slice A 5 c) 5 (Ps.flatMap pgC)])).holds W⟩
theorem eMd_loc (s : List Int) (A : Option Addr) (fp : List Nat) : (eMd s A fp).loc := fun W W' hk h => by
  obtain ⟨c, Ps, h1, h2, h3, h4⟩ := h
  exact ⟨c, Ps, h1, h2, h3, eM_loc _ W W' (fun k hk' => hk k (by rw [eMd, h3]; exact hk')) h4⟩
theorem eMd_self {e : Ent} {s : List Int} {A : Option Addr} {fp : List Nat} (h : e = eMd s A fp) : e = eMd s A e.fp := by subst h; rfl
theorem eMd_at {s : List Int} {A : Option Addr} {fp : List Nat} {W : World} (h : (eMd s A fp).holds W) : ∃ Ps, Ps.length = 5 ∧ (∀ n, n < 5 → MdOk s n (Ps.getD n p0)) ∧ PgsAt W A Ps := by
  obtain ⟨c, Ps, h1, h2, h3, h4⟩ := h
  refine ⟨Ps, h1, h2, ?_, by omega, fun p hp => ?_⟩
  · have h5 := (h4 _ (List.mem_append_right _ (List.mem_singleton.2 rfl))).1
    exact At.of_ownN h5
  · obtain ⟨i, hi, rfl⟩ := List.getElem_of_mem hp
    have h6 := h2 i (by omega)
    rw [List.getD_eq_getElem?_getD, List.getElem?_eq_getElem hi, Option.getD_some] at h6
    have h5 := (h4 (entP Ps[i]) (List.mem_append_left _ (List.mem_map.2 ⟨_, hp, rfl⟩))).1
    have h7 := congrArg List.length h6.2.2.1
    rw [List.length_map] at h7
    have h8 := (right_parts (mdSs_right s i 12)).2.2.1.1
    exact ⟨At.of_own h5, by omega, eown_cap h5, h6.2.2.2⟩
def MadePost (s : List Int) (w : World) (e : Ending) (w' : World) : Prop := ∃ A c fp, e = .returned (.agg #[.slice A 5 c]) ∧ St w [] [eMd s A fp] w'
theorem St.made {w0 W : World} {s : List Int} {A : Option Addr} {c n : Nat} {Ps : List PgD} (hn : n = 5) (hl : Ps.length = n) (hM : ∀ i, i < n → MdOk s i (Ps.getD i p0)) (h : St w0 [] [ePs Ps, eO 64 3 (.slice A n c) n (Ps.flatMap pgC)] W) : MadePost s w0 (.returned (.agg #[.slice A n c])) W := by
  subst hn
  have h2 := St.merge (L := []) h
  refine ⟨A, c, _, rfl, St.repl (L1 := []) (L2 := []) h2 rfl (fun hh => ⟨c, Ps, hl, hM, rfl, hh⟩) (eMd_loc _ _ _)⟩
theorem St.mergeP {w0 W : World} {bor : List Nat} {L : List Ent} {Ps : List PgD} {p : PgD} (h : St w0 bor (L ++ [ePs Ps, entP p]) W) : St w0 bor (L ++ [ePs (Ps ++ [p])]) W := by
  have h2 := h.merge
  have e : Ps.map entP ++ [entP p] = (Ps ++ [p]).map entP := by simp
  rw [e] at h2
  exact h2
theorem md_snoc {s : List Int} {n : Nat} {Ps : List PgD} {p : PgD} (hl : Ps.length = n) (h : ∀ i, i < n → MdOk s i (Ps.getD i p0)) (hp : MdOk s n p) : ∀ i, i < n + 1 → MdOk s i ((Ps ++ [p]).getD i p0) := fun i hi => by
  subst hl
  rcases Nat.lt_or_ge i Ps.length with g | g
  · have e : (Ps ++ [p]).getD i p0 = Ps.getD i p0 := by rw [List.getD_eq_getElem?_getD, List.getD_eq_getElem?_getD, List.getElem?_append_left g]
    rw [e]; exact h i g
  · have e : i = Ps.length := by omega
    subst e
    have e2 : (Ps ++ [p]).getD Ps.length p0 = p := by simp
    rw [e2]; exact hp
theorem pgs_snoc (Ps : List PgD) (p : PgD) : Ps.flatMap pgC ++ pgC p = (Ps ++ [p]).flatMap pgC := by simp
end
end Go.Proofs.YtjnplglnnamfdaaGreatDoor

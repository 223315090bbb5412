/- The ring of transaction ids, membership in lists of numbers. -/
import Derived.Test.YtfjpglohcppjeaaDoorVu
namespace Go.Proofs.YtfjpglohcppjeaaDoor
open Go.RowKit
set_option linter.unusedVariables false
set_option linter.unusedSimpArgs false

def onF (x : Int) : Bool := decide (3 ≤ x) && decide (x < 128)
def stepsF (a b : Int) : Int := (b - a + 125) % 125
def beforeF (a b : Int) : Bool := if a = 2 then onF b else onF a && onF b && decide (0 < stepsF a b) && decide (stepsF a b ≤ 62)
def ageF (a b : Int) : Int := if onF a && onF b then stepsF a b else 0
theorem onF_iff {x : Int} : onF x = true ↔ 3 ≤ x ∧ x < 128 := by simp [onF]
theorem onF_not {x : Int} : onF x = false ↔ ¬ (3 ≤ x ∧ x < 128) := by rw [← Bool.not_eq_true, onF_iff]
def idxG (x : Int) : List Int → Int → Int
  | [], _ => -1
  | y :: l, k => if x = y then k else idxG x l (k + 1)
theorem idxG_contains (x : Int) : ∀ (l : List Int) (k : Int), 0 ≤ k → decide (0 ≤ idxG x l k) = l.contains x
  | [], k, _ => rfl
  | y :: l, k, hk => by
    unfold idxG
    by_cases h : x = y
    · rw [if_pos h, h]; simp [hk]
    · rw [if_neg h, idxG_contains x l (k + 1) (by omega)]
      simp [h]
theorem idxG_drop (x : Int) (ls : List Int) (k : Nat) (h : k < ls.length) : idxG x (ls.drop k) k = if x = ls.getD k 0 then (k : Int) else idxG x (ls.drop (k + 1)) ((k + 1 : Nat) : Int) := by
  rw [List.drop_eq_getElem_cons h, idxG]
  have e : ls.getD k 0 = ls[k] := by simp [h]
  rw [e]
  rfl

set_option maxRecDepth 100000 in
set_option maxHeartbeats 1000000 in
theorem con_any (x : Int) (w : World) :
    Calls Tryd.prog 76 #[.int .i64 x] w (Ret (.bool (onF x)) w) := by
  go_enter Tryd.func76, Tryd.ntmps76
  have hst0 := St.start w
  refine wp_seq ?_
  refine wp_region_P [0] [.k 2 (.bool false)] [(2, 0, 1, 3)] hst0 fun W1 hst1 => ?_
  refine then_normal ?_
  refine wp_seq ?_
  refine wp_region_P [0, 1, 3, 7, 15, 31, 63] [.k 3 (.int .i64 x), .k 4 (.bool (decide (3 ≤ x))), .k 5 (.bool (decide (3 ≤ x))), .z 6 (decide (3 ≤ x)) (.int .i64 x), .z 7 (decide (3 ≤ x)) (.bool (decide (x < 128))), tA 8 (decide (3 ≤ x)) (decide (x < 128)), .k 2 (.bool ((decide (3 ≤ x)) && (decide (x < 128))))] [(2, 6, 1, 3), (0, 0, 6, 6)] hst1 fun W2 hst2 => ?_
  refine then_normal ?_
  refine wp_ret ?_
  refine bodyPost_ret (v := .bool ((decide (3 ≤ x)) && (decide (x < 128)))) (results_tmp Tryd.results76 rfl) rfl ?_
  exact Ret.bool (by simp [onF, *]) hst2.ext

set_option maxRecDepth 100000 in
set_option maxHeartbeats 1000000 in
theorem csteps_any (a b : Int) (w : World) (ha : onF a = true) (hb : onF b = true) :
    Calls Tryd.prog 83 #[.int .i64 a, .int .i64 b] w (Ret (.int .i64 (stepsF a b)) w) := by
  have ha2 := onF_iff.1 ha
  have hb2 := onF_iff.1 hb
  clear ha hb
  go_enter Tryd.func83, Tryd.ntmps83
  have hst0 := St.start w
  refine wp_seq ?_
  refine wp_region_P [0] [.k 4 (.int .i64 0)] [(4, 0, 1, 5)] hst0 fun W1 hst1 => ?_
  refine then_normal ?_
  refine wp_seq ?_
  refine wp_region_P [0, 0, 3, 7, 15, 31] [.k 5 (.int .i64 b), .k 6 (.int .i64 a), tI 7 (b - a) (by omega), tI 8 ((b - a) + 125) (by omega), tRe 9 .i64 ((b - a) + 125) 125 (((b - a) + 125) % 125) (Int.tmod_eq_emod_of_nonneg (by omega)), .k 4 (.int .i64 (((b - a) + 125) % 125))] [(4, 5, 1, 5), (0, 0, 5, 5)] hst1 fun W2 hst2 => ?_
  refine then_normal ?_
  refine wp_ret ?_
  refine bodyPost_ret (v := .int .i64 (((b - a) + 125) % 125)) (results_tmp Tryd.results83 rfl) rfl ?_
  exact Ret.int rfl hst2.ext

set_option maxRecDepth 100000 in
set_option maxHeartbeats 1000000 in
theorem cbefore_any (a b : Int) (w : World) :
    Calls Tryd.prog 77 #[.int .i64 a, .int .i64 b] w (Ret (.bool (beforeF a b)) w) := by
  go_enter Tryd.func77, Tryd.ntmps77
  have hst0 := St.start w
  refine wp_seq ?_
  refine wp_region_P [0] [.k 4 (.bool false)] [(4, 0, 1, 5)] hst0 fun W1 hst1 => ?_
  refine then_normal ?_
  refine wp_seq ?_
  refine wp_seq ?_
  refine wp_region_T [0, 1, 3, 7, 15, 31, 63, 127, 255, 511, 1023, 2047] [] [] [] [.k 6 (.int .i64 a), .k 7 (.bool (a == 2)), .k 8 (.bool (a == 2)), .z 9 (!(a == 2)) (.int .i64 a), .y 10 (!(a == 2)) (.bool (onF a)), .z 11 (!(a == 2)) (.bool (!(onF a))), tO 12 (a == 2) (!(onF a)), .k 13 (.bool ((a == 2) || (!(onF a)))), .z 14 (!((a == 2) || (!(onF a)))) (.int .i64 b), .y 15 (!((a == 2) || (!(onF a)))) (.bool (onF b)), .z 16 (!((a == 2) || (!(onF a)))) (.bool (!(onF b))), tO 17 ((a == 2) || (!(onF a))) (!(onF b))] (fun _ _ _ _ => True) [] [4, 9] [(6, 0, 12, 18)] hst1 ?_ ?_ ?_
  · exact fun _ _ _ _ _ _ _ _ _ _ h => h
  · refine ⟨?_, ?_, trivial⟩
    · exact m3 rfl (fun _ _ _ h => h) (fun cx => (cx.anc 2 rfl)) fun cx hq => ⟨_, _, run_callF (args := #[.int .i64 a]) rfl cx.sees rfl (by kernel_rfl) (map1 (mbv (cx.anc 3 rfl) hq)), con_any a _⟩
    · exact m3 rfl (fun _ _ _ h => h) (fun cx => (cx.anc 7 rfl)) fun cx hq => ⟨_, _, run_callF (args := #[.int .i64 b]) rfl cx.sees rfl (by kernel_rfl) (map1 (mbv (cx.anc 8 rfl) hq)), con_any b _⟩
  intro σ β X W2 hD hX hst2 fr hfr
  simp only [zM] at hst2
  dsimp only [mgT, vals, List.take, List.drop, List.cons_append, List.nil_append] at hfr
  clear hX hD; subst hfr; clear σ β X
  refine then_normal ?_
  rcases Bool.eq_false_or_eq_true (((a == 2) || (!(onF a))) || (!(onF b))) with hs3 | hs3
  · skip
    have hs3p := hs3
    simp only [zB] at hs3p
    refine wp_cond_true (show Act.eval _ _ = .bool true from (congrArg Value.bool hs3)) ?_
    refine wp_seq ?_
    refine wp_region_T [0, 1, 3, 7, 15, 31, 63] [] [] [] [.k 18 (.int .i64 a), .k 19 (.bool (a == 2)), .k 20 (.bool (a == 2)), .z 21 (a == 2) (.int .i64 b), .y 22 (a == 2) (.bool (onF b)), tA 23 (a == 2) (onF b), .k 4 (.bool ((a == 2) && (onF b)))] (fun _ _ _ _ => True) [] [4] [(4, 6, 1, 5), (13, 0, 6, 19)] hst2 ?_ ?_ ?_
    · exact fun _ _ _ _ _ _ _ _ _ _ h => h
    · refine ⟨?_, trivial⟩
      · exact m3 rfl (fun _ _ _ h => h) (fun cx => (cx.anc 2 rfl)) fun cx hq => ⟨_, _, run_callF (args := #[.int .i64 b]) rfl cx.sees rfl (by kernel_rfl) (map1 (mbv (cx.anc 3 rfl) hq)), con_any b _⟩
    intro σ β X W4 hD hX hst4 fr hfr
    simp only [zM] at hst4
    dsimp only [mgT, vals, List.take, List.drop, List.cons_append, List.nil_append] at hfr
    clear hX hD; subst hfr; clear σ β X
    refine then_normal ?_
    refine wp_ret ?_
    refine then_ret ?_
    refine bodyPost_ret (v := .bool ((a == 2) && (onF b))) (results_tmp Tryd.results77 rfl) rfl ?_
    exact Ret.bool (by by_cases h2 : a = 2 <;> cases h3 : onF a <;> cases h4 : onF b <;> first | (simp_all [beforeF]; done) | (simp_all [beforeF]; omega)) hst4.ext
  have hs3p := hs3
  simp only [zB] at hs3p
  obtain ⟨⟨hs3p1, hs3p2⟩, hs3p3⟩ := hs3p
  refine wp_cond_false (show Act.eval _ _ = .bool false from (congrArg Value.bool hs3)) ?_
  refine wp_skip ?_
  refine then_normal ?_
  refine wp_seq ?_
  refine wp_region_T [0, 0, 3, 7] [] [] [] [.k 24 (.int .i64 a), .k 25 (.int .i64 b), .c 26 (.int .i64 (stepsF a b)), .k 5 (.int .i64 (stepsF a b))] (fun _ _ _ _ => True) [] [2] [(5, 3, 1, 6), (18, 0, 3, 21)] hst2 ?_ ?_ ?_
  · exact fun _ _ _ _ _ _ _ _ _ _ h => h
  · refine ⟨?_, trivial⟩
    · exact sv_call rfl rfl rfl rfl rfl (fun _ _ _ h => h) fun ρ β W X cx => ⟨_, _, run_callF (args := #[.int .i64 a, .int .i64 b]) rfl cx.sees rfl (by kernel_rfl) (map2 (cx.anc 0 rfl) (cx.anc 1 rfl)), csteps_any a b _ (by assumption) (by assumption)⟩
  intro σ β X W5 hD hX hst5 fr hfr
  simp only [zM] at hst5
  dsimp only [mgT, vals, List.take, List.drop, List.cons_append, List.nil_append] at hfr
  clear hX hD; subst hfr; clear σ β X
  refine then_normal ?_
  refine wp_seq ?_
  refine wp_region_P [0, 1, 3, 7, 15, 31, 63] [.k 27 (.int .i64 (stepsF a b)), .k 28 (.bool (decide (0 < stepsF a b))), .k 29 (.bool (decide (0 < stepsF a b))), .z 30 (decide (0 < stepsF a b)) (.int .i64 (stepsF a b)), .z 31 (decide (0 < stepsF a b)) (.bool (decide (stepsF a b ≤ 62))), tA 32 (decide (0 < stepsF a b)) (decide (stepsF a b ≤ 62)), .k 4 (.bool ((decide (0 < stepsF a b)) && (decide (stepsF a b ≤ 62))))] [(4, 6, 1, 5), (22, 0, 6, 28)] hst5 fun W6 hst6 => ?_
  refine then_normal ?_
  refine wp_ret ?_
  refine bodyPost_ret (v := .bool ((decide (0 < stepsF a b)) && (decide (stepsF a b ≤ 62)))) (results_tmp Tryd.results77 rfl) rfl ?_
  exact Ret.bool (by by_cases h2 : a = 2 <;> cases h3 : onF a <;> cases h4 : onF b <;> first | (simp_all [beforeF]; done) | (simp_all [beforeF]; omega)) hst6.ext

set_option maxRecDepth 100000 in
set_option maxHeartbeats 1000000 in
theorem cage_any (a b : Int) (w : World) :
    Calls Tryd.prog 79 #[.int .i64 a, .int .i64 b] w (Ret (.int .i64 (ageF a b)) w) := by
  go_enter Tryd.func79, Tryd.ntmps79
  have hst0 := St.start w
  refine wp_seq ?_
  refine wp_region_P [0] [.k 4 (.int .i64 0)] [(4, 0, 1, 5)] hst0 fun W1 hst1 => ?_
  refine then_normal ?_
  refine wp_seq ?_
  refine wp_seq ?_
  refine wp_region_T [0, 1, 3, 7, 15, 31, 63, 127] [] [] [] [.k 5 (.int .i64 a), .c 6 (.bool (onF a)), .k 7 (.bool (!(onF a))), .k 8 (.bool (!(onF a))), .z 9 (!(!(onF a))) (.int .i64 b), .y 10 (!(!(onF a))) (.bool (onF b)), .z 11 (!(!(onF a))) (.bool (!(onF b))), tO 12 (!(onF a)) (!(onF b))] (fun _ _ _ _ => True) [] [1, 5] [(5, 0, 8, 13)] hst1 ?_ ?_ ?_
  · exact fun _ _ _ _ _ _ _ _ _ _ h => h
  · refine ⟨?_, ?_, trivial⟩
    · exact sv_call rfl rfl rfl rfl rfl (fun _ _ _ h => h) fun ρ β W X cx => ⟨_, _, run_callF (args := #[.int .i64 a]) rfl cx.sees rfl (by kernel_rfl) (map1 (cx.anc 0 rfl)), con_any a _⟩
    · exact m3 rfl (fun _ _ _ h => h) (fun cx => (cx.anc 3 rfl)) fun cx hq => ⟨_, _, run_callF (args := #[.int .i64 b]) rfl cx.sees rfl (by kernel_rfl) (map1 (mbv (cx.anc 4 rfl) hq)), con_any b _⟩
  intro σ β X W2 hD hX hst2 fr hfr
  simp only [zM] at hst2
  dsimp only [mgT, vals, List.take, List.drop, List.cons_append, List.nil_append] at hfr
  clear hX hD; subst hfr; clear σ β X
  refine then_normal ?_
  rcases Bool.eq_false_or_eq_true ((!(onF a)) || (!(onF b))) with hs3 | hs3
  · skip
    have hs3p := hs3
    simp only [zB] at hs3p
    refine wp_cond_true (show Act.eval _ _ = .bool true from (congrArg Value.bool hs3)) ?_
    refine wp_seq ?_
    refine wp_region_P [0] [.k 4 (.int .i64 0)] [(4, 0, 1, 5)] hst2 fun W4 hst4 => ?_
    refine then_normal ?_
    refine wp_ret ?_
    refine then_ret ?_
    refine bodyPost_ret (v := .int .i64 0) (results_tmp Tryd.results79 rfl) rfl ?_
    exact Ret.int (by first | (simp_all [ageF]; done) | (rcases ‹_ ∨ _› with hor | hor <;> simp_all [ageF])) hst4.ext
  have hs3p := hs3
  simp only [zB] at hs3p
  obtain ⟨hs3p1, hs3p2⟩ := hs3p
  refine wp_cond_false (show Act.eval _ _ = .bool false from (congrArg Value.bool hs3)) ?_
  refine wp_skip ?_
  refine then_normal ?_
  refine wp_seq ?_
  refine wp_region_T [0, 0, 3, 7] [] [] [] [.k 13 (.int .i64 a), .k 14 (.int .i64 b), .c 15 (.int .i64 (stepsF a b)), .k 4 (.int .i64 (stepsF a b))] (fun _ _ _ _ => True) [] [2] [(4, 3, 1, 5), (8, 0, 3, 11)] hst2 ?_ ?_ ?_
  · exact fun _ _ _ _ _ _ _ _ _ _ h => h
  · refine ⟨?_, trivial⟩
    · exact sv_call rfl rfl rfl rfl rfl (fun _ _ _ h => h) fun ρ β W X cx => ⟨_, _, run_callF (args := #[.int .i64 a, .int .i64 b]) rfl cx.sees rfl (by kernel_rfl) (map2 (cx.anc 0 rfl) (cx.anc 1 rfl)), csteps_any a b _ (by assumption) (by assumption)⟩
  intro σ β X W5 hD hX hst5 fr hfr
  simp only [zM] at hst5
  dsimp only [mgT, vals, List.take, List.drop, List.cons_append, List.nil_append] at hfr
  clear hX hD; subst hfr; clear σ β X
  refine then_normal ?_
  refine wp_ret ?_
  refine bodyPost_ret (v := .int .i64 (stepsF a b)) (results_tmp Tryd.results79 rfl) rfl ?_
  exact Ret.int (by first | (simp_all [ageF]; done) | (rcases ‹_ ∨ _› with hor | hor <;> simp_all [ageF])) hst5.ext

set_option maxRecDepth 100000 in
set_option maxHeartbeats 1000000 in
theorem iindex_any (A : Option Addr) (c : Nat) (ls : List Int) (x : Int) (w : World) (hA : At w A (ls.map (Value.int .i64))) (hl : ls.length ≤ 100000) :
    Calls Tryd.prog 116 #[.slice A ls.length c, .int .i64 x] w (Ret (.int .i64 (idxG x ls 0)) w) := by
  go_enter Tryd.func116, Tryd.ntmps116
  have hst0 := St.start w
  refine wp_seq ?_
  refine wp_region_P [0] [.k 4 (.int .i64 0)] [(4, 0, 1, 5)] hst0 fun W1 hst1 => ?_
  refine then_normal ?_
  refine wp_seq ?_
  refine wp_seq ?_
  refine wp_region_P [0, 1, 0] [.k 6 (.slice A ls.length c), .k 7 (.int .i64 ((ls.length : Int))), .k 8 (.int .i64 0)] [(6, 0, 3, 9)] hst1 fun W2 hst2 => ?_
  refine then_normal ?_
  refine wp_block ?_
  refine wp_loopN (fun mz az W => ∃ k : Nat, ∃ u3_ : List Value, k ≤ ls.length ∧ idxG x ls 0 = idxG x (ls.drop k) k ∧ mz = ls.length - k ∧ az = ⟨#[.slice A ls.length c, .int .i64 x, undef, undef, (u3_.getD 0 undef), (u3_.getD 1 undef), .slice A ls.length c, .int .i64 ((ls.length : Int)), .int .i64 ((k : Int)), (u3_.getD 2 undef), (u3_.getD 3 undef), (u3_.getD 4 undef), (u3_.getD 5 undef), (u3_.getD 6 undef), (u3_.getD 7 undef), (u3_.getD 8 undef), (u3_.getD 9 undef), (u3_.getD 10 undef), (u3_.getD 11 undef)], []⟩ ∧ St w [] [] W) (ls.length - 0) ?_ ?_
  · -- the loop begins
    have hp4 := hst2.pick [] (by decide) rfl
    exact ⟨0, [.int .i64 0, undef, undef, undef, undef, undef, undef, undef, undef, undef, undef, undef], Nat.zero_le _, rfl, rfl, rfl, hp4⟩
  rintro n3 a3 W3 ⟨k, u3_, hk, hI, rfl, rfl, hst3⟩
  refine wp_seq ?_
  refine wp_region_P [0] [.k 9 (.bool (decide ((k : Int) < (ls.length : Int))))] [(9, 0, 1, 10)] hst3 fun W5 hst5 => ?_
  refine then_normal ?_
  refine wp_seq ?_
  rcases Bool.eq_false_or_eq_true (decide ((k : Int) < (ls.length : Int))) with hs6 | hs6
  · skip
    have hs6p : (k : Int) < (ls.length : Int) := by simpa using hs6
    refine wp_cond_true (show Act.eval _ _ = .bool true from (congrArg Value.bool hs6)) ?_
    refine wp_skip ?_
    refine then_normal ?_
    refine wp_seq ?_
    refine wp_block ?_
    refine wp_seq ?_
    refine wp_region_P [0, 1] [.k 10 (.int .i64 ((k : Int))), .k 5 (.int .i64 ((k : Int)))] [(5, 1, 1, 6), (4, 0, 1, 5)] hst5 fun W7 hst7 => ?_
    refine then_normal ?_
    refine wp_seq ?_
    refine wp_region_T [0, 0, 0, 6, 14, 31] [] [] [] [.k 11 (.int .i64 x), .k 12 (.slice A ls.length c), .k 13 (.int .i64 ((k : Int))), .c 14 (.pointer (some ((ad A).add k))), .c 15 (.int .i64 (ls.getD k 0)), .k 16 (.bool (x == (ls.getD k 0)))] (fun _ _ _ _ => True) [] [3, 4] [(11, 0, 6, 17)] hst7 ?_ ?_ ?_
    · exact fun _ _ _ _ _ _ _ _ _ _ h => h
    · refine ⟨?_, ?_, trivial⟩
      · exact s4 rfl (fun _ _ _ h => h) fun cx => run_indexSl (e := 3) (m := k) rfl (by kernel_rfl) (by kernel_rfl) (cx.anc 1 rfl) (cx.anc 2 rfl) (by omega) (by omega) (hA.ext cx.upd.to_ext) (by simp)
      · exact s4 rfl (fun _ _ _ h => h) fun cx => run_load1 rfl (by kernel_rfl) (cx.anc 3 rfl) (At.cellAd (hA.ext cx.upd.to_ext) (getD_int (by omega)))
    intro σ β X W8 hD hX hst8 fr hfr
    simp only [zM] at hst8
    dsimp only [mgT, vals, List.take, List.drop, List.cons_append, List.nil_append] at hfr
    clear hX hD; subst hfr; clear σ β X
    refine then_normal ?_
    rcases Bool.eq_false_or_eq_true (x == (ls.getD k 0)) with hs9 | hs9
    · skip
      have hs9p : x = (ls.getD k 0) := by simpa using hs9
      refine wp_cond_true (show Act.eval _ _ = .bool true from (congrArg Value.bool hs9)) ?_
      refine wp_seq ?_
      refine wp_region_P [0, 1] [.k 17 (.int .i64 ((k : Int))), .k 4 (.int .i64 ((k : Int)))] [(4, 1, 1, 5), (12, 0, 1, 13)] hst8 fun W10 hst10 => ?_
      refine then_normal ?_
      refine wp_ret ?_
      refine blk_ret ?_
      refine then_ret ?_
      refine then_ret ?_
      refine blk_ret ?_
      refine then_ret ?_
      refine bodyPost_ret (v := .int .i64 ((k : Int))) (results_tmp Tryd.results116 rfl) rfl ?_
      exact Ret.int (by rw [hI, idxG_drop x ls k (by omega), if_pos (by assumption)]) hst10.ext
    have hs9p : x ≠ (ls.getD k 0) := by simpa using hs9
    refine wp_cond_false (show Act.eval _ _ = .bool false from (congrArg Value.bool hs9)) ?_
    refine wp_skip ?_
    refine blk_normal ?_
    refine then_normal ?_
    refine wp_region_P [0, 1] [tI 18 ((k : Int) + 1) (by omega), .k 8 (.int .i64 ((k : Int) + 1))] [(8, 1, 1, 9), (9, 0, 1, 10)] hst8 fun W11 hst11 => ?_
    refine then_normal ?_
    refine ⟨ls.length - ((k + 1)), by omega, ?_⟩
    have hp12 := hst11.pick [] (by decide) rfl
    exact ⟨(k + 1), [(u3_.getD 0 undef), .int .i64 ((k : Int)), .bool (decide ((k : Int) < (ls.length : Int))), .int .i64 ((k : Int)), .int .i64 x, .slice A ls.length c, .int .i64 ((k : Int)), .pointer (some ((ad A).add k)), .int .i64 (ls.getD k 0), .bool (x == (ls.getD k 0)), (u3_.getD 10 undef), .int .i64 ((k : Int) + 1)], by omega, by rw [hI, idxG_drop x ls k (by omega), if_neg (by assumption)], rfl, rfl, hp12⟩
  have hs6p : ¬ ((k : Int) < (ls.length : Int)) := by simpa using hs6
  refine wp_cond_false (show Act.eval _ _ = .bool false from (congrArg Value.bool hs6)) ?_
  refine wp_exit ?_
  refine then_exit ?_
  refine then_exit ?_
  refine blk_eq ?_
  refine then_normal ?_
  refine wp_seq ?_
  refine wp_region_P [0] [.k 4 (.int .i64 (-1))] [(4, 0, 1, 5)] hst5 fun W13 hst13 => ?_
  refine then_normal ?_
  refine wp_ret ?_
  refine bodyPost_ret (v := .int .i64 (-1)) (results_tmp Tryd.results116 rfl) rfl ?_
  exact Ret.int (by rw [hI, List.drop_of_length_le (by omega)]; rfl) hst13.ext

set_option maxRecDepth 100000 in
set_option maxHeartbeats 1000000 in
theorem icontains_any (A : Option Addr) (c : Nat) (ls : List Int) (x : Int) (w : World) (hA : At w A (ls.map (Value.int .i64))) (hl : ls.length ≤ 100000) :
    Calls Tryd.prog 74 #[.slice A ls.length c, .int .i64 x] w (Ret (.bool (ls.contains x)) w) := by
  go_enter Tryd.func74, Tryd.ntmps74
  have hst0 := St.start w
  refine wp_seq ?_
  refine wp_region_P [0] [.k 4 (.bool false)] [(4, 0, 1, 5)] hst0 fun W1 hst1 => ?_
  refine then_normal ?_
  refine wp_seq ?_
  refine wp_region_T [0, 0, 3, 7, 15] [] [] [] [.k 5 (.slice A ls.length c), .k 6 (.int .i64 x), .c 7 (.int .i64 (idxG x ls 0)), .k 8 (.bool (decide (0 ≤ idxG x ls 0))), .k 4 (.bool (decide (0 ≤ idxG x ls 0)))] (fun _ _ _ _ => True) [] [2] [(4, 4, 1, 5), (0, 0, 4, 4)] hst1 ?_ ?_ ?_
  · exact fun _ _ _ _ _ _ _ _ _ _ h => h
  · refine ⟨?_, trivial⟩
    · exact sv_call rfl rfl rfl rfl rfl (fun _ _ _ h => h) fun ρ β W X cx => ⟨_, _, run_callF (args := #[.slice A ls.length c, .int .i64 x]) rfl cx.sees rfl (by kernel_rfl) (map2 (cx.anc 0 rfl) (cx.anc 1 rfl)), iindex_any _ _ ls x _ (hA.ext cx.upd.to_ext) (by assumption)⟩
  intro σ β X W2 hD hX hst2 fr hfr
  simp only [zM] at hst2
  dsimp only [mgT, vals, List.take, List.drop, List.cons_append, List.nil_append] at hfr
  clear hX hD; subst hfr; clear σ β X
  refine then_normal ?_
  refine wp_ret ?_
  refine bodyPost_ret (v := .bool (decide (0 ≤ idxG x ls 0))) (results_tmp Tryd.results74 rfl) rfl ?_
  exact Ret.bool (idxG_contains x ls 0 (Int.le_refl 0)) hst2.ext

end Go.Proofs.YtfjpglohcppjeaaDoor

/- The ring of transaction ids, membership in lists of numbers. -/
import Derived.Test.YtfjpglohcppjeaaDoorVp
namespace Go.Proofs.YtfjpglohcppjeaaDoor
open Go.RowKit
set_option linter.unusedVariables false

def onF (x : Int) : Bool := decide (3 ≤ x) && decide (x < 128)
def stepsF (a b : Int) : Int := (b - a + 125) % 125
def beforeF (a b : Int) : Bool := if a = 2 then onF b else onF a && onF b && decide (0 < stepsF a b) && decide (stepsF a b ≤ 62)
def ageF (a b : Int) : Int := if onF a && onF b then stepsF a b else 0
theorem onF_iff {x : Int} : onF x = true ↔ 3 ≤ x ∧ x < 128 := by simp [onF]
theorem onF_not {x : Int} : onF x = false ↔ ¬ (3 ≤ x ∧ x < 128) := by rw [← Bool.not_eq_true, onF_iff]
def idxG (x : Int) : List Int → Int → Int
  | [], _ => -1
  | y :: l, k => if x = y then k else idxG x l (k + 1)
theorem idxG_contains (x : Int) : ∀ (l : List Int) (k : Int), 0 ≤ k → decide (0 ≤ idxG x l k) = l.contains x
  | [], k, _ => rfl
  | y :: l, k, hk => by
    unfold idxG
    by_cases h : x = y
    · rw [if_pos h, h]; simp [hk]
    · rw [if_neg h, idxG_contains x l (k + 1) (by omega)]
      simp [h]
theorem idxG_drop (x : Int) (ls : List Int) (k : Nat) (h : k < ls.length) : idxG x (ls.drop k) k = if x = ls.getD k 0 then (k : Int) else idxG x (ls.drop (k + 1)) ((k + 1 : Nat) : Int) := by
  rw [List.drop_eq_getElem_cons h, idxG]
  have e : ls.getD k 0 = ls[k] := by simp [h]
  rw [e]
  rfl

set_option maxRecDepth 100000 in
set_option maxHeartbeats 1000000 in
theorem con_any (x : Int) (w : World) :
    Calls Tryd.prog 76 #[.int .i64 x] w (Ret (.bool (onF x)) w) := by
  go_enter Tryd.func76, Tryd.ntmps76
  have hst0 := St.start w
  refine wp_seq ?_
  refine wp_region_X [0] [] [] [] (fun ix σ β X => match ix with | 0 => σ 2 = .bool false | _ => True) [] [2] hst0 ?_ ?_ ?_
  · exact fun ix _ _ _ _ _ _ hs hb hx h => match ix, h with
    | 0, h => (hs _ rfl).symm.trans h
    | _ + 1, _ => trivial
  · refine ⟨trivial, ?_⟩
    · exact s0 rfl fun cx => run_assign' rfl (cx.sees.const _)
  intro σ β X W1 hD hX hst1 fr hfr
  simp only [zM] at hst1
  simp only [zP, ed 2 (hD 0 lq)] at hfr
  clear hX hD; subst hfr; clear σ β X
  refine then_normal ?_
  refine wp_seq ?_
  rcases Bool.eq_false_or_eq_true (decide (3 ≤ x)) with hs3 | hs3
  · skip
    have hs3p : 3 ≤ x := by simpa using hs3
    refine wp_region_X [0, 1, 3, 7, 15, 31, 63] [] [] [] (fun ix σ β X => match ix with | 0 => σ 3 = .int .i64 x | 1 => σ 4 = .bool (decide (3 ≤ x)) | 2 => σ 5 = .bool true | 3 => σ 6 = .int .i64 x | 4 => σ 7 = .bool (decide (x < 128)) | 5 => σ 8 = .bool (decide (x < 128)) | 6 => σ 2 = .bool (decide (x < 128)) | _ => True) [] [3, 4, 5, 6, 7, 8, 2] hst1 ?_ ?_ ?_
    · exact fun ix _ _ _ _ _ _ hs hb hx h => match ix, h with
      | 0, h | 1, h | 2, h | 3, h | 4, h | 5, h | 6, h => (hs _ rfl).symm.trans h
      | _ + 7, _ => trivial
    · refine ⟨⟨⟨⟨⟨⟨⟨trivial, ?_⟩, ?_⟩, ?_⟩, ?_⟩, ?_⟩, ?_⟩, ?_⟩
      · exact mo rfl
      · exact s0 rfl fun cx => run_bin rfl (cx.anc 0 rfl) (cx.sees.const _) rfl
      · exact s0 rfl fun cx => run_move' rfl (Eq.trans (cx.anc 1 rfl) (congrArg Value.bool hs3))
      · exact s1 rfl (fun cx => (cx.anc 2 rfl)) fun cx => run_move' rfl (cx.out 0 rfl)
      · exact s1 rfl (fun cx => (cx.anc 2 rfl)) fun cx => run_bin rfl (cx.anc 3 rfl) (cx.sees.const _) rfl
      · exact s0 rfl fun cx => run_pick_t rfl (cx.anc 2 rfl) (cx.anc 4 rfl)
      · exact s0 rfl fun cx => run_assign' rfl (cx.anc 5 rfl)
    intro σ β X W4 hD hX hst4 fr hfr
    simp only [zM] at hst4
    simp only [zP, ed 3 (hD 0 lq), ed 4 (hD 1 lq), ed 5 (hD 2 lq), ed 6 (hD 3 lq), ed 7 (hD 4 lq), ed 8 (hD 5 lq), ed 2 (hD 6 lq)] at hfr
    clear hX hD; subst hfr; clear σ β X
    refine then_normal ?_
    refine wp_ret ?_
    refine bodyPost_ret (v := .bool (decide (x < 128))) (by simp [results, Tryd.results76, go_sem]) rfl ?_
    exact Ret.bool (by simp [onF, *]) hst4.ext
  have hs3p : ¬ (3 ≤ x) := by simpa using hs3
  refine wp_region_X [0, 1, 3, 7, 15, 31, 63] [] [] [] (fun ix σ β X => match ix with | 0 => σ 3 = .int .i64 x | 1 => σ 4 = .bool (decide (3 ≤ x)) | 2 => σ 5 = .bool false | 3 => σ 6 = undef | 4 => σ 7 = undef | 5 => σ 8 = .bool false | 6 => σ 2 = .bool false | _ => True) [] [3, 4, 5, 6, 7, 8, 2] hst1 ?_ ?_ ?_
  · exact fun ix _ _ _ _ _ _ hs hb hx h => match ix, h with
    | 0, h | 1, h | 2, h | 3, h | 4, h | 5, h | 6, h => (hs _ rfl).symm.trans h
    | _ + 7, _ => trivial
  · refine ⟨⟨⟨⟨⟨⟨⟨trivial, ?_⟩, ?_⟩, ?_⟩, ?_⟩, ?_⟩, ?_⟩, ?_⟩
    · exact mo rfl
    · exact s0 rfl fun cx => run_bin rfl (cx.anc 0 rfl) (cx.sees.const _) rfl
    · exact s0 rfl fun cx => run_move' rfl (Eq.trans (cx.anc 1 rfl) (congrArg Value.bool hs3))
    · exact s2 rfl fun cx => (cx.anc 2 rfl)
    · exact s2 rfl fun cx => (cx.anc 2 rfl)
    · exact s0 rfl fun cx => run_pick_f rfl (cx.anc 2 rfl) (cx.sees.const _)
    · exact s0 rfl fun cx => run_assign' rfl (cx.anc 5 rfl)
  intro σ β X W5 hD hX hst5 fr hfr
  simp only [zM] at hst5
  simp only [zP, ed 3 (hD 0 lq), ed 4 (hD 1 lq), ed 5 (hD 2 lq), ed 6 (hD 3 lq), ed 7 (hD 4 lq), ed 8 (hD 5 lq), ed 2 (hD 6 lq)] at hfr
  clear hX hD; subst hfr; clear σ β X
  refine then_normal ?_
  refine wp_ret ?_
  refine bodyPost_ret (v := .bool false) (by simp [results, Tryd.results76, go_sem]) rfl ?_
  exact Ret.bool (by simp [onF, *]) hst5.ext

set_option maxRecDepth 100000 in
set_option maxHeartbeats 1000000 in
theorem csteps_any (a b : Int) (w : World) (ha : onF a = true) (hb : onF b = true) :
    Calls Tryd.prog 83 #[.int .i64 a, .int .i64 b] w (Ret (.int .i64 (stepsF a b)) w) := by
  have ha2 := onF_iff.1 ha
  have hb2 := onF_iff.1 hb
  clear ha hb
  go_enter Tryd.func83, Tryd.ntmps83
  have hst0 := St.start w
  refine wp_seq ?_
  refine wp_region_X [0] [] [] [] (fun ix σ β X => match ix with | 0 => σ 4 = .int .i64 0 | _ => True) [] [4] hst0 ?_ ?_ ?_
  · exact fun ix _ _ _ _ _ _ hs hb hx h => match ix, h with
    | 0, h => (hs _ rfl).symm.trans h
    | _ + 1, _ => trivial
  · refine ⟨trivial, ?_⟩
    · exact s0 rfl fun cx => run_assign' rfl (cx.sees.const _)
  intro σ β X W1 hD hX hst1 fr hfr
  simp only [zM] at hst1
  simp only [zP, ed 4 (hD 0 lq)] at hfr
  clear hX hD; subst hfr; clear σ β X
  refine then_normal ?_
  refine wp_seq ?_
  refine wp_region_X [0, 0, 3, 7, 15, 31] [] [] [] (fun ix σ β X => match ix with | 0 => σ 5 = .int .i64 b | 1 => σ 6 = .int .i64 a | 2 => σ 7 = .int .i64 (b - a) | 3 => σ 8 = .int .i64 ((b - a) + 125) | 4 => σ 9 = .int .i64 (((b - a) + 125) % 125) | 5 => σ 4 = .int .i64 (((b - a) + 125) % 125) | _ => True) [] [5, 6, 7, 8, 9, 4] hst1 ?_ ?_ ?_
  · exact fun ix _ _ _ _ _ _ hs hb hx h => match ix, h with
    | 0, h | 1, h | 2, h | 3, h | 4, h | 5, h => (hs _ rfl).symm.trans h
    | _ + 6, _ => trivial
  · refine ⟨⟨⟨⟨⟨⟨trivial, ?_⟩, ?_⟩, ?_⟩, ?_⟩, ?_⟩, ?_⟩
    · exact mo rfl
    · exact mo rfl
    · exact s4 rfl (fun _ _ _ h => h) fun cx => run_bin rfl (cx.anc 0 rfl) (cx.anc 1 rfl) (congrArg (fun z => some (Value.int .i64 z)) ((IntWalk.i64_in _ (by omega)).trans (by omega)))
    · exact s4 rfl (fun _ _ _ h => h) fun cx => run_bin rfl (cx.anc 2 rfl) (cx.sees.const _) (congrArg (fun z => some (Value.int .i64 z)) ((IntWalk.i64_in _ (by omega)).trans (by omega)))
    · exact s4 rfl (fun _ _ _ h => h) fun cx => run_rem rfl (cx.anc 3 rfl) (cx.sees.const _) (by decide) (Int.tmod_eq_emod_of_nonneg (by omega))
    · exact s0 rfl fun cx => run_assign' rfl (cx.anc 4 rfl)
  intro σ β X W2 hD hX hst2 fr hfr
  simp only [zM] at hst2
  simp only [zP, ed 5 (hD 0 lq), ed 6 (hD 1 lq), ed 7 (hD 2 lq), ed 8 (hD 3 lq), ed 9 (hD 4 lq), ed 4 (hD 5 lq)] at hfr
  clear hX hD; subst hfr; clear σ β X
  refine then_normal ?_
  refine wp_ret ?_
  refine bodyPost_ret (v := .int .i64 (((b - a) + 125) % 125)) (by simp [results, Tryd.results83, go_sem]) rfl ?_
  exact Ret.int rfl hst2.ext

set_option maxRecDepth 100000 in
set_option maxHeartbeats 1000000 in
theorem cbefore_any (a b : Int) (w : World) :
    Calls Tryd.prog 77 #[.int .i64 a, .int .i64 b] w (Ret (.bool (beforeF a b)) w) := by
  go_enter Tryd.func77, Tryd.ntmps77
  have hst0 := St.start w
  refine wp_seq ?_
  refine wp_region_X [0] [] [] [] (fun ix σ β X => match ix with | 0 => σ 4 = .bool false | _ => True) [] [4] hst0 ?_ ?_ ?_
  · exact fun ix _ _ _ _ _ _ hs hb hx h => match ix, h with
    | 0, h => (hs _ rfl).symm.trans h
    | _ + 1, _ => trivial
  · refine ⟨trivial, ?_⟩
    · exact s0 rfl fun cx => run_assign' rfl (cx.sees.const _)
  intro σ β X W1 hD hX hst1 fr hfr
  simp only [zM] at hst1
  simp only [zP, ed 4 (hD 0 lq)] at hfr
  clear hX hD; subst hfr; clear σ β X
  refine then_normal ?_
  refine wp_seq ?_
  refine wp_seq ?_
  rcases Bool.eq_false_or_eq_true (a == 2) with hs3 | hs3
  · skip
    have hs3p : a = 2 := by simpa using hs3
    refine wp_region_X [0, 1, 3, 7, 15, 31, 63, 127, 255, 511, 1023, 2047] [] [] [] (fun ix σ β X => match ix with | 0 => σ 6 = .int .i64 a | 1 => σ 7 = .bool (a == 2) | 2 => σ 8 = .bool true | 3 => σ 9 = undef | 4 => σ 10 = undef | 5 => σ 11 = undef | 6 => σ 12 = .bool true | 7 => σ 13 = .bool true | 8 => σ 14 = undef | 9 => σ 15 = undef | 10 => σ 16 = undef | 11 => σ 17 = .bool true | _ => True) [] [6, 7, 8, 9, 10, 11, 12, 13, 14, 15, 16, 17] hst1 ?_ ?_ ?_
    · exact fun ix _ _ _ _ _ _ hs hb hx h => match ix, h with
      | 0, h | 1, h | 2, h | 3, h | 4, h | 5, h | 6, h | 7, h | 8, h | 9, h | 10, h | 11, h => (hs _ rfl).symm.trans h
      | _ + 12, _ => trivial
    · refine ⟨⟨⟨⟨⟨⟨⟨⟨⟨⟨⟨⟨trivial, ?_⟩, ?_⟩, ?_⟩, ?_⟩, ?_⟩, ?_⟩, ?_⟩, ?_⟩, ?_⟩, ?_⟩, ?_⟩, ?_⟩
      · exact mo rfl
      · exact s0 rfl fun cx => run_bin rfl (cx.anc 0 rfl) (cx.sees.const _) rfl
      · exact s0 rfl fun cx => run_move' rfl (Eq.trans (cx.anc 1 rfl) (congrArg Value.bool hs3))
      · exact s2 rfl fun cx => (cx.anc 2 rfl)
      · exact s2 rfl fun cx => (cx.anc 2 rfl)
      · exact s2 rfl fun cx => (cx.anc 2 rfl)
      · exact s0 rfl fun cx => run_pick_t rfl (cx.anc 2 rfl) (cx.sees.const _)
      · exact s0 rfl fun cx => run_move' rfl (cx.anc 6 rfl)
      · exact s2 rfl fun cx => (cx.anc 7 rfl)
      · exact s2 rfl fun cx => (cx.anc 7 rfl)
      · exact s2 rfl fun cx => (cx.anc 7 rfl)
      · exact s0 rfl fun cx => run_pick_t rfl (cx.anc 7 rfl) (cx.sees.const _)
    intro σ β X W4 hD hX hst4 fr hfr
    simp only [zM] at hst4
    simp only [zP, ed 6 (hD 0 lq), ed 7 (hD 1 lq), ed 8 (hD 2 lq), ed 9 (hD 3 lq), ed 10 (hD 4 lq), ed 11 (hD 5 lq), ed 12 (hD 6 lq), ed 13 (hD 7 lq), ed 14 (hD 8 lq), ed 15 (hD 9 lq), ed 16 (hD 10 lq), ed 17 (hD 11 lq)] at hfr
    clear hX hD; subst hfr; clear σ β X
    refine then_normal ?_
    refine wp_cond_true (show Act.eval _ _ = .bool true from rfl) ?_
    refine wp_seq ?_
    refine wp_region_X [0, 1, 3, 7, 15, 31, 63] [] [] [] (fun ix σ β X => match ix with | 0 => σ 18 = .int .i64 a | 1 => σ 19 = .bool (a == 2) | 2 => σ 20 = .bool true | 3 => σ 21 = .int .i64 b | 4 => σ 22 = .bool (onF b) | 5 => σ 23 = .bool (onF b) | 6 => σ 4 = .bool (onF b) | _ => True) [] [18, 19, 20, 21, 22, 23, 4] hst4 ?_ ?_ ?_
    · exact fun ix _ _ _ _ _ _ hs hb hx h => match ix, h with
      | 0, h | 1, h | 2, h | 3, h | 4, h | 5, h | 6, h => (hs _ rfl).symm.trans h
      | _ + 7, _ => trivial
    · refine ⟨⟨⟨⟨⟨⟨⟨trivial, ?_⟩, ?_⟩, ?_⟩, ?_⟩, ?_⟩, ?_⟩, ?_⟩
      · exact mo rfl
      · exact s0 rfl fun cx => run_bin rfl (cx.anc 0 rfl) (cx.sees.const _) rfl
      · exact s0 rfl fun cx => run_move' rfl (Eq.trans (cx.anc 1 rfl) (congrArg Value.bool hs3))
      · exact s1 rfl (fun cx => (cx.anc 2 rfl)) fun cx => run_move' rfl (cx.out 1 rfl)
      · exact sv_call_on rfl rfl rfl rfl rfl rfl (fun _ _ _ h => h) (fun _ _ _ _ cx => (cx.anc 2 rfl)) fun ρ β W X cx => ⟨_, _, run_callF (args := #[.int .i64 b]) rfl cx.sees rfl (by kernel_rfl) (map1 (cx.anc 3 rfl)), con_any b _⟩
      · exact s0 rfl fun cx => run_pick_t rfl (cx.anc 2 rfl) (cx.anc 4 rfl)
      · exact s0 rfl fun cx => run_assign' rfl (cx.anc 5 rfl)
    intro σ β X W5 hD hX hst5 fr hfr
    simp only [zM] at hst5
    simp only [zP, ed 18 (hD 0 lq), ed 19 (hD 1 lq), ed 20 (hD 2 lq), ed 21 (hD 3 lq), ed 22 (hD 4 lq), ed 23 (hD 5 lq), ed 4 (hD 6 lq)] at hfr
    clear hX hD; subst hfr; clear σ β X
    refine then_normal ?_
    refine wp_ret ?_
    refine then_ret ?_
    refine bodyPost_ret (v := .bool (onF b)) (by simp [results, Tryd.results77, go_sem]) rfl ?_
    exact Ret.bool (by first | (simp_all [beforeF]; done) | (simp_all [beforeF]; omega)) hst5.ext
  have hs3p : a ≠ 2 := by simpa using hs3
  rcases Bool.eq_false_or_eq_true (onF a) with hs7 | hs7
  · skip
    refine wp_region_X [0, 1, 3, 7, 15, 31, 63, 127, 255, 511, 1023, 2047] [] [] [] (fun ix σ β X => match ix with | 0 => σ 6 = .int .i64 a | 1 => σ 7 = .bool (a == 2) | 2 => σ 8 = .bool false | 3 => σ 9 = .int .i64 a | 4 => σ 10 = .bool (onF a) | 5 => σ 11 = .bool false | 6 => σ 12 = .bool false | 7 => σ 13 = .bool false | 8 => σ 14 = .int .i64 b | 9 => σ 15 = .bool (onF b) | 10 => σ 16 = .bool (!(onF b)) | 11 => σ 17 = .bool (!(onF b)) | _ => True) [] [6, 7, 8, 9, 10, 11, 12, 13, 14, 15, 16, 17] hst1 ?_ ?_ ?_
    · exact fun ix _ _ _ _ _ _ hs hb hx h => match ix, h with
      | 0, h | 1, h | 2, h | 3, h | 4, h | 5, h | 6, h | 7, h | 8, h | 9, h | 10, h | 11, h => (hs _ rfl).symm.trans h
      | _ + 12, _ => trivial
    · refine ⟨⟨⟨⟨⟨⟨⟨⟨⟨⟨⟨⟨trivial, ?_⟩, ?_⟩, ?_⟩, ?_⟩, ?_⟩, ?_⟩, ?_⟩, ?_⟩, ?_⟩, ?_⟩, ?_⟩, ?_⟩
      · exact mo rfl
      · exact s0 rfl fun cx => run_bin rfl (cx.anc 0 rfl) (cx.sees.const _) rfl
      · exact s0 rfl fun cx => run_move' rfl (Eq.trans (cx.anc 1 rfl) (congrArg Value.bool hs3))
      · exact s1 rfl (fun cx => (cx.anc 2 rfl)) fun cx => run_move' rfl (cx.out 0 rfl)
      · exact sv_call_on rfl rfl rfl rfl rfl rfl (fun _ _ _ h => h) (fun _ _ _ _ cx => (cx.anc 2 rfl)) fun ρ β W X cx => ⟨_, _, run_callF (args := #[.int .i64 a]) rfl cx.sees rfl (by kernel_rfl) (map1 (cx.anc 3 rfl)), con_any a _⟩
      · exact s1 rfl (fun cx => (cx.anc 2 rfl)) fun cx => run_not rfl (Eq.trans (cx.anc 4 rfl) (congrArg Value.bool hs7)) rfl
      · exact s0 rfl fun cx => run_pick_f rfl (cx.anc 2 rfl) (cx.anc 5 rfl)
      · exact s0 rfl fun cx => run_move' rfl (cx.anc 6 rfl)
      · exact s1 rfl (fun cx => (cx.anc 7 rfl)) fun cx => run_move' rfl (cx.out 1 rfl)
      · exact sv_call_on rfl rfl rfl rfl rfl rfl (fun _ _ _ h => h) (fun _ _ _ _ cx => (cx.anc 7 rfl)) fun ρ β W X cx => ⟨_, _, run_callF (args := #[.int .i64 b]) rfl cx.sees rfl (by kernel_rfl) (map1 (cx.anc 8 rfl)), con_any b _⟩
      · exact s1 rfl (fun cx => (cx.anc 7 rfl)) fun cx => run_not rfl (cx.anc 9 rfl) rfl
      · exact s0 rfl fun cx => run_pick_f rfl (cx.anc 7 rfl) (cx.anc 10 rfl)
    intro σ β X W8 hD hX hst8 fr hfr
    simp only [zM] at hst8
    simp only [zP, ed 6 (hD 0 lq), ed 7 (hD 1 lq), ed 8 (hD 2 lq), ed 9 (hD 3 lq), ed 10 (hD 4 lq), ed 11 (hD 5 lq), ed 12 (hD 6 lq), ed 13 (hD 7 lq), ed 14 (hD 8 lq), ed 15 (hD 9 lq), ed 16 (hD 10 lq), ed 17 (hD 11 lq)] at hfr
    clear hX hD; subst hfr; clear σ β X
    refine then_normal ?_
    rcases Bool.eq_false_or_eq_true (onF b) with hs9 | hs9
    · skip
      refine wp_cond_false (show Act.eval _ _ = .bool false from (congrArg Value.bool (by rw [hs9]; rfl))) ?_
      refine wp_skip ?_
      refine then_normal ?_
      refine wp_seq ?_
      refine wp_region_X [0, 0, 3, 7] [] [] [] (fun ix σ β X => match ix with | 0 => σ 24 = .int .i64 a | 1 => σ 25 = .int .i64 b | 2 => σ 26 = .int .i64 (stepsF a b) | 3 => σ 5 = .int .i64 (stepsF a b) | _ => True) [] [24, 25, 26, 5] hst8 ?_ ?_ ?_
      · exact fun ix _ _ _ _ _ _ hs hb hx h => match ix, h with
        | 0, h | 1, h | 2, h | 3, h => (hs _ rfl).symm.trans h
        | _ + 4, _ => trivial
      · refine ⟨⟨⟨⟨trivial, ?_⟩, ?_⟩, ?_⟩, ?_⟩
        · exact mo rfl
        · exact mo rfl
        · exact sv_call rfl rfl rfl rfl rfl (fun _ _ _ h => h) fun ρ β W X cx => ⟨_, _, run_callF (args := #[.int .i64 a, .int .i64 b]) rfl cx.sees rfl (by kernel_rfl) (map2 (cx.anc 0 rfl) (cx.anc 1 rfl)), csteps_any a b _ (by assumption) (by assumption)⟩
        · exact s0 rfl fun cx => run_assign' rfl (cx.anc 2 rfl)
      intro σ β X W10 hD hX hst10 fr hfr
      simp only [zM] at hst10
      simp only [zP, ed 24 (hD 0 lq), ed 25 (hD 1 lq), ed 26 (hD 2 lq), ed 5 (hD 3 lq)] at hfr
      clear hX hD; subst hfr; clear σ β X
      refine then_normal ?_
      refine wp_seq ?_
      rcases Bool.eq_false_or_eq_true (decide (0 < stepsF a b)) with hs12 | hs12
      · skip
        have hs12p : 0 < stepsF a b := by simpa using hs12
        refine wp_region_X [0, 1, 3, 7, 15, 31, 63] [] [] [] (fun ix σ β X => match ix with | 0 => σ 27 = .int .i64 (stepsF a b) | 1 => σ 28 = .bool (decide (0 < stepsF a b)) | 2 => σ 29 = .bool true | 3 => σ 30 = .int .i64 (stepsF a b) | 4 => σ 31 = .bool (decide (stepsF a b ≤ 62)) | 5 => σ 32 = .bool (decide (stepsF a b ≤ 62)) | 6 => σ 4 = .bool (decide (stepsF a b ≤ 62)) | _ => True) [] [27, 28, 29, 30, 31, 32, 4] hst10 ?_ ?_ ?_
        · exact fun ix _ _ _ _ _ _ hs hb hx h => match ix, h with
          | 0, h | 1, h | 2, h | 3, h | 4, h | 5, h | 6, h => (hs _ rfl).symm.trans h
          | _ + 7, _ => trivial
        · refine ⟨⟨⟨⟨⟨⟨⟨trivial, ?_⟩, ?_⟩, ?_⟩, ?_⟩, ?_⟩, ?_⟩, ?_⟩
          · exact mo rfl
          · exact s0 rfl fun cx => run_bin rfl (cx.anc 0 rfl) (cx.sees.const _) rfl
          · exact s0 rfl fun cx => run_move' rfl (Eq.trans (cx.anc 1 rfl) (congrArg Value.bool hs12))
          · exact s1 rfl (fun cx => (cx.anc 2 rfl)) fun cx => run_move' rfl (cx.out 5 rfl)
          · exact s1 rfl (fun cx => (cx.anc 2 rfl)) fun cx => run_bin rfl (cx.anc 3 rfl) (cx.sees.const _) rfl
          · exact s0 rfl fun cx => run_pick_t rfl (cx.anc 2 rfl) (cx.anc 4 rfl)
          · exact s0 rfl fun cx => run_assign' rfl (cx.anc 5 rfl)
        intro σ β X W13 hD hX hst13 fr hfr
        simp only [zM] at hst13
        simp only [zP, ed 27 (hD 0 lq), ed 28 (hD 1 lq), ed 29 (hD 2 lq), ed 30 (hD 3 lq), ed 31 (hD 4 lq), ed 32 (hD 5 lq), ed 4 (hD 6 lq)] at hfr
        clear hX hD; subst hfr; clear σ β X
        refine then_normal ?_
        refine wp_ret ?_
        refine bodyPost_ret (v := .bool (decide (stepsF a b ≤ 62))) (by simp [results, Tryd.results77, go_sem]) rfl ?_
        exact Ret.bool (by first | (simp_all [beforeF]; done) | (simp_all [beforeF]; omega)) hst13.ext
      have hs12p : ¬ (0 < stepsF a b) := by simpa using hs12
      refine wp_region_X [0, 1, 3, 7, 15, 31, 63] [] [] [] (fun ix σ β X => match ix with | 0 => σ 27 = .int .i64 (stepsF a b) | 1 => σ 28 = .bool (decide (0 < stepsF a b)) | 2 => σ 29 = .bool false | 3 => σ 30 = undef | 4 => σ 31 = undef | 5 => σ 32 = .bool false | 6 => σ 4 = .bool false | _ => True) [] [27, 28, 29, 30, 31, 32, 4] hst10 ?_ ?_ ?_
      · exact fun ix _ _ _ _ _ _ hs hb hx h => match ix, h with
        | 0, h | 1, h | 2, h | 3, h | 4, h | 5, h | 6, h => (hs _ rfl).symm.trans h
        | _ + 7, _ => trivial
      · refine ⟨⟨⟨⟨⟨⟨⟨trivial, ?_⟩, ?_⟩, ?_⟩, ?_⟩, ?_⟩, ?_⟩, ?_⟩
        · exact mo rfl
        · exact s0 rfl fun cx => run_bin rfl (cx.anc 0 rfl) (cx.sees.const _) rfl
        · exact s0 rfl fun cx => run_move' rfl (Eq.trans (cx.anc 1 rfl) (congrArg Value.bool hs12))
        · exact s2 rfl fun cx => (cx.anc 2 rfl)
        · exact s2 rfl fun cx => (cx.anc 2 rfl)
        · exact s0 rfl fun cx => run_pick_f rfl (cx.anc 2 rfl) (cx.sees.const _)
        · exact s0 rfl fun cx => run_assign' rfl (cx.anc 5 rfl)
      intro σ β X W14 hD hX hst14 fr hfr
      simp only [zM] at hst14
      simp only [zP, ed 27 (hD 0 lq), ed 28 (hD 1 lq), ed 29 (hD 2 lq), ed 30 (hD 3 lq), ed 31 (hD 4 lq), ed 32 (hD 5 lq), ed 4 (hD 6 lq)] at hfr
      clear hX hD; subst hfr; clear σ β X
      refine then_normal ?_
      refine wp_ret ?_
      refine bodyPost_ret (v := .bool false) (by simp [results, Tryd.results77, go_sem]) rfl ?_
      exact Ret.bool (by first | (simp_all [beforeF]; done) | (simp_all [beforeF]; omega)) hst14.ext
    refine wp_cond_true (show Act.eval _ _ = .bool true from (congrArg Value.bool (by rw [hs9]; rfl))) ?_
    refine wp_seq ?_
    refine wp_region_X [0, 1, 3, 7, 15, 31, 63] [] [] [] (fun ix σ β X => match ix with | 0 => σ 18 = .int .i64 a | 1 => σ 19 = .bool (a == 2) | 2 => σ 20 = .bool false | 3 => σ 21 = undef | 4 => σ 22 = undef | 5 => σ 23 = .bool false | 6 => σ 4 = .bool false | _ => True) [] [18, 19, 20, 21, 22, 23, 4] hst8 ?_ ?_ ?_
    · exact fun ix _ _ _ _ _ _ hs hb hx h => match ix, h with
      | 0, h | 1, h | 2, h | 3, h | 4, h | 5, h | 6, h => (hs _ rfl).symm.trans h
      | _ + 7, _ => trivial
    · refine ⟨⟨⟨⟨⟨⟨⟨trivial, ?_⟩, ?_⟩, ?_⟩, ?_⟩, ?_⟩, ?_⟩, ?_⟩
      · exact mo rfl
      · exact s0 rfl fun cx => run_bin rfl (cx.anc 0 rfl) (cx.sees.const _) rfl
      · exact s0 rfl fun cx => run_move' rfl (Eq.trans (cx.anc 1 rfl) (congrArg Value.bool hs3))
      · exact s2 rfl fun cx => (cx.anc 2 rfl)
      · exact s2 rfl fun cx => (cx.anc 2 rfl)
      · exact s0 rfl fun cx => run_pick_f rfl (cx.anc 2 rfl) (cx.sees.const _)
      · exact s0 rfl fun cx => run_assign' rfl (cx.anc 5 rfl)
    intro σ β X W15 hD hX hst15 fr hfr
    simp only [zM] at hst15
    simp only [zP, ed 18 (hD 0 lq), ed 19 (hD 1 lq), ed 20 (hD 2 lq), ed 21 (hD 3 lq), ed 22 (hD 4 lq), ed 23 (hD 5 lq), ed 4 (hD 6 lq)] at hfr
    clear hX hD; subst hfr; clear σ β X
    refine then_normal ?_
    refine wp_ret ?_
    refine then_ret ?_
    refine bodyPost_ret (v := .bool false) (by simp [results, Tryd.results77, go_sem]) rfl ?_
    exact Ret.bool (by first | (simp_all [beforeF]; done) | (simp_all [beforeF]; omega)) hst15.ext
  refine wp_region_X [0, 1, 3, 7, 15, 31, 63, 127, 255, 511, 1023, 2047] [] [] [] (fun ix σ β X => match ix with | 0 => σ 6 = .int .i64 a | 1 => σ 7 = .bool (a == 2) | 2 => σ 8 = .bool false | 3 => σ 9 = .int .i64 a | 4 => σ 10 = .bool (onF a) | 5 => σ 11 = .bool true | 6 => σ 12 = .bool true | 7 => σ 13 = .bool true | 8 => σ 14 = undef | 9 => σ 15 = undef | 10 => σ 16 = undef | 11 => σ 17 = .bool true | _ => True) [] [6, 7, 8, 9, 10, 11, 12, 13, 14, 15, 16, 17] hst1 ?_ ?_ ?_
  · exact fun ix _ _ _ _ _ _ hs hb hx h => match ix, h with
    | 0, h | 1, h | 2, h | 3, h | 4, h | 5, h | 6, h | 7, h | 8, h | 9, h | 10, h | 11, h => (hs _ rfl).symm.trans h
    | _ + 12, _ => trivial
  · refine ⟨⟨⟨⟨⟨⟨⟨⟨⟨⟨⟨⟨trivial, ?_⟩, ?_⟩, ?_⟩, ?_⟩, ?_⟩, ?_⟩, ?_⟩, ?_⟩, ?_⟩, ?_⟩, ?_⟩, ?_⟩
    · exact mo rfl
    · exact s0 rfl fun cx => run_bin rfl (cx.anc 0 rfl) (cx.sees.const _) rfl
    · exact s0 rfl fun cx => run_move' rfl (Eq.trans (cx.anc 1 rfl) (congrArg Value.bool hs3))
    · exact s1 rfl (fun cx => (cx.anc 2 rfl)) fun cx => run_move' rfl (cx.out 0 rfl)
    · exact sv_call_on rfl rfl rfl rfl rfl rfl (fun _ _ _ h => h) (fun _ _ _ _ cx => (cx.anc 2 rfl)) fun ρ β W X cx => ⟨_, _, run_callF (args := #[.int .i64 a]) rfl cx.sees rfl (by kernel_rfl) (map1 (cx.anc 3 rfl)), con_any a _⟩
    · exact s1 rfl (fun cx => (cx.anc 2 rfl)) fun cx => run_not rfl (Eq.trans (cx.anc 4 rfl) (congrArg Value.bool hs7)) rfl
    · exact s0 rfl fun cx => run_pick_f rfl (cx.anc 2 rfl) (cx.anc 5 rfl)
    · exact s0 rfl fun cx => run_move' rfl (cx.anc 6 rfl)
    · exact s2 rfl fun cx => (cx.anc 7 rfl)
    · exact s2 rfl fun cx => (cx.anc 7 rfl)
    · exact s2 rfl fun cx => (cx.anc 7 rfl)
    · exact s0 rfl fun cx => run_pick_t rfl (cx.anc 7 rfl) (cx.sees.const _)
  intro σ β X W16 hD hX hst16 fr hfr
  simp only [zM] at hst16
  simp only [zP, ed 6 (hD 0 lq), ed 7 (hD 1 lq), ed 8 (hD 2 lq), ed 9 (hD 3 lq), ed 10 (hD 4 lq), ed 11 (hD 5 lq), ed 12 (hD 6 lq), ed 13 (hD 7 lq), ed 14 (hD 8 lq), ed 15 (hD 9 lq), ed 16 (hD 10 lq), ed 17 (hD 11 lq)] at hfr
  clear hX hD; subst hfr; clear σ β X
  refine then_normal ?_
  refine wp_cond_true (show Act.eval _ _ = .bool true from rfl) ?_
  refine wp_seq ?_
  refine wp_region_X [0, 1, 3, 7, 15, 31, 63] [] [] [] (fun ix σ β X => match ix with | 0 => σ 18 = .int .i64 a | 1 => σ 19 = .bool (a == 2) | 2 => σ 20 = .bool false | 3 => σ 21 = undef | 4 => σ 22 = undef | 5 => σ 23 = .bool false | 6 => σ 4 = .bool false | _ => True) [] [18, 19, 20, 21, 22, 23, 4] hst16 ?_ ?_ ?_
  · exact fun ix _ _ _ _ _ _ hs hb hx h => match ix, h with
    | 0, h | 1, h | 2, h | 3, h | 4, h | 5, h | 6, h => (hs _ rfl).symm.trans h
    | _ + 7, _ => trivial
  · refine ⟨⟨⟨⟨⟨⟨⟨trivial, ?_⟩, ?_⟩, ?_⟩, ?_⟩, ?_⟩, ?_⟩, ?_⟩
    · exact mo rfl
    · exact s0 rfl fun cx => run_bin rfl (cx.anc 0 rfl) (cx.sees.const _) rfl
    · exact s0 rfl fun cx => run_move' rfl (Eq.trans (cx.anc 1 rfl) (congrArg Value.bool hs3))
    · exact s2 rfl fun cx => (cx.anc 2 rfl)
    · exact s2 rfl fun cx => (cx.anc 2 rfl)
    · exact s0 rfl fun cx => run_pick_f rfl (cx.anc 2 rfl) (cx.sees.const _)
    · exact s0 rfl fun cx => run_assign' rfl (cx.anc 5 rfl)
  intro σ β X W17 hD hX hst17 fr hfr
  simp only [zM] at hst17
  simp only [zP, ed 18 (hD 0 lq), ed 19 (hD 1 lq), ed 20 (hD 2 lq), ed 21 (hD 3 lq), ed 22 (hD 4 lq), ed 23 (hD 5 lq), ed 4 (hD 6 lq)] at hfr
  clear hX hD; subst hfr; clear σ β X
  refine then_normal ?_
  refine wp_ret ?_
  refine then_ret ?_
  refine bodyPost_ret (v := .bool false) (by simp [results, Tryd.results77, go_sem]) rfl ?_
  exact Ret.bool (by first | (simp_all [beforeF]; done) | (simp_all [beforeF]; omega)) hst17.ext

set_option maxRecDepth 100000 in
set_option maxHeartbeats 1000000 in
theorem cage_any (a b : Int) (w : World) :
    Calls Tryd.prog 79 #[.int .i64 a, .int .i64 b] w (Ret (.int .i64 (ageF a b)) w) := by
  go_enter Tryd.func79, Tryd.ntmps79
  have hst0 := St.start w
  refine wp_seq ?_
  refine wp_region_X [0] [] [] [] (fun ix σ β X => match ix with | 0 => σ 4 = .int .i64 0 | _ => True) [] [4] hst0 ?_ ?_ ?_
  · exact fun ix _ _ _ _ _ _ hs hb hx h => match ix, h with
    | 0, h => (hs _ rfl).symm.trans h
    | _ + 1, _ => trivial
  · refine ⟨trivial, ?_⟩
    · exact s0 rfl fun cx => run_assign' rfl (cx.sees.const _)
  intro σ β X W1 hD hX hst1 fr hfr
  simp only [zM] at hst1
  simp only [zP, ed 4 (hD 0 lq)] at hfr
  clear hX hD; subst hfr; clear σ β X
  refine then_normal ?_
  refine wp_seq ?_
  refine wp_seq ?_
  rcases Bool.eq_false_or_eq_true (onF a) with hs3 | hs3
  · skip
    refine wp_region_X [0, 1, 3, 7, 15, 31, 63, 127] [] [] [] (fun ix σ β X => match ix with | 0 => σ 5 = .int .i64 a | 1 => σ 6 = .bool (onF a) | 2 => σ 7 = .bool false | 3 => σ 8 = .bool false | 4 => σ 9 = .int .i64 b | 5 => σ 10 = .bool (onF b) | 6 => σ 11 = .bool (!(onF b)) | 7 => σ 12 = .bool (!(onF b)) | _ => True) [] [5, 6, 7, 8, 9, 10, 11, 12] hst1 ?_ ?_ ?_
    · exact fun ix _ _ _ _ _ _ hs hb hx h => match ix, h with
      | 0, h | 1, h | 2, h | 3, h | 4, h | 5, h | 6, h | 7, h => (hs _ rfl).symm.trans h
      | _ + 8, _ => trivial
    · refine ⟨⟨⟨⟨⟨⟨⟨⟨trivial, ?_⟩, ?_⟩, ?_⟩, ?_⟩, ?_⟩, ?_⟩, ?_⟩, ?_⟩
      · exact mo rfl
      · exact sv_call rfl rfl rfl rfl rfl (fun _ _ _ h => h) fun ρ β W X cx => ⟨_, _, run_callF (args := #[.int .i64 a]) rfl cx.sees rfl (by kernel_rfl) (map1 (cx.anc 0 rfl)), con_any a _⟩
      · exact s0 rfl fun cx => run_not rfl (Eq.trans (cx.anc 1 rfl) (congrArg Value.bool hs3)) rfl
      · exact s0 rfl fun cx => run_move' rfl (cx.anc 2 rfl)
      · exact s1 rfl (fun cx => (cx.anc 3 rfl)) fun cx => run_move' rfl (cx.out 1 rfl)
      · exact sv_call_on rfl rfl rfl rfl rfl rfl (fun _ _ _ h => h) (fun _ _ _ _ cx => (cx.anc 3 rfl)) fun ρ β W X cx => ⟨_, _, run_callF (args := #[.int .i64 b]) rfl cx.sees rfl (by kernel_rfl) (map1 (cx.anc 4 rfl)), con_any b _⟩
      · exact s1 rfl (fun cx => (cx.anc 3 rfl)) fun cx => run_not rfl (cx.anc 5 rfl) rfl
      · exact s0 rfl fun cx => run_pick_f rfl (cx.anc 3 rfl) (cx.anc 6 rfl)
    intro σ β X W4 hD hX hst4 fr hfr
    simp only [zM] at hst4
    simp only [zP, ed 5 (hD 0 lq), ed 6 (hD 1 lq), ed 7 (hD 2 lq), ed 8 (hD 3 lq), ed 9 (hD 4 lq), ed 10 (hD 5 lq), ed 11 (hD 6 lq), ed 12 (hD 7 lq)] at hfr
    clear hX hD; subst hfr; clear σ β X
    refine then_normal ?_
    rcases Bool.eq_false_or_eq_true (onF b) with hs5 | hs5
    · skip
      refine wp_cond_false (show Act.eval _ _ = .bool false from (congrArg Value.bool (by rw [hs5]; rfl))) ?_
      refine wp_skip ?_
      refine then_normal ?_
      refine wp_seq ?_
      refine wp_region_X [0, 0, 3, 7] [] [] [] (fun ix σ β X => match ix with | 0 => σ 13 = .int .i64 a | 1 => σ 14 = .int .i64 b | 2 => σ 15 = .int .i64 (stepsF a b) | 3 => σ 4 = .int .i64 (stepsF a b) | _ => True) [] [13, 14, 15, 4] hst4 ?_ ?_ ?_
      · exact fun ix _ _ _ _ _ _ hs hb hx h => match ix, h with
        | 0, h | 1, h | 2, h | 3, h => (hs _ rfl).symm.trans h
        | _ + 4, _ => trivial
      · refine ⟨⟨⟨⟨trivial, ?_⟩, ?_⟩, ?_⟩, ?_⟩
        · exact mo rfl
        · exact mo rfl
        · exact sv_call rfl rfl rfl rfl rfl (fun _ _ _ h => h) fun ρ β W X cx => ⟨_, _, run_callF (args := #[.int .i64 a, .int .i64 b]) rfl cx.sees rfl (by kernel_rfl) (map2 (cx.anc 0 rfl) (cx.anc 1 rfl)), csteps_any a b _ (by assumption) (by assumption)⟩
        · exact s0 rfl fun cx => run_assign' rfl (cx.anc 2 rfl)
      intro σ β X W6 hD hX hst6 fr hfr
      simp only [zM] at hst6
      simp only [zP, ed 13 (hD 0 lq), ed 14 (hD 1 lq), ed 15 (hD 2 lq), ed 4 (hD 3 lq)] at hfr
      clear hX hD; subst hfr; clear σ β X
      refine then_normal ?_
      refine wp_ret ?_
      refine bodyPost_ret (v := .int .i64 (stepsF a b)) (by simp [results, Tryd.results79, go_sem]) rfl ?_
      exact Ret.int (by simp_all [ageF]) hst6.ext
    refine wp_cond_true (show Act.eval _ _ = .bool true from (congrArg Value.bool (by rw [hs5]; rfl))) ?_
    refine wp_seq ?_
    refine wp_region_X [0] [] [] [] (fun ix σ β X => match ix with | 0 => σ 4 = .int .i64 0 | _ => True) [] [4] hst4 ?_ ?_ ?_
    · exact fun ix _ _ _ _ _ _ hs hb hx h => match ix, h with
      | 0, h => (hs _ rfl).symm.trans h
      | _ + 1, _ => trivial
    · refine ⟨trivial, ?_⟩
      · exact s0 rfl fun cx => run_assign' rfl (cx.sees.const _)
    intro σ β X W7 hD hX hst7 fr hfr
    simp only [zM] at hst7
    simp only [zP, ed 4 (hD 0 lq)] at hfr
    clear hX hD; subst hfr; clear σ β X
    refine then_normal ?_
    refine wp_ret ?_
    refine then_ret ?_
    refine bodyPost_ret (v := .int .i64 0) (by simp [results, Tryd.results79, go_sem]) rfl ?_
    exact Ret.int (by simp_all [ageF]) hst7.ext
  refine wp_region_X [0, 1, 3, 7, 15, 31, 63, 127] [] [] [] (fun ix σ β X => match ix with | 0 => σ 5 = .int .i64 a | 1 => σ 6 = .bool (onF a) | 2 => σ 7 = .bool true | 3 => σ 8 = .bool true | 4 => σ 9 = undef | 5 => σ 10 = undef | 6 => σ 11 = undef | 7 => σ 12 = .bool true | _ => True) [] [5, 6, 7, 8, 9, 10, 11, 12] hst1 ?_ ?_ ?_
  · exact fun ix _ _ _ _ _ _ hs hb hx h => match ix, h with
    | 0, h | 1, h | 2, h | 3, h | 4, h | 5, h | 6, h | 7, h => (hs _ rfl).symm.trans h
    | _ + 8, _ => trivial
  · refine ⟨⟨⟨⟨⟨⟨⟨⟨trivial, ?_⟩, ?_⟩, ?_⟩, ?_⟩, ?_⟩, ?_⟩, ?_⟩, ?_⟩
    · exact mo rfl
    · exact sv_call rfl rfl rfl rfl rfl (fun _ _ _ h => h) fun ρ β W X cx => ⟨_, _, run_callF (args := #[.int .i64 a]) rfl cx.sees rfl (by kernel_rfl) (map1 (cx.anc 0 rfl)), con_any a _⟩
    · exact s0 rfl fun cx => run_not rfl (Eq.trans (cx.anc 1 rfl) (congrArg Value.bool hs3)) rfl
    · exact s0 rfl fun cx => run_move' rfl (cx.anc 2 rfl)
    · exact s2 rfl fun cx => (cx.anc 3 rfl)
    · exact s2 rfl fun cx => (cx.anc 3 rfl)
    · exact s2 rfl fun cx => (cx.anc 3 rfl)
    · exact s0 rfl fun cx => run_pick_t rfl (cx.anc 3 rfl) (cx.sees.const _)
  intro σ β X W8 hD hX hst8 fr hfr
  simp only [zM] at hst8
  simp only [zP, ed 5 (hD 0 lq), ed 6 (hD 1 lq), ed 7 (hD 2 lq), ed 8 (hD 3 lq), ed 9 (hD 4 lq), ed 10 (hD 5 lq), ed 11 (hD 6 lq), ed 12 (hD 7 lq)] at hfr
  clear hX hD; subst hfr; clear σ β X
  refine then_normal ?_
  refine wp_cond_true (show Act.eval _ _ = .bool true from rfl) ?_
  refine wp_seq ?_
  refine wp_region_X [0] [] [] [] (fun ix σ β X => match ix with | 0 => σ 4 = .int .i64 0 | _ => True) [] [4] hst8 ?_ ?_ ?_
  · exact fun ix _ _ _ _ _ _ hs hb hx h => match ix, h with
    | 0, h => (hs _ rfl).symm.trans h
    | _ + 1, _ => trivial
  · refine ⟨trivial, ?_⟩
    · exact s0 rfl fun cx => run_assign' rfl (cx.sees.const _)
  intro σ β X W9 hD hX hst9 fr hfr
  simp only [zM] at hst9
  simp only [zP, ed 4 (hD 0 lq)] at hfr
  clear hX hD; subst hfr; clear σ β X
  refine then_normal ?_
  refine wp_ret ?_
  refine then_ret ?_
  refine bodyPost_ret (v := .int .i64 0) (by simp [results, Tryd.results79, go_sem]) rfl ?_
  exact Ret.int (by simp_all [ageF]) hst9.ext

set_option maxRecDepth 100000 in
set_option maxHeartbeats 1000000 in
theorem iindex_any (A : Option Addr) (c : Nat) (ls : List Int) (x : Int) (w : World) (hA : At w A (ls.map (Value.int .i64))) (hl : ls.length ≤ 100000) :
    Calls Tryd.prog 116 #[.slice A ls.length c, .int .i64 x] w (Ret (.int .i64 (idxG x ls 0)) w) := by
  go_enter Tryd.func116, Tryd.ntmps116
  have hst0 := St.start w
  refine wp_seq ?_
  refine wp_region_X [0] [] [] [] (fun ix σ β X => match ix with | 0 => σ 4 = .int .i64 0 | _ => True) [] [4] hst0 ?_ ?_ ?_
  · exact fun ix _ _ _ _ _ _ hs hb hx h => match ix, h with
    | 0, h => (hs _ rfl).symm.trans h
    | _ + 1, _ => trivial
  · refine ⟨trivial, ?_⟩
    · exact s0 rfl fun cx => run_assign' rfl (cx.sees.const _)
  intro σ β X W1 hD hX hst1 fr hfr
  simp only [zM] at hst1
  simp only [zP, ed 4 (hD 0 lq)] at hfr
  clear hX hD; subst hfr; clear σ β X
  refine then_normal ?_
  refine wp_seq ?_
  refine wp_seq ?_
  refine wp_region_X [0, 1, 0] [] [] [] (fun ix σ β X => match ix with | 0 => σ 6 = .slice A ls.length c | 1 => σ 7 = .int .i64 ((ls.length : Int)) | 2 => σ 8 = .int .i64 0 | _ => True) [] [6, 7, 8] hst1 ?_ ?_ ?_
  · exact fun ix _ _ _ _ _ _ hs hb hx h => match ix, h with
    | 0, h | 1, h | 2, h => (hs _ rfl).symm.trans h
    | _ + 3, _ => trivial
  · refine ⟨⟨⟨trivial, ?_⟩, ?_⟩, ?_⟩
    · exact mo rfl
    · exact s0 rfl fun cx => run_len_l (e := 3) rfl (by kernel_rfl) (cx.anc 0 rfl)
    · exact s0 rfl fun cx => run_move' rfl (cx.sees.const _)
  intro σ β X W2 hD hX hst2 fr hfr
  simp only [zM] at hst2
  simp only [zP, ed 6 (hD 0 lq), ed 7 (hD 1 lq), ed 8 (hD 2 lq)] at hfr
  clear hX hD; subst hfr; clear σ β X
  refine then_normal ?_
  refine wp_block ?_
  refine wp_loopN (fun mz az W => ∃ k : Nat, ∃ u3_ : List Value, k ≤ ls.length ∧ idxG x ls 0 = idxG x (ls.drop k) k ∧ mz = ls.length - k ∧ az = ⟨#[.slice A ls.length c, .int .i64 x, undef, undef, (u3_.getD 0 undef), (u3_.getD 1 undef), .slice A ls.length c, .int .i64 ((ls.length : Int)), .int .i64 ((k : Int)), (u3_.getD 2 undef), (u3_.getD 3 undef), (u3_.getD 4 undef), (u3_.getD 5 undef), (u3_.getD 6 undef), (u3_.getD 7 undef), (u3_.getD 8 undef), (u3_.getD 9 undef), (u3_.getD 10 undef), (u3_.getD 11 undef)], []⟩ ∧ St w [] [] W) (ls.length - 0) ?_ ?_
  · -- the loop begins
    have hp4 := hst2.pick [] (by decide) rfl
    exact ⟨0, [.int .i64 0, undef, undef, undef, undef, undef, undef, undef, undef, undef, undef, undef], Nat.zero_le _, rfl, rfl, rfl, hp4⟩
  rintro n3 a3 W3 ⟨k, u3_, hk, hI, rfl, rfl, hst3⟩
  refine wp_seq ?_
  refine wp_region_X [0] [] [] [] (fun ix σ β X => match ix with | 0 => σ 9 = .bool (decide ((k : Int) < (ls.length : Int))) | _ => True) [] [9] hst3 ?_ ?_ ?_
  · exact fun ix _ _ _ _ _ _ hs hb hx h => match ix, h with
    | 0, h => (hs _ rfl).symm.trans h
    | _ + 1, _ => trivial
  · refine ⟨trivial, ?_⟩
    · exact s0 rfl fun cx => run_bin rfl (cx.out 8 rfl) (cx.out 7 rfl) rfl
  intro σ β X W5 hD hX hst5 fr hfr
  simp only [zM] at hst5
  simp only [zP, ed 9 (hD 0 lq)] at hfr
  clear hX hD; subst hfr; clear σ β X
  refine then_normal ?_
  refine wp_seq ?_
  rcases Bool.eq_false_or_eq_true (decide ((k : Int) < (ls.length : Int))) with hs6 | hs6
  · skip
    have hs6p : (k : Int) < (ls.length : Int) := by simpa using hs6
    refine wp_cond_true (show Act.eval _ _ = .bool true from (congrArg Value.bool hs6)) ?_
    refine wp_skip ?_
    refine then_normal ?_
    refine wp_seq ?_
    refine wp_block ?_
    refine wp_seq ?_
    refine wp_region_X [0, 1] [] [] [] (fun ix σ β X => match ix with | 0 => σ 10 = .int .i64 ((k : Int)) | 1 => σ 5 = .int .i64 ((k : Int)) | _ => True) [] [10, 5] hst5 ?_ ?_ ?_
    · exact fun ix _ _ _ _ _ _ hs hb hx h => match ix, h with
      | 0, h | 1, h => (hs _ rfl).symm.trans h
      | _ + 2, _ => trivial
    · refine ⟨⟨trivial, ?_⟩, ?_⟩
      · exact mo rfl
      · exact s0 rfl fun cx => run_assign' rfl (cx.anc 0 rfl)
    intro σ β X W7 hD hX hst7 fr hfr
    simp only [zM] at hst7
    simp only [zP, ed 10 (hD 0 lq), ed 5 (hD 1 lq)] at hfr
    clear hX hD; subst hfr; clear σ β X
    refine then_normal ?_
    refine wp_seq ?_
    refine wp_region_X [0, 0, 0, 6, 14, 31] [] [] [] (fun ix σ β X => match ix with | 0 => σ 11 = .int .i64 x | 1 => σ 12 = .slice A ls.length c | 2 => σ 13 = .int .i64 ((k : Int)) | 3 => σ 14 = .pointer (some ((ad A).add k)) | 4 => σ 15 = .int .i64 (ls.getD k 0) | 5 => σ 16 = .bool (x == (ls.getD k 0)) | _ => True) [] [11, 12, 13, 14, 15, 16] hst7 ?_ ?_ ?_
    · exact fun ix _ _ _ _ _ _ hs hb hx h => match ix, h with
      | 0, h | 1, h | 2, h | 3, h | 4, h | 5, h => (hs _ rfl).symm.trans h
      | _ + 6, _ => trivial
    · refine ⟨⟨⟨⟨⟨⟨trivial, ?_⟩, ?_⟩, ?_⟩, ?_⟩, ?_⟩, ?_⟩
      · exact mo rfl
      · exact mo rfl
      · exact mo rfl
      · exact s4 rfl (fun _ _ _ h => h) fun cx => run_indexSl (e := 3) (m := k) rfl (by kernel_rfl) (by kernel_rfl) (cx.anc 1 rfl) (cx.anc 2 rfl) (by omega) (by omega) (hA.ext cx.upd.to_ext) (by simp)
      · exact s4 rfl (fun _ _ _ h => h) fun cx => run_load1 rfl (by kernel_rfl) (cx.anc 3 rfl) (At.cellAd (hA.ext cx.upd.to_ext) (getD_int (by omega)))
      · exact s0 rfl fun cx => run_bin rfl (cx.anc 0 rfl) (cx.anc 4 rfl) rfl
    intro σ β X W8 hD hX hst8 fr hfr
    simp only [zM] at hst8
    simp only [zP, ed 11 (hD 0 lq), ed 12 (hD 1 lq), ed 13 (hD 2 lq), ed 14 (hD 3 lq), ed 15 (hD 4 lq), ed 16 (hD 5 lq)] at hfr
    clear hX hD; subst hfr; clear σ β X
    refine then_normal ?_
    rcases Bool.eq_false_or_eq_true (x == (ls.getD k 0)) with hs9 | hs9
    · skip
      have hs9p : x = (ls.getD k 0) := by simpa using hs9
      refine wp_cond_true (show Act.eval _ _ = .bool true from (congrArg Value.bool hs9)) ?_
      refine wp_seq ?_
      refine wp_region_X [0, 1] [] [] [] (fun ix σ β X => match ix with | 0 => σ 17 = .int .i64 ((k : Int)) | 1 => σ 4 = .int .i64 ((k : Int)) | _ => True) [] [17, 4] hst8 ?_ ?_ ?_
      · exact fun ix _ _ _ _ _ _ hs hb hx h => match ix, h with
        | 0, h | 1, h => (hs _ rfl).symm.trans h
        | _ + 2, _ => trivial
      · refine ⟨⟨trivial, ?_⟩, ?_⟩
        · exact mo rfl
        · exact s0 rfl fun cx => run_assign' rfl (cx.anc 0 rfl)
      intro σ β X W10 hD hX hst10 fr hfr
      simp only [zM] at hst10
      simp only [zP, ed 17 (hD 0 lq), ed 4 (hD 1 lq)] at hfr
      clear hX hD; subst hfr; clear σ β X
      refine then_normal ?_
      refine wp_ret ?_
      refine blk_ret ?_
      refine then_ret ?_
      refine then_ret ?_
      refine blk_ret ?_
      refine then_ret ?_
      refine bodyPost_ret (v := .int .i64 ((k : Int))) (by simp [results, Tryd.results116, go_sem]) rfl ?_
      exact Ret.int (by rw [hI, idxG_drop x ls k (by omega), if_pos (by assumption)]) hst10.ext
    have hs9p : x ≠ (ls.getD k 0) := by simpa using hs9
    refine wp_cond_false (show Act.eval _ _ = .bool false from (congrArg Value.bool hs9)) ?_
    refine wp_skip ?_
    refine blk_normal ?_
    refine then_normal ?_
    refine wp_region_X [0, 1] [] [] [] (fun ix σ β X => match ix with | 0 => σ 18 = .int .i64 ((k : Int) + 1) | 1 => σ 8 = .int .i64 ((k : Int) + 1) | _ => True) [] [18, 8] hst8 ?_ ?_ ?_
    · exact fun ix _ _ _ _ _ _ hs hb hx h => match ix, h with
      | 0, h | 1, h => (hs _ rfl).symm.trans h
      | _ + 2, _ => trivial
    · refine ⟨⟨trivial, ?_⟩, ?_⟩
      · exact s4 rfl (fun _ _ _ h => h) fun cx => run_bin rfl (cx.out 8 rfl) (cx.sees.const _) (congrArg (fun z => some (Value.int .i64 z)) ((IntWalk.i64_in _ (by omega)).trans (by omega)))
      · exact s0 rfl fun cx => run_move' rfl (cx.anc 0 rfl)
    intro σ β X W11 hD hX hst11 fr hfr
    simp only [zM] at hst11
    simp only [zP, ed 18 (hD 0 lq), ed 8 (hD 1 lq)] at hfr
    clear hX hD; subst hfr; clear σ β X
    refine then_normal ?_
    refine ⟨ls.length - ((k + 1)), by omega, ?_⟩
    have hp12 := hst11.pick [] (by decide) rfl
    exact ⟨(k + 1), [(u3_.getD 0 undef), .int .i64 ((k : Int)), .bool (decide ((k : Int) < (ls.length : Int))), .int .i64 ((k : Int)), .int .i64 x, .slice A ls.length c, .int .i64 ((k : Int)), .pointer (some ((ad A).add k)), .int .i64 (ls.getD k 0), .bool (x == (ls.getD k 0)), (u3_.getD 10 undef), .int .i64 ((k : Int) + 1)], by omega, by rw [hI, idxG_drop x ls k (by omega), if_neg (by assumption)], rfl, rfl, hp12⟩
  have hs6p : ¬ ((k : Int) < (ls.length : Int)) := by simpa using hs6
  refine wp_cond_false (show Act.eval _ _ = .bool false from (congrArg Value.bool hs6)) ?_
  refine wp_exit ?_
  refine then_exit ?_
  refine then_exit ?_
  refine blk_eq ?_
  refine then_normal ?_
  refine wp_seq ?_
  refine wp_region_X [0] [] [] [] (fun ix σ β X => match ix with | 0 => σ 4 = .int .i64 (-1) | _ => True) [] [4] hst5 ?_ ?_ ?_
  · exact fun ix _ _ _ _ _ _ hs hb hx h => match ix, h with
    | 0, h => (hs _ rfl).symm.trans h
    | _ + 1, _ => trivial
  · refine ⟨trivial, ?_⟩
    · exact s0 rfl fun cx => run_assign' rfl (cx.sees.const _)
  intro σ β X W13 hD hX hst13 fr hfr
  simp only [zM] at hst13
  simp only [zP, ed 4 (hD 0 lq)] at hfr
  clear hX hD; subst hfr; clear σ β X
  refine then_normal ?_
  refine wp_ret ?_
  refine bodyPost_ret (v := .int .i64 (-1)) (by simp [results, Tryd.results116, go_sem]) rfl ?_
  exact Ret.int (by rw [hI, List.drop_of_length_le (by omega)]; rfl) hst13.ext

set_option maxRecDepth 100000 in
set_option maxHeartbeats 1000000 in
theorem icontains_any (A : Option Addr) (c : Nat) (ls : List Int) (x : Int) (w : World) (hA : At w A (ls.map (Value.int .i64))) (hl : ls.length ≤ 100000) :
    Calls Tryd.prog 74 #[.slice A ls.length c, .int .i64 x] w (Ret (.bool (ls.contains x)) w) := by
  go_enter Tryd.func74, Tryd.ntmps74
  have hst0 := St.start w
  refine wp_seq ?_
  refine wp_region_X [0] [] [] [] (fun ix σ β X => match ix with | 0 => σ 4 = .bool false | _ => True) [] [4] hst0 ?_ ?_ ?_
  · exact fun ix _ _ _ _ _ _ hs hb hx h => match ix, h with
    | 0, h => (hs _ rfl).symm.trans h
    | _ + 1, _ => trivial
  · refine ⟨trivial, ?_⟩
    · exact s0 rfl fun cx => run_assign' rfl (cx.sees.const _)
  intro σ β X W1 hD hX hst1 fr hfr
  simp only [zM] at hst1
  simp only [zP, ed 4 (hD 0 lq)] at hfr
  clear hX hD; subst hfr; clear σ β X
  refine then_normal ?_
  refine wp_seq ?_
  refine wp_region_X [0, 0, 3, 7, 15] [] [] [] (fun ix σ β X => match ix with | 0 => σ 5 = .slice A ls.length c | 1 => σ 6 = .int .i64 x | 2 => σ 7 = .int .i64 (idxG x ls 0) | 3 => σ 8 = .bool (decide (0 ≤ idxG x ls 0)) | 4 => σ 4 = .bool (decide (0 ≤ idxG x ls 0)) | _ => True) [] [5, 6, 7, 8, 4] hst1 ?_ ?_ ?_
  · exact fun ix _ _ _ _ _ _ hs hb hx h => match ix, h with
    | 0, h | 1, h | 2, h | 3, h | 4, h => (hs _ rfl).symm.trans h
    | _ + 5, _ => trivial
  · refine ⟨⟨⟨⟨⟨trivial, ?_⟩, ?_⟩, ?_⟩, ?_⟩, ?_⟩
    · exact mo rfl
    · exact mo rfl
    · exact sv_call rfl rfl rfl rfl rfl (fun _ _ _ h => h) fun ρ β W X cx => ⟨_, _, run_callF (args := #[.slice A ls.length c, .int .i64 x]) rfl cx.sees rfl (by kernel_rfl) (map2 (cx.anc 0 rfl) (cx.anc 1 rfl)), iindex_any _ _ ls x _ (hA.ext cx.upd.to_ext) (by assumption)⟩
    · exact s0 rfl fun cx => run_bin rfl (cx.anc 2 rfl) (cx.sees.const _) rfl
    · exact s0 rfl fun cx => run_assign' rfl (cx.anc 3 rfl)
  intro σ β X W2 hD hX hst2 fr hfr
  simp only [zM] at hst2
  simp only [zP, ed 5 (hD 0 lq), ed 6 (hD 1 lq), ed 7 (hD 2 lq), ed 8 (hD 3 lq), ed 4 (hD 4 lq)] at hfr
  clear hX hD; subst hfr; clear σ β X
  refine then_normal ?_
  refine wp_ret ?_
  refine bodyPost_ret (v := .bool (decide (0 ≤ idxG x ls 0))) (by simp [results, Tryd.results74, go_sem]) rfl ?_
  exact Ret.bool (idxG_contains x ls 0 (Int.le_refl 0)) hst2.ext

end Go.Proofs.YtfjpglohcppjeaaDoor

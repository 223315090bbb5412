/- few. -/
import Derived.Test.YtfjpglohcppjeaaDoorT9b
import Derived.Test.YtfjpglohcppjeaaDoorT3
namespace Go.Proofs.YtfjpglohcppjeaaDoor
open Go.RowKit
set_option linter.unusedVariables false
set_option linter.unusedSimpArgs false

def cutV (v : Val) : Val := (v.1, v.2.1, v.2.2.extract 0 (min v.2.2.size 60))
def fewK (rs : List Val) (k : Nat) : List Val := (rs.take k).map cutV
abbrev fewF (rs : List Val) : List Val := fewK rs 8
theorem fewK_len (rs : List Val) (k : Nat) (h : k ≤ rs.length) : (fewK rs k).length = k := by simp [fewK, h]
theorem fewK_snoc {rs : List Val} {k : Nat} (h : k < rs.length) : flatR (fewK rs k) ++ flatR [cutV (rs.getD k v0)] = flatR (fewK rs (k + 1)) := by
  rw [fewK, fewK, List.take_add_one, List.getElem?_eq_getElem h, List.getD_eq_getElem?_getD, List.getElem?_eq_getElem h, List.map_append, flatR, flatR, flatR, List.flatMap_append]; rfl
theorem flatR_one (rs : List Val) : ∀ u ∈ flatR rs, u.oneCell' = true := by
  intro u hu
  obtain ⟨v, _, hv⟩ := List.mem_flatMap.1 hu
  simp only [cellsV, List.mem_cons, List.not_mem_nil, or_false] at hv
  rcases hv with rfl | rfl | rfl <;> rfl
theorem fewK_end {rs : List Val} {k : Nat} (h : k ≤ rs.length) (h8 : k ≤ 8) (he : rs.length ≤ k ∨ 8 ≤ k) : fewK rs k = fewF rs := by
  rcases he with he | he
  · rw [fewK, fewF, fewK, List.take_of_length_le he, List.take_of_length_le (by omega)]
  · rw [show k = 8 by omega]
theorem few_len8 (rs : List Val) : (fewF rs).length ≤ 8 := by simp [fewF, fewK]; omega
def FewPost (a b n1 n2 : Int) (ho : Bool) (rs : List Val) (w : World) (e : Ending) (w' : World) : Prop := ∃ A c, e = .returned (.agg #[.int .i64 a, .int .i64 b, .int .i64 n1, .int .i64 n2, .bool ho, .slice A (fewF rs).length c]) ∧
  w'.ownsRow w.heap.size 103 3 (.slice A (fewF rs).length c) (fewF rs).length (flatR (fewF rs)) ∧ Ext w w'
set_option maxRecDepth 100000 in
set_option maxHeartbeats 4000000 in
theorem few_any (a b n1 n2 : Int) (ho : Bool) (RA : Option Addr) (rc : Nat) (rs : List Val) (w : World) (hA : At w RA (flatR rs)) (hlr : rs.length ≤ 9223372036854775807) :
    Calls Tryd.prog 13 #[.agg #[.int .i64 a, .int .i64 b, .int .i64 n1, .int .i64 n2, .bool ho, .slice RA rs.length rc]] w (FewPost a b n1 n2 ho rs w) := by
  go_enter Tryd.func13, Tryd.ntmps13
  have hst0 := St.start w
  refine wp_seq ?_
  refine wp_region_T [0, 0] [] [[0], [1]] [] [.a 1, .a 2] (fun ix σ β X => match ix with | 0 => σ 1 = .pointer (some ⟨(pb (β 1)), 0, none⟩) ∧ X 0 = eB (pb (β 1)) 27 #[.int .i64 a, .int .i64 b, .int .i64 n1, .int .i64 n2, .bool ho, .slice RA rs.length rc] | 1 => σ 2 = .pointer (some ⟨(pb (β 2)), 0, none⟩) ∧ X 1 = eB (pb (β 2)) 27 #[.int .i64 0, .int .i64 0, .int .i64 0, .int .i64 0, .bool false, .slice none 0 0] | _ => True) [0, 1] [0, 1] [(1, 0, 2, 3)] hst0 ?_ ?_ ?_
  · exact fun ix _ _ _ _ _ _ hs hb hx h => match ix, h with
    | 0, h => by dsimp only at h ⊢; rw [← hs 1 rfl, ← hb 1 rfl, ← hx 0 rfl]; exact h
    | 1, h => by dsimp only at h ⊢; rw [← hs 2 rfl, ← hb 2 rfl, ← hx 1 rfl]; exact h
    | _ + 2, _ => trivial
  · refine ⟨?_, ?_, trivial⟩
    · refine sv_any rfl rfl fun ρ β W X cx => ?_
      exact dv_box (cs := #[.int .i64 a, .int .i64 b, .int .i64 n1, .int .i64 n2, .bool ho, .slice RA rs.length rc]) rfl (cx.out 0 rfl) rfl rfl rfl (fun σ β' X' hs hb hv hx => ⟨hv, hx⟩)
    · refine sv_any rfl rfl fun ρ β W X cx => ?_
      exact dv_alloc (cs := #[.int .i64 0, .int .i64 0, .int .i64 0, .int .i64 0, .bool false, .slice none 0 0]) rfl (by kernel_rfl) rfl rfl (fun σ β' X' hs hb hv hx => ⟨hv, hx⟩)
  intro σ β X W1 hD hX hst1 fr hfr
  obtain ⟨B1_1, hu_B1_1⟩ : ∃ z, pb (β 1) = z := ⟨_, rfl⟩
  obtain ⟨B2_1, hu_B2_1⟩ : ∃ z, pb (β 2) = z := ⟨_, rfl⟩
  simp only [zM, exq 0 ((dTn (hD 0 lq)).2), exq 1 ((dTn (hD 1 lq)).2), hu_B1_1, hu_B2_1] at hst1
  dsimp only [mgT, vals, List.take, List.drop, List.cons_append, List.nil_append] at hfr
  simp only [ed 1 ((dTn (hD 0 lq)).1), ed 2 ((dTn (hD 1 lq)).1), hu_B1_1, hu_B2_1] at hfr
  clear hX hD hu_B1_1 hu_B2_1; subst hfr; clear σ β X
  refine then_normal ?_
  refine wp_seq ?_
  refine wp_region_T [0, 1] [] [[2]] [] [.a 6, .a 3] (fun ix σ β X => match ix with | 0 => σ 6 = .slice ((some ⟨(pb' (β 6)), 0, none⟩)) 0 0 ∧ X 2 = eO 103 3 (.slice ((some ⟨(pb' (β 6)), 0, none⟩)) 0 0) 0 (flatR (fewK rs 0)) | 1 => σ 3 = .slice ((some ⟨(pb' (β 6)), 0, none⟩)) 0 0 | _ => True) [0, 1, 2] [0, 1] [(3, 1, 1, 4), (2, 0, 1, 3)] hst1 ?_ ?_ ?_
  · exact fun ix _ _ _ _ _ _ hs hb hx h => match ix, h with
    | 0, h => by dsimp only at h ⊢; rw [← hs 6 rfl, ← hb 6 rfl, ← hx 2 rfl]; exact h
    | 1, h => by dsimp only at h ⊢; rw [← hs 3 rfl, ← hb 6 rfl]; exact h
    | _ + 2, _ => trivial
  · refine ⟨?_, ?_, trivial⟩
    · refine sv_any rfl rfl fun ρ β W X cx => ?_
      exact dv_litN (e := 103) (sz := 3) (xs := []) rfl (by simp [go_sem]) rfl (by decide) rfl rfl (fun σ β' X' hs hb hv hx => ⟨hv, hx⟩)
    · exact sv rfl rfl rfl rfl rfl _ (fun _ _ _ h => h) (fun β β' h => by rw [h 6 (by decide)]) fun ρ β W X cx => run_assign' rfl (dTn (cx.anc 0 rfl)).1
  intro σ β X W2 hD hX hst2 fr hfr
  obtain ⟨B6_2, hu_B6_2⟩ : ∃ z, pb' (β 6) = z := ⟨_, rfl⟩
  simp only [zM, exq 0 (hX 0 _ rfl), exq 1 (hX 1 _ rfl), exq 2 ((dTn (hD 0 lq)).2), hu_B6_2] at hst2
  dsimp only [mgT, vals, List.take, List.drop, List.cons_append, List.nil_append] at hfr
  simp only [ed 6 ((dTn (hD 0 lq)).1), ed 3 ((dTn (hD 1 lq))), hu_B6_2] at hfr
  clear hX hD hu_B6_2; subst hfr; clear σ β X
  refine then_normal ?_
  refine wp_seq ?_
  refine wp_seq ?_
  refine wp_region_P [0] [.k 4 (.int .i64 0)] [(4, 0, 1, 5)] hst2 fun W3 hst3 => ?_
  refine then_normal ?_
  refine wp_block ?_
  refine wp_loopN (fun mz az W => ∃ k : Nat, ∃ RB : Option Addr, ∃ RC : Nat, ∃ u4_ : List Value, k ≤ rs.length ∧ k ≤ 8 ∧ mz = rs.length - k ∧ az = ⟨#[.agg #[.int .i64 a, .int .i64 b, .int .i64 n1, .int .i64 n2, .bool ho, .slice RA rs.length rc], .pointer (some ⟨B1_1, 0, none⟩), .pointer (some ⟨B2_1, 0, none⟩), .slice RB k RC, .int .i64 ((k : Int)), (u4_.getD 0 undef), .slice ((some ⟨B6_2, 0, none⟩)) 0 0, (u4_.getD 1 undef), (u4_.getD 2 undef), (u4_.getD 3 undef), (u4_.getD 4 undef), (u4_.getD 5 undef), (u4_.getD 6 undef), (u4_.getD 7 undef), (u4_.getD 8 undef), (u4_.getD 9 undef), (u4_.getD 10 undef), (u4_.getD 11 undef), (u4_.getD 12 undef), (u4_.getD 13 undef), (u4_.getD 14 undef), (u4_.getD 15 undef), (u4_.getD 16 undef), (u4_.getD 17 undef), (u4_.getD 18 undef), (u4_.getD 19 undef), (u4_.getD 20 undef), (u4_.getD 21 undef), (u4_.getD 22 undef), (u4_.getD 23 undef), (u4_.getD 24 undef), (u4_.getD 25 undef), (u4_.getD 26 undef), (u4_.getD 27 undef), (u4_.getD 28 undef), undef, undef, undef], []⟩ ∧ St w [] [eB B1_1 27 #[.int .i64 a, .int .i64 b, .int .i64 n1, .int .i64 n2, .bool ho, .slice RA rs.length rc], eB B2_1 27 #[.int .i64 0, .int .i64 0, .int .i64 0, .int .i64 0, .bool false, .slice none 0 0], eO 103 3 (.slice RB k RC) k (flatR (fewK rs k))] W) (rs.length - 0) ?_ ?_
  · -- the loop begins
    have hp5 := hst3.pick [0, 1, 2] (by decide) rfl
    exact ⟨0, (some ⟨B6_2, 0, none⟩), 0, [undef, undef, undef, undef, undef, undef, undef, undef, undef, undef, undef, undef, undef, undef, undef, undef, undef, undef, undef, undef, undef, undef, undef, undef, undef, undef, undef, undef, undef], by omega, by omega, rfl, rfl, hp5⟩
  rintro n4 a4 W4 ⟨k, RB, RC, u4_, hk, hk8, rfl, rfl, hst4⟩
  refine wp_seq ?_
  refine wp_seq ?_
  refine wp_region_T [0, 0, 2, 6, 15, 31, 63, 127, 255] [[], [], [0]] [] [] [.k 7 (.int .i64 ((k : Int))), .k 8 (.pointer (some ⟨B1_1, 5, none⟩)), .c 9 (.slice RA rs.length rc), .k 10 (.int .i64 ((rs.length : Int))), .k 11 (.bool (decide ((k : Int) < (rs.length : Int)))), .k 12 (.bool (decide ((k : Int) < (rs.length : Int)))), .z 13 (decide ((k : Int) < (rs.length : Int))) (.int .i64 ((k : Int))), .z 14 (decide ((k : Int) < (rs.length : Int))) (.bool (decide ((k : Int) < 8))), tA 15 (decide ((k : Int) < (rs.length : Int))) (decide ((k : Int) < 8))] (fun _ _ _ _ => True) [0, 1, 2] [2] [(7, 0, 9, 16)] hst4 ?_ ?_ ?_
  · exact fun _ _ _ _ _ _ _ _ _ _ h => h
  · refine ⟨?_, trivial⟩
    · exact s4 rfl (fun _ _ _ h => h) fun cx => run_load1 rfl (by kernel_rfl) (cx.anc 1 rfl) ((cx.blk (cx.init 0 _ rfl) rfl).cell 5)
  intro σ β X W6 hD hX hst6 fr hfr
  simp only [zM, exq 0 (hX 0 _ rfl), exq 1 (hX 1 _ rfl), exq 2 (hX 2 _ rfl)] at hst6
  dsimp only [mgT, vals, List.take, List.drop, List.cons_append, List.nil_append] at hfr
  clear hX hD; subst hfr; clear σ β X
  refine then_normal ?_
  rcases Bool.eq_false_or_eq_true ((decide ((k : Int) < (rs.length : Int))) && (decide ((k : Int) < 8))) with hs7 | hs7
  · skip
    have hs7p := hs7
    simp only [zB] at hs7p
    obtain ⟨hs7p1, hs7p2⟩ := hs7p
    refine wp_cond_true (show Act.eval _ _ = .bool true from (congrArg Value.bool hs7)) ?_
    refine wp_skip ?_
    refine then_normal ?_
    refine wp_seq ?_
    refine wp_block ?_
    refine wp_seq ?_
    refine wp_region_T [0, 1, 0, 7, 15, 0, 63] [[], [0], [], [], [], [], [3]] [[], [], [], [], [], [3], [4]] [[], [], [], [], [], [], [3]] [.k 18 (.pointer (some ⟨B1_1, 5, none⟩)), .c 19 (.slice RA rs.length rc), .k 20 (.int .i64 ((k : Int))), .c 21 (.pointer (some ((ad RA).add (k * 3)))), .c 22 (.agg #[.int .i64 ((rs.getD k v0).1), .int .i64 ((rs.getD k v0).2.1), .string ((rs.getD k v0).2.2)]), .a 5, .n] (fun ix σ β X => match ix with | 0 => True | 1 => True | 2 => True | 3 => True | 4 => True | 5 => σ 5 = .pointer (some ⟨(pb (β 5)), 0, none⟩) ∧ X 3 = eB (pb (β 5)) 103 #[.int .i64 0, .int .i64 0, .string ByteArray.empty] | 6 => X 4 = eB (pb (β 5)) 103 #[.int .i64 ((rs.getD k v0).1), .int .i64 ((rs.getD k v0).2.1), .string ((rs.getD k v0).2.2)] | _ => True) [0, 1, 2, 4] [1, 3, 4, 5, 6] [(5, 5, 1, 6), (12, 0, 5, 17)] hst6 ?_ ?_ ?_
    · exact fun ix _ _ _ _ _ _ hs hb hx h => match ix, h with
      | 5, h => by dsimp only at h ⊢; rw [← hs 5 rfl, ← hb 5 rfl, ← hx 3 rfl]; exact h
      | 6, h => by dsimp only at h ⊢; rw [← hb 5 rfl, ← hx 4 rfl]; exact h
      | 0, _ | 1, _ | 2, _ | 3, _ | 4, _ | _ + 7, _ => trivial
    · refine ⟨?_, ?_, ?_, ?_, ?_, trivial⟩
      · exact s4 rfl (fun _ _ _ h => h) fun cx => run_load1 rfl (by kernel_rfl) (cx.anc 0 rfl) ((cx.blk (cx.init 0 _ rfl) rfl).cell 5)
      · exact s4 rfl (fun _ _ _ h => h) fun cx => run_indexSlM (e := 103) (m := k) (sz := 3) rfl (by kernel_rfl) (by kernel_rfl) (cx.anc 1 rfl) (cx.anc 2 rfl) (by omega) (by omega) (hA.ext cx.upd.to_ext) (by have h_ := flatLen (f := cellsV) (sz := 3) cellsV_len rs; show 0 < (List.flatMap cellsV rs).length; omega)
      · exact s4 rfl (fun _ _ _ h => h) fun cx => run_loadElt (f := cellsV) (m := k) (sz := 3) (off := 0) (n := 3) rfl (by kernel_rfl) (by kernel_rfl) (cx.anc 3 rfl) rfl cellsV_len (hA.ext cx.upd.to_ext) (getD_some (ts := rs) (m := k) v0 (by omega)) (fun k hk => match k, hk with | 0, _ => rfl | 1, _ => rfl | 2, _ => rfl | k + 3, hk => absurd hk (by omega))
      · refine sv_any rfl rfl fun ρ β W X cx => ?_
        exact dv_alloc (cs := #[.int .i64 0, .int .i64 0, .string ByteArray.empty]) rfl (by kernel_rfl) rfl rfl (fun σ β' X' hs hb hv hx => ⟨hv, hx⟩)
      · refine sv_any rfl rfl fun ρ β W X cx => ?_
        exact dv_store (n := 3) rfl (dTn (cx.anc 5 rfl)).1 (cx.anc 4 rfl) (by kernel_rfl) (by kernel_rfl) (by kernel_rfl) cx (dTn (cx.anc 5 rfl)).2 rfl (Nat.le_of_ble_eq_true rfl) (by kernel_rfl) rfl rfl rfl (fun σ β' X' hs hb hx => by rw [hb 5]; exact hx)
    intro σ β X W8 hD hX hst8 fr hfr
    obtain ⟨B5_8, hu_B5_8⟩ : ∃ z, pb (β 5) = z := ⟨_, rfl⟩
    simp only [zM, exq 0 (hX 0 _ rfl), exq 1 (hX 1 _ rfl), exq 2 (hX 2 _ rfl), exq 4 ((dTn (hD 6 lq))), hu_B5_8] at hst8
    dsimp only [mgT, vals, List.take, List.drop, List.cons_append, List.nil_append] at hfr
    simp only [ed 5 ((dTn (hD 5 lq)).1), hu_B5_8] at hfr
    clear hX hD hu_B5_8; subst hfr; clear σ β X
    refine then_normal ?_
    refine wp_seq ?_
    refine wp_region_T [0, 1, 0, 4, 12, 28, 63, 127, 255] [[], [3], [], [3], [], [], [], [], [3]] [[], [], [], [], [], [], [], [], [4]] [[], [], [], [], [], [], [], [], [3]] [.k 23 (.pointer (some ⟨B5_8, 2, none⟩)), .c 24 (.string ((rs.getD k v0).2.2)), .k 25 (.pointer (some ⟨B5_8, 2, none⟩)), .c 26 (.string ((rs.getD k v0).2.2)), .k 27 (.int .i64 ((((rs.getD k v0).2.2).size : Int))), .c 28 (.int .i64 (((min (((rs.getD k v0).2.2).size) 60 : Nat) : Int))), .c 29 (.string (((rs.getD k v0).2.2).extract 0 (((min (((rs.getD k v0).2.2).size) 60 : Nat))))), .k 30 (.pointer (some ⟨B5_8, 2, none⟩)), .n] (fun ix σ β X => match ix with | 0 => True | 1 => True | 2 => True | 3 => True | 4 => True | 5 => True | 6 => True | 7 => True | 8 => X 4 = eB B5_8 103 #[.int .i64 ((rs.getD k v0).1), .int .i64 ((rs.getD k v0).2.1), .string (((rs.getD k v0).2.2).extract 0 (((min (((rs.getD k v0).2.2).size) 60 : Nat))))] | _ => True) [0, 1, 2, 4] [1, 3, 5, 6, 8] [(23, 0, 8, 31)] hst8 ?_ ?_ ?_
    · exact fun ix _ _ _ _ _ _ hs hb hx h => match ix, h with
      | 8, h => by dsimp only at h ⊢; rw [← hx 4 rfl]; exact h
      | 0, _ | 1, _ | 2, _ | 3, _ | 4, _ | 5, _ | 6, _ | 7, _ | _ + 9, _ => trivial
    · refine ⟨?_, ?_, ?_, ?_, ?_, trivial⟩
      · exact s4 rfl (fun _ _ _ h => h) fun cx => run_load1 rfl (by kernel_rfl) (cx.anc 0 rfl) ((cx.blk (cx.init 3 _ rfl) rfl).cell 2)
      · exact s4 rfl (fun _ _ _ h => h) fun cx => run_load1 rfl (by kernel_rfl) (cx.anc 2 rfl) ((cx.blk (cx.init 3 _ rfl) rfl).cell 2)
      · exact s4 rfl (fun _ _ _ h => h) fun cx => run_min2 rfl (cx.anc 4 rfl) (cx.sees.const _) (by omega)
      · exact s4 rfl (fun _ _ _ h => h) fun cx => run_slice_hi (l := ((min (((rs.getD k v0).2.2).size) 60 : Nat))) rfl (by kernel_rfl) (cx.anc 1 rfl) (cx.anc 5 rfl) (by omega) (by omega)
      · refine sv_any rfl rfl fun ρ β W X cx => ?_
        exact dv_store (n := 1) rfl (cx.anc 7 rfl) (cx.anc 6 rfl) (by kernel_rfl) (by kernel_rfl) (by kernel_rfl) cx (cx.init 3 _ rfl) rfl (Nat.le_of_ble_eq_true rfl) (by kernel_rfl) rfl rfl rfl (fun σ β' X' hs hb hx => hx)
    intro σ β X W9 hD hX hst9 fr hfr
    simp only [zM, exq 0 (hX 0 _ rfl), exq 1 (hX 1 _ rfl), exq 2 (hX 2 _ rfl), exq 4 ((dTn (hD 8 lq)))] at hst9
    dsimp only [mgT, vals, List.take, List.drop, List.cons_append, List.nil_append] at hfr
    clear hX hD; subst hfr; clear σ β X
    refine then_normal ?_
    refine wp_region_T [0, 0, 2, 7, 15] [[], [3], [], [4, 2]] [[], [], [4], [5]] [[], [], [], [2]] [.k 31 (.slice RB k RC), .c 32 (.agg #[.int .i64 ((rs.getD k v0).1), .int .i64 ((rs.getD k v0).2.1), .string (((rs.getD k v0).2.2).extract 0 (((min (((rs.getD k v0).2.2).size) 60 : Nat))))]), .a 33, .a 34, .a 3] (fun ix σ β X => match ix with | 0 => True | 1 => True | 2 => σ 33 = .slice ((some ⟨(pb' (β 33)), 0, none⟩)) 1 1 ∧ X 4 = eO 103 3 (.slice ((some ⟨(pb' (β 33)), 0, none⟩)) 1 1) 1 (flatR [cutV (rs.getD k v0)]) | 3 => σ 34 = .slice (sA (β 34)) (k + 1) (sC (β 34)) ∧ X 5 = eO 103 3 (.slice (sA (β 34)) (k + 1) (sC (β 34))) (k + 1) (flatR (fewK rs (k + 1))) | 4 => σ 3 = .slice (sA (β 34)) (k + 1) (sC (β 34)) | _ => True) [0, 1, 3, 4, 5] [1, 2, 3, 4] [(3, 4, 1, 4), (27, 0, 4, 31)] hst9 ?_ ?_ ?_
    · exact fun ix _ _ _ _ _ _ hs hb hx h => match ix, h with
      | 2, h => by dsimp only at h ⊢; rw [← hs 33 rfl, ← hb 33 rfl, ← hx 4 rfl]; exact h
      | 3, h => by dsimp only at h ⊢; rw [← hs 34 rfl, ← hb 34 rfl, ← hx 5 rfl]; exact h
      | 4, h => by dsimp only at h ⊢; rw [← hs 3 rfl, ← hb 34 rfl]; exact h
      | 0, _ | 1, _ | _ + 5, _ => trivial
    · refine ⟨?_, ?_, ?_, ?_, trivial⟩
      · exact s4 rfl (fun _ _ _ h => h) fun cx => run_loadB (n := 3) rfl (by kernel_rfl) (by kernel_rfl) (cx.out 5 rfl) (cx.blk (cx.init 3 _ rfl) rfl) (Nat.le_of_ble_eq_true rfl) rfl
      · refine sv_any rfl rfl fun ρ β W X cx => ?_
        have fF32 : ρ (.tmp 32) = .agg #[.int .i64 ((rs.getD k v0).1), .int .i64 ((rs.getD k v0).2.1), .string (((rs.getD k v0).2.2).extract 0 (((min (((rs.getD k v0).2.2).size) 60 : Nat))))] := (cx.anc 1 rfl)
        exact dv_litN (e := 103) (sz := 3) (xs := [.int .i64 ((rs.getD k v0).1), .int .i64 ((rs.getD k v0).2.1), .string (((rs.getD k v0).2.2).extract 0 (((min (((rs.getD k v0).2.2).size) 60 : Nat))))]) rfl (by simp [go_sem, fF32]) rfl (by decide) rfl rfl (fun σ β' X' hs hb hv hx => ⟨hv, hx⟩)
      · refine sv_any rfl rfl fun ρ β W X cx => ?_
        obtain ⟨i0, hi0, hz0, hz1, hz2⟩ := info_parts Tryd.infoVal
        refine dv_appendN (n := k) (m := 1) (nm := k + 1) (sz := 3) (xs := flatR (fewK rs k)) (news := flatR [cutV (rs.getD k v0)]) (xs' := flatR (fewK rs (k + 1))) rfl (ty := 25) rfl (by kernel_rfl) hi0 hz0 hz1 hz2 rfl (by decide) (cx.anc 0 rfl) cx (cx.init 2 _ rfl) rfl (dTn (cx.anc 2 rfl)).1 (by rfl) (At.of_ownN (cx.row (dTn (cx.anc 2 rfl)).2 rfl)) (flatR_one _) (by simp only [maxLen]; omega) (by omega) rfl rfl rfl (by omega) (fewK_snoc (by omega)) (fun σ β' X' hs hb hv hx => ?_)
        exact ⟨hv, hx⟩
      · exact sv rfl rfl rfl rfl rfl _ (fun _ _ _ h => h) (fun β β' h => by rw [h 34 (by decide)]) fun ρ β W X cx => run_assign' rfl (dTn (cx.anc 3 rfl)).1
    intro σ β X W10 hD hX hst10 fr hfr
    obtain ⟨B33_10, hu_B33_10⟩ : ∃ z, pb' (β 33) = z := ⟨_, rfl⟩
    obtain ⟨A34_10, hu_A34_10⟩ : ∃ z, sA (β 34) = z := ⟨_, rfl⟩
    obtain ⟨c34_10, hu_c34_10⟩ : ∃ z, sC (β 34) = z := ⟨_, rfl⟩
    simp only [zM, exq 0 (hX 0 _ rfl), exq 1 (hX 1 _ rfl), exq 3 (hX 3 _ rfl), exq 4 ((dTn (hD 2 lq)).2), exq 5 ((dTn (hD 3 lq)).2), hu_B33_10, hu_A34_10, hu_c34_10] at hst10
    dsimp only [mgT, vals, List.take, List.drop, List.cons_append, List.nil_append] at hfr
    simp only [ed 33 ((dTn (hD 2 lq)).1), ed 34 ((dTn (hD 3 lq)).1), ed 3 ((dTn (hD 4 lq))), hu_B33_10, hu_A34_10, hu_c34_10] at hfr
    clear hX hD hu_B33_10 hu_A34_10 hu_c34_10; subst hfr; clear σ β X
    refine blk_normal ?_
    refine then_normal ?_
    refine wp_region_P [0, 1, 3] [.k 16 (.int .i64 ((k : Int))), tI 17 ((k : Int) + 1) (by omega), .k 4 (.int .i64 ((k : Int) + 1))] [(4, 2, 1, 5), (11, 0, 2, 13)] hst10 fun W11 hst11 => ?_
    refine then_normal ?_
    refine ⟨rs.length - ((k + 1)), by omega, ?_⟩
    have hp12 := hst11.pick [0, 1, 4] (by decide) rfl
    exact ⟨(k + 1), A34_10, c34_10, [.pointer (some ⟨B5_8, 0, none⟩), .int .i64 ((k : Int)), .pointer (some ⟨B1_1, 5, none⟩), .slice RA rs.length rc, .int .i64 ((rs.length : Int)), .bool (decide ((k : Int) < (rs.length : Int))), .bool (decide ((k : Int) < (rs.length : Int))), mb (decide ((k : Int) < (rs.length : Int))) (.int .i64 ((k : Int))), mb (decide ((k : Int) < (rs.length : Int))) (.bool (decide ((k : Int) < 8))), .bool ((decide ((k : Int) < (rs.length : Int))) && (decide ((k : Int) < 8))), .int .i64 ((k : Int)), .int .i64 ((k : Int) + 1), .pointer (some ⟨B1_1, 5, none⟩), .slice RA rs.length rc, .int .i64 ((k : Int)), .pointer (some ((ad RA).add (k * 3))), .agg #[.int .i64 ((rs.getD k v0).1), .int .i64 ((rs.getD k v0).2.1), .string ((rs.getD k v0).2.2)], .pointer (some ⟨B5_8, 2, none⟩), .string ((rs.getD k v0).2.2), .pointer (some ⟨B5_8, 2, none⟩), .string ((rs.getD k v0).2.2), .int .i64 ((((rs.getD k v0).2.2).size : Int)), .int .i64 (((min (((rs.getD k v0).2.2).size) 60 : Nat) : Int)), .string (((rs.getD k v0).2.2).extract 0 (((min (((rs.getD k v0).2.2).size) 60 : Nat)))), .pointer (some ⟨B5_8, 2, none⟩), .slice RB k RC, .agg #[.int .i64 ((rs.getD k v0).1), .int .i64 ((rs.getD k v0).2.1), .string (((rs.getD k v0).2.2).extract 0 (((min (((rs.getD k v0).2.2).size) 60 : Nat))))], .slice ((some ⟨B33_10, 0, none⟩)) 1 1, .slice A34_10 (k + 1) c34_10], by omega, by omega, rfl, rfl, hp12⟩
  have hs7p := hs7
  simp only [zB] at hs7p
  refine wp_cond_false (show Act.eval _ _ = .bool false from (congrArg Value.bool hs7)) ?_
  refine wp_exit ?_
  refine then_exit ?_
  refine then_exit ?_
  refine blk_eq ?_
  refine then_normal ?_
  refine wp_seq ?_
  refine wp_region_T [0, 1, 3] [[], [], [0]] [[], [], [3]] [[], [], [0]] [.k 35 (.slice RB k RC), .k 36 (.pointer (some ⟨B1_1, 5, none⟩)), .n] (fun ix σ β X => match ix with | 0 => True | 1 => True | 2 => X 3 = eB B1_1 27 #[.int .i64 a, .int .i64 b, .int .i64 n1, .int .i64 n2, .bool ho, .slice RB k RC] | _ => True) [1, 2, 3] [2] [(35, 0, 2, 37)] hst6 ?_ ?_ ?_
  · exact fun ix _ _ _ _ _ _ hs hb hx h => match ix, h with
    | 2, h => by dsimp only at h ⊢; rw [← hx 3 rfl]; exact h
    | 0, _ | 1, _ | _ + 3, _ => trivial
  · refine ⟨?_, trivial⟩
    · refine sv_any rfl rfl fun ρ β W X cx => ?_
      exact dv_store (n := 1) rfl (cx.anc 1 rfl) (cx.anc 0 rfl) (by kernel_rfl) (by kernel_rfl) (by kernel_rfl) cx (cx.init 0 _ rfl) rfl (Nat.le_of_ble_eq_true rfl) (by kernel_rfl) rfl rfl rfl (fun σ β' X' hs hb hx => hx)
  intro σ β X W13 hD hX hst13 fr hfr
  simp only [zM, exq 1 (hX 1 _ rfl), exq 2 (hX 2 _ rfl), exq 3 ((dTn (hD 2 lq)))] at hst13
  dsimp only [mgT, vals, List.take, List.drop, List.cons_append, List.nil_append] at hfr
  clear hX hD; subst hfr; clear σ β X
  refine then_normal ?_
  refine wp_seq ?_
  refine wp_region_T [0, 1] [[2], [0]] [[], [3]] [[], [0]] [.c 37 (.agg #[.int .i64 a, .int .i64 b, .int .i64 n1, .int .i64 n2, .bool ho, .slice RB k RC]), .n] (fun ix σ β X => match ix with | 0 => True | 1 => X 3 = eB B2_1 27 #[.int .i64 a, .int .i64 b, .int .i64 n1, .int .i64 n2, .bool ho, .slice RB k RC] | _ => True) [1, 2, 3] [0, 1] [(37, 0, 1, 38)] hst13 ?_ ?_ ?_
  · exact fun ix _ _ _ _ _ _ hs hb hx h => match ix, h with
    | 1, h => by dsimp only at h ⊢; rw [← hx 3 rfl]; exact h
    | 0, _ | _ + 2, _ => trivial
  · refine ⟨?_, ?_, trivial⟩
    · exact s4 rfl (fun _ _ _ h => h) fun cx => run_loadB (n := 6) rfl (by kernel_rfl) (by kernel_rfl) (cx.out 1 rfl) (cx.blk (cx.init 2 _ rfl) rfl) (Nat.le_of_ble_eq_true rfl) rfl
    · refine sv_any rfl rfl fun ρ β W X cx => ?_
      exact dv_store (n := 6) rfl (cx.out 2 rfl) (cx.anc 0 rfl) (by kernel_rfl) (by kernel_rfl) (by kernel_rfl) cx (cx.init 0 _ rfl) rfl (Nat.le_of_ble_eq_true rfl) (by kernel_rfl) rfl rfl rfl (fun σ β' X' hs hb hx => hx)
  intro σ β X W14 hD hX hst14 fr hfr
  simp only [zM, exq 1 (hX 1 _ rfl), exq 2 (hX 2 _ rfl), exq 3 ((dTn (hD 1 lq)))] at hst14
  dsimp only [mgT, vals, List.take, List.drop, List.cons_append, List.nil_append] at hfr
  clear hX hD; subst hfr; clear σ β X
  refine then_normal ?_
  refine wp_ret ?_
  refine bodyPost_ret (v := .agg #[.int .i64 a, .int .i64 b, .int .i64 n1, .int .i64 n2, .bool ho, .slice RB k RC]) (results_cell (n := 6) Tryd.results13 rfl (by kernel_rfl) (by kernel_rfl) (hst14.blk 2 rfl) rfl) rfl ?_
  have hrw := fewK_end hk hk8 (by omega)
  have hrl : k = (fewF rs).length := by rw [← hrw, fewK_len rs k hk]
  exact ⟨_, _, by rw [← hrl], by have h := hst14.own' 0 rfl; rw [hrw] at h; rw [← hrl]; exact h, hst14.ext⟩

end Go.Proofs.YtfjpglohcppjeaaDoor

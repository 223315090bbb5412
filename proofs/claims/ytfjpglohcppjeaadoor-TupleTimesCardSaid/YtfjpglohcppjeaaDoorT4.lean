/- States out of a list of bytes; a view's copy; rows and versions built from integers. -/
import Derived.Test.YtfjpglohcppjeaaDoorT3
import Derived.Test.YtfjpglohcppjeaaDoorT2
namespace Go.Proofs.YtfjpglohcppjeaaDoor
open Go.RowKit
set_option linter.unusedVariables false
set_option linter.unusedSimpArgs false

theorem stand_mod {x : Int} {bs : List Int} (h : bs.length ≠ 0) : ∃ m : Nat, (x - 3) % (bs.length : Int) = (m : Int) ∧ m < bs.length := by
  have h1 := Int.emod_nonneg (x - 3) (show (bs.length : Int) ≠ 0 by omega)
  have h2 := Int.emod_lt_of_pos (x - 3) (show (0 : Int) < (bs.length : Int) by omega)
  exact ⟨((x - 3) % (bs.length : Int)).toNat, by omega, by omega⟩
theorem getD_bd {bs : List Int} (h : ∀ b ∈ bs, 0 ≤ b ∧ b ≤ 255) (m : Nat) : 0 ≤ bs.getD m 0 ∧ bs.getD m 0 ≤ 255 := by
  rcases Nat.lt_or_ge m bs.length with h1 | h1
  · have : bs.getD m 0 = bs[m] := by simp [h1]
    rw [this]; exact h _ (List.getElem_mem h1)
  · have : bs.getD m 0 = 0 := by simp [h1]
    rw [this]; omega
theorem standF_at {x : Int} {bs : List Int} {m : Nat} (h2 : x ≠ 2) (h : ¬ (x < 3 ∨ 127 < x ∨ bs.length = 0)) (hm : (x - 3) % (bs.length : Int) = (m : Int)) : standF bs x = bs.getD m 0 % 5 := by
  rw [standF, if_neg h2, if_neg h, hm, Int.toNat_natCast]
set_option maxRecDepth 100000 in
set_option maxHeartbeats 2000000 in
theorem stand_any (SA : Option Addr) (sc : Nat) (bs : List Int) (x : Int) (w : World) (hA : At w SA (bs.map (Value.int .u8))) (hbs : ∀ b ∈ bs, 0 ≤ b ∧ b ≤ 255) :
    Calls Tryd.prog 35 #[.slice SA bs.length sc, .int .i64 x] w (Ret (.int .i64 (standF bs x)) w) := by
  go_enter Tryd.func35, Tryd.ntmps35
  have hst0 := St.start w
  refine wp_seq ?_
  refine wp_region_P [0] [.k 4 (.int .i64 0)] [(4, 0, 1, 5)] hst0 fun W1 hst1 => ?_
  refine then_normal ?_
  refine wp_seq ?_
  refine wp_seq ?_
  refine wp_region_P [0, 1] [.k 5 (.int .i64 x), .k 6 (.bool (x == 2))] [(5, 0, 2, 7)] hst1 fun W2 hst2 => ?_
  refine then_normal ?_
  rcases Bool.eq_false_or_eq_true (x == 2) with hs3 | hs3
  · skip
    have hs3p : x = 2 := by simpa using hs3
    refine wp_cond_true (show Act.eval _ _ = .bool true from (congrArg Value.bool hs3)) ?_
    refine wp_seq ?_
    refine wp_region_P [0] [.k 4 (.int .i64 2)] [(4, 0, 1, 5)] hst2 fun W4 hst4 => ?_
    refine then_normal ?_
    refine wp_ret ?_
    refine then_ret ?_
    refine bodyPost_ret (v := .int .i64 2) (results_tmp Tryd.results35 rfl) rfl ?_
    exact Ret.int (by rw [standF, if_pos (by assumption)]) hst4.ext
  have hs3p : x ≠ 2 := by simpa using hs3
  refine wp_cond_false (show Act.eval _ _ = .bool false from (congrArg Value.bool hs3)) ?_
  refine wp_skip ?_
  refine then_normal ?_
  refine wp_seq ?_
  refine wp_seq ?_
  refine wp_region_P [0, 1, 3, 7, 15, 31, 63, 127, 255, 511, 1023] [.k 7 (.int .i64 x), .k 8 (.bool (decide (x < 3))), .k 9 (.bool (decide (x < 3))), .z 10 (!(decide (x < 3))) (.int .i64 x), .z 11 (!(decide (x < 3))) (.bool (decide (127 < x))), tO 12 (decide (x < 3)) (decide (127 < x)), .k 13 (.bool ((decide (x < 3)) || (decide (127 < x)))), .z 14 (!((decide (x < 3)) || (decide (127 < x)))) (.slice SA bs.length sc), .z 15 (!((decide (x < 3)) || (decide (127 < x)))) (.int .i64 ((bs.length : Int))), .z 16 (!((decide (x < 3)) || (decide (127 < x)))) (.bool ((bs.length : Int) == 0)), tO 17 ((decide (x < 3)) || (decide (127 < x))) ((bs.length : Int) == 0)] [(7, 0, 11, 18)] hst2 fun W5 hst5 => ?_
  refine then_normal ?_
  rcases Bool.eq_false_or_eq_true (((decide (x < 3)) || (decide (127 < x))) || ((bs.length : Int) == 0)) with hs6 | hs6
  · skip
    have hs6p := hs6
    simp only [zB] at hs6p
    refine wp_cond_true (show Act.eval _ _ = .bool true from (congrArg Value.bool hs6)) ?_
    refine wp_seq ?_
    refine wp_region_P [0] [.k 4 (.int .i64 0)] [(4, 0, 1, 5)] hst5 fun W7 hst7 => ?_
    refine then_normal ?_
    refine wp_ret ?_
    refine then_ret ?_
    refine bodyPost_ret (v := .int .i64 0) (results_tmp Tryd.results35 rfl) rfl ?_
    exact Ret.int (by rw [standF, if_neg (by assumption), if_pos (by omega)]) hst7.ext
  have hs6p := hs6
  simp only [zB] at hs6p
  obtain ⟨⟨hs6p1, hs6p2⟩, hs6p3⟩ := hs6p
  refine wp_cond_false (show Act.eval _ _ = .bool false from (congrArg Value.bool hs6)) ?_
  refine wp_skip ?_
  refine then_normal ?_
  refine wp_seq ?_
  obtain ⟨m, hm, hml⟩ := stand_mod (x := x) (bs := bs) (by omega)
  have hb5 := getD_bd hbs m
  refine wp_region_T [0, 0, 2, 0, 8, 30, 63, 127, 255, 511, 1023] [] [] [] [.k 18 (.slice SA bs.length sc), .k 19 (.int .i64 x), tI 20 (x - 3) (by omega), .k 21 (.slice SA bs.length sc), .k 22 (.int .i64 ((bs.length : Int))), .c 23 (.int .i64 ((m : Int))), .c 24 (.pointer (some ((ad SA).add m))), .c 25 (.int .u8 (bs.getD m 0)), tRe 26 .u8 (bs.getD m 0) 5 ((bs.getD m 0) % 5) (Int.tmod_eq_emod_of_nonneg (by omega)), tW 27 .i64 ((bs.getD m 0) % 5) ((bs.getD m 0) % 5) (IntWalk.i64_in _ (by omega)), .k 4 (.int .i64 ((bs.getD m 0) % 5))] (fun _ _ _ _ => True) [] [5, 6, 7] [(4, 10, 1, 5), (13, 0, 10, 23)] hst5 ?_ ?_ ?_
  · exact fun _ _ _ _ _ _ _ _ _ _ h => h
  · refine ⟨?_, ?_, ?_, trivial⟩
    · exact s4 rfl (fun _ _ _ h => h) fun cx => run_rem rfl (cx.anc 2 rfl) (cx.anc 4 rfl) (by omega) (by rw [Int.tmod_eq_emod_of_nonneg (by omega)]; exact hm)
    · exact s4 rfl (fun _ _ _ h => h) fun cx => run_indexSl (e := 5) (m := m) rfl (by kernel_rfl) (by kernel_rfl) (cx.anc 0 rfl) (cx.anc 5 rfl) (by omega) (by omega) (hA.ext cx.upd.to_ext) (by simp)
    · exact s4 rfl (fun _ _ _ h => h) fun cx => run_load1 rfl (by kernel_rfl) (cx.anc 6 rfl) (At.cellAd (hA.ext cx.upd.to_ext) (getD_u8 (by omega)))
  intro σ β X W8 hD hX hst8 fr hfr
  simp only [zM] at hst8
  dsimp only [mgT, vals, List.take, List.drop, List.cons_append, List.nil_append] at hfr
  clear hX hD; subst hfr; clear σ β X
  refine then_normal ?_
  refine wp_ret ?_
  refine bodyPost_ret (v := .int .i64 ((bs.getD m 0) % 5)) (results_tmp Tryd.results35 rfl) rfl ?_
  exact Ret.int (standF_at (by assumption) (by omega) hm).symm hst8.ext

theorem stand_ok (SA : Option Addr) (sn sc : Nat) (bs : List Int) (w : World) (hn : sn = bs.length) (hA : At w SA (bs.map (Value.int .u8))) (hbs : ∀ b ∈ bs, 0 ≤ b ∧ b ≤ 255) : StOk w 43 (.slice SA sn sc) (standF bs) := by
  subst hn
  exact ⟨35, _, fun W => by kernel_rfl, by kernel_rfl, fun W x hx => stand_any SA sc bs x W (hA.ext hx) hbs⟩

theorem cut_len (ls : List Int) (k : Nat) : ∃ m : Nat, min (ls.length : Int) (k : Int) = (m : Int) ∧ ls.take m = ls.take k ∧ m ≤ ls.length ∧ m = (ls.take k).length := by
  refine ⟨min ls.length k, by omega, ?_, by omega, by rw [List.length_take]; omega⟩
  rcases Nat.le_total k ls.length with h | h
  · rw [Nat.min_eq_right h]
  · rw [Nat.min_eq_left h, List.take_length, List.take_of_length_le h]

def CutPost (hi hz : Int) (ls own : List Int) (sv : Value) (w : World) (e : Ending) (w' : World) : Prop := ∃ A c B d, e = .returned (.agg #[.int .i64 hi, .slice A (ls.take 60).length c, .slice B (own.take 20).length d, .int .i64 hz, sv]) ∧
  St w [] [eO 3 1 (.slice A (ls.take 60).length c) (ls.take 60).length ((ls.take 60).map (Value.int .i64)), eO 3 1 (.slice B (own.take 20).length d) (own.take 20).length ((own.take 20).map (Value.int .i64))] w'

set_option maxRecDepth 100000 in
set_option maxHeartbeats 2000000 in
theorem cut_any (hi hz : Int) (LA : Option Addr) (lc : Nat) (ls : List Int) (OA : Option Addr) (oc : Nat) (own : List Int) (SA : Option Addr) (sn sc : Nat) (w : World) (hL : At w LA (ls.map (Value.int .i64))) (hO : At w OA (own.map (Value.int .i64))) (hlc : ls.length ≤ lc) (hoc : own.length ≤ oc) :
    Calls Tryd.prog 21 #[.agg #[.int .i64 hi, .slice LA ls.length lc, .slice OA own.length oc, .int .i64 hz, .slice SA sn sc]] w (CutPost hi hz ls own (.slice SA sn sc) w) := by
  go_enter Tryd.func21, Tryd.ntmps21
  have hst0 := St.start w
  refine wp_seq ?_
  refine wp_region_T [0, 0] [] [[0], [1]] [] [.a 1, .a 2] (fun ix σ β X => match ix with | 0 => σ 1 = .pointer (some ⟨(pb (β 1)), 0, none⟩) ∧ X 0 = eB (pb (β 1)) 45 #[.int .i64 hi, .slice LA ls.length lc, .slice OA own.length oc, .int .i64 hz, .slice SA sn sc] | 1 => σ 2 = .pointer (some ⟨(pb (β 2)), 0, none⟩) ∧ X 1 = eB (pb (β 2)) 45 #[.int .i64 0, .slice none 0 0, .slice none 0 0, .int .i64 0, .slice none 0 0] | _ => True) [0, 1] [0, 1] [(1, 0, 2, 3)] hst0 ?_ ?_ ?_
  · exact fun ix _ _ _ _ _ _ hs hb hx h => match ix, h with
    | 0, h => by dsimp only at h ⊢; rw [← hs 1 rfl, ← hb 1 rfl, ← hx 0 rfl]; exact h
    | 1, h => by dsimp only at h ⊢; rw [← hs 2 rfl, ← hb 2 rfl, ← hx 1 rfl]; exact h
    | _ + 2, _ => trivial
  · refine ⟨?_, ?_, trivial⟩
    · refine sv_any rfl rfl fun ρ β W X cx => ?_
      exact dv_box (cs := #[.int .i64 hi, .slice LA ls.length lc, .slice OA own.length oc, .int .i64 hz, .slice SA sn sc]) rfl (cx.out 0 rfl) rfl rfl rfl (fun σ β' X' hs hb hv hx => ⟨hv, hx⟩)
    · refine sv_any rfl rfl fun ρ β W X cx => ?_
      exact dv_alloc (cs := #[.int .i64 0, .slice none 0 0, .slice none 0 0, .int .i64 0, .slice none 0 0]) rfl (by kernel_rfl) rfl rfl (fun σ β' X' hs hb hv hx => ⟨hv, hx⟩)
  intro σ β X W1 hD hX hst1 fr hfr
  obtain ⟨B1_1, hu_B1_1⟩ : ∃ z, pb (β 1) = z := ⟨_, rfl⟩
  obtain ⟨B2_1, hu_B2_1⟩ : ∃ z, pb (β 2) = z := ⟨_, rfl⟩
  simp only [zM, exq 0 ((dTn (hD 0 lq)).2), exq 1 ((dTn (hD 1 lq)).2), hu_B1_1, hu_B2_1] at hst1
  dsimp only [mgT, vals, List.take, List.drop, List.cons_append, List.nil_append] at hfr
  simp only [ed 1 ((dTn (hD 0 lq)).1), ed 2 ((dTn (hD 1 lq)).1), hu_B1_1, hu_B2_1] at hfr
  clear hX hD hu_B1_1 hu_B2_1; subst hfr; clear σ β X
  refine then_normal ?_
  refine wp_seq ?_
  obtain ⟨m1, hminm1, htkm1, hlem1, hem1⟩ := cut_len ls 60
  refine wp_region_T [0, 0, 2, 6, 0, 16, 48, 112, 240, 510, 1023, 2047, 4095, 8191] [[], [], [], [0], [], [], [0], [], [], [], [2], [], [], [0]] [[2], [], [], [], [], [], [], [], [], [], [3], [], [], [4]] [[], [], [], [], [], [], [], [], [], [], [2], [], [], [0]] [.a 3, .k 4 (.pointer (some ⟨B1_1, 0, none⟩)), .k 5 (.pointer (some ⟨B1_1, 1, none⟩)), .c 6 (.slice LA ls.length lc), .k 7 (.pointer (some ⟨B1_1, 0, none⟩)), .k 8 (.pointer (some ⟨B1_1, 1, none⟩)), .c 9 (.slice LA ls.length lc), .k 10 (.int .i64 ((ls.length : Int))), .c 11 (.int .i64 ((m1 : Int))), .c 12 (.slice LA m1 lc), .a 13, .k 14 (.pointer (some ⟨B1_1, 0, none⟩)), .k 15 (.pointer (some ⟨B1_1, 1, none⟩)), .n] (fun ix σ β X => match ix with | 0 => σ 3 = .slice (sA (β 3)) 0 0 ∧ X 2 = eO 3 1 (.slice (sA (β 3)) 0 0) 0 ([]) | 1 => True | 2 => True | 3 => True | 4 => True | 5 => True | 6 => True | 7 => True | 8 => True | 9 => True | 10 => σ 13 = .slice (sA (β 13)) m1 (sC (β 13)) ∧ X 3 = eO 3 1 (.slice (sA (β 13)) m1 (sC (β 13))) m1 ((ls.take m1).map (Value.int .i64)) | 11 => True | 12 => True | 13 => X 4 = eB B1_1 45 #[.int .i64 hi, .slice (sA (β 13)) m1 (sC (β 13)), .slice OA own.length oc, .int .i64 hz, .slice SA sn sc] | _ => True) [1, 3, 4] [0, 3, 6, 8, 9, 10, 13] [(3, 0, 13, 16)] hst1 ?_ ?_ ?_
  · exact fun ix _ _ _ _ _ _ hs hb hx h => match ix, h with
    | 0, h => by dsimp only at h ⊢; rw [← hs 3 rfl, ← hb 3 rfl, ← hx 2 rfl]; exact h
    | 10, h => by dsimp only at h ⊢; rw [← hs 13 rfl, ← hb 13 rfl, ← hx 3 rfl]; exact h
    | 13, h => by dsimp only at h ⊢; rw [← hb 13 rfl, ← hx 4 rfl]; exact h
    | 1, _ | 2, _ | 3, _ | 4, _ | 5, _ | 6, _ | 7, _ | 8, _ | 9, _ | 11, _ | 12, _ | _ + 14, _ => trivial
  · refine ⟨?_, ?_, ?_, ?_, ?_, ?_, ?_, trivial⟩
    · refine sv_any rfl rfl fun ρ β W X cx => ?_
      exact dv_lit (e := 3) (xs := []) rfl (by simp [go_sem]) rfl (by decide) rfl rfl (fun σ β' X' hs hb hv hx => ⟨hv, hx⟩)
    · exact s4 rfl (fun _ _ _ h => h) fun cx => run_load1 rfl (by kernel_rfl) (cx.anc 2 rfl) ((cx.blk (cx.init 0 _ rfl) rfl).cell 1)
    · exact s4 rfl (fun _ _ _ h => h) fun cx => run_load1 rfl (by kernel_rfl) (cx.anc 5 rfl) ((cx.blk (cx.init 0 _ rfl) rfl).cell 1)
    · exact s4 rfl (fun _ _ _ h => h) fun cx => run_min2 rfl (cx.anc 7 rfl) (cx.sees.const _) (hminm1)
    · exact s4 rfl (fun _ _ _ h => h) fun cx => run_sliceL_hi (e := 3) (sz := 1) (m := m1) rfl (by kernel_rfl) (by kernel_rfl) (cx.anc 3 rfl) (cx.anc 8 rfl) (by omega) (by omega)
    · refine sv_any rfl rfl fun ρ β W X cx => ?_
      obtain ⟨i0, hi0, hz0, hz1, hz2⟩ := info_parts Tryd.infoInt
      refine dv_append (n := 0) (m := m1) (nm := m1) (xs := []) (news := (ls.take m1).map (Value.int .i64)) (xs' := (ls.take m1).map (Value.int .i64)) rfl (ty := 28) rfl (by kernel_rfl) hi0 hz0 hz1 hz2 rfl (dTn (cx.anc 0 rfl)).1 cx (dTn (cx.anc 0 rfl)).2 rfl (cx.anc 9 rfl) (by first | (simp; done) | (simp; omega)) (At.take_mapI (hL.ext cx.upd.to_ext) m1) (int_one _) (by simp only [maxLen]; omega) (by omega) rfl rfl rfl (by omega) (rfl) (fun σ β' X' hs hb hv hx => ?_)
      exact ⟨hv, hx⟩
    · refine sv_any rfl rfl fun ρ β W X cx => ?_
      exact dv_store (n := 1) rfl (cx.anc 12 rfl) (dTn (cx.anc 10 rfl)).1 (by kernel_rfl) (by kernel_rfl) (by kernel_rfl) cx (cx.init 0 _ rfl) rfl (Nat.le_of_ble_eq_true rfl) (by kernel_rfl) rfl rfl rfl (fun σ β' X' hs hb hx => by rw [hb 13]; exact hx)
  intro σ β X W2 hD hX hst2 fr hfr
  obtain ⟨A3_2, hu_A3_2⟩ : ∃ z, sA (β 3) = z := ⟨_, rfl⟩
  obtain ⟨A13_2, hu_A13_2⟩ : ∃ z, sA (β 13) = z := ⟨_, rfl⟩
  obtain ⟨c13_2, hu_c13_2⟩ : ∃ z, sC (β 13) = z := ⟨_, rfl⟩
  simp only [zM, exq 1 (hX 1 _ rfl), exq 3 ((dTn (hD 10 lq)).2), exq 4 ((dTn (hD 13 lq))), hu_A3_2, hu_A13_2, hu_c13_2] at hst2
  dsimp only [mgT, vals, List.take, List.drop, List.cons_append, List.nil_append] at hfr
  simp only [ed 3 ((dTn (hD 0 lq)).1), ed 13 ((dTn (hD 10 lq)).1), hu_A3_2, hu_A13_2, hu_c13_2] at hfr
  clear hX hD hu_A3_2 hu_A13_2 hu_c13_2; subst hfr; clear σ β X
  refine then_normal ?_
  refine wp_seq ?_
  obtain ⟨m2, hminm2, htkm2, hlem2, hem2⟩ := cut_len own 20
  refine wp_region_T [0, 0, 2, 0, 8, 24, 56, 126, 255, 511, 1023] [[], [], [2], [], [2], [], [], [], [3], [], [2]] [[3], [], [], [], [], [], [], [], [4], [], [5]] [[], [], [], [], [], [], [], [], [3], [], [2]] [.a 16, .k 17 (.pointer (some ⟨B1_1, 2, none⟩)), .c 18 (.slice OA own.length oc), .k 19 (.pointer (some ⟨B1_1, 2, none⟩)), .c 20 (.slice OA own.length oc), .k 21 (.int .i64 ((own.length : Int))), .c 22 (.int .i64 ((m2 : Int))), .c 23 (.slice OA m2 oc), .a 24, .k 25 (.pointer (some ⟨B1_1, 2, none⟩)), .n] (fun ix σ β X => match ix with | 0 => σ 16 = .slice (sA (β 16)) 0 0 ∧ X 3 = eO 3 1 (.slice (sA (β 16)) 0 0) 0 ([]) | 1 => True | 2 => True | 3 => True | 4 => True | 5 => True | 6 => True | 7 => True | 8 => σ 24 = .slice (sA (β 24)) m2 (sC (β 24)) ∧ X 4 = eO 3 1 (.slice (sA (β 24)) m2 (sC (β 24))) m2 ((own.take m2).map (Value.int .i64)) | 9 => True | 10 => X 5 = eB B1_1 45 #[.int .i64 hi, .slice A13_2 m1 c13_2, .slice (sA (β 24)) m2 (sC (β 24)), .int .i64 hz, .slice SA sn sc] | _ => True) [0, 1, 4, 5] [0, 2, 4, 6, 7, 8, 10] [(16, 0, 10, 26)] hst2 ?_ ?_ ?_
  · exact fun ix _ _ _ _ _ _ hs hb hx h => match ix, h with
    | 0, h => by dsimp only at h ⊢; rw [← hs 16 rfl, ← hb 16 rfl, ← hx 3 rfl]; exact h
    | 8, h => by dsimp only at h ⊢; rw [← hs 24 rfl, ← hb 24 rfl, ← hx 4 rfl]; exact h
    | 10, h => by dsimp only at h ⊢; rw [← hb 24 rfl, ← hx 5 rfl]; exact h
    | 1, _ | 2, _ | 3, _ | 4, _ | 5, _ | 6, _ | 7, _ | 9, _ | _ + 11, _ => trivial
  · refine ⟨?_, ?_, ?_, ?_, ?_, ?_, ?_, trivial⟩
    · refine sv_any rfl rfl fun ρ β W X cx => ?_
      exact dv_lit (e := 3) (xs := []) rfl (by simp [go_sem]) rfl (by decide) rfl rfl (fun σ β' X' hs hb hv hx => ⟨hv, hx⟩)
    · exact s4 rfl (fun _ _ _ h => h) fun cx => run_load1 rfl (by kernel_rfl) (cx.anc 1 rfl) ((cx.blk (cx.init 2 _ rfl) rfl).cell 2)
    · exact s4 rfl (fun _ _ _ h => h) fun cx => run_load1 rfl (by kernel_rfl) (cx.anc 3 rfl) ((cx.blk (cx.init 2 _ rfl) rfl).cell 2)
    · exact s4 rfl (fun _ _ _ h => h) fun cx => run_min2 rfl (cx.anc 5 rfl) (cx.sees.const _) (hminm2)
    · exact s4 rfl (fun _ _ _ h => h) fun cx => run_sliceL_hi (e := 3) (sz := 1) (m := m2) rfl (by kernel_rfl) (by kernel_rfl) (cx.anc 2 rfl) (cx.anc 6 rfl) (by omega) (by omega)
    · refine sv_any rfl rfl fun ρ β W X cx => ?_
      obtain ⟨i0, hi0, hz0, hz1, hz2⟩ := info_parts Tryd.infoInt
      refine dv_append (n := 0) (m := m2) (nm := m2) (xs := []) (news := (own.take m2).map (Value.int .i64)) (xs' := (own.take m2).map (Value.int .i64)) rfl (ty := 28) rfl (by kernel_rfl) hi0 hz0 hz1 hz2 rfl (dTn (cx.anc 0 rfl)).1 cx (dTn (cx.anc 0 rfl)).2 rfl (cx.anc 7 rfl) (by first | (simp; done) | (simp; omega)) (At.take_mapI (hO.ext cx.upd.to_ext) m2) (int_one _) (by simp only [maxLen]; omega) (by omega) rfl rfl rfl (by omega) (rfl) (fun σ β' X' hs hb hv hx => ?_)
      exact ⟨hv, hx⟩
    · refine sv_any rfl rfl fun ρ β W X cx => ?_
      exact dv_store (n := 1) rfl (cx.anc 9 rfl) (dTn (cx.anc 8 rfl)).1 (by kernel_rfl) (by kernel_rfl) (by kernel_rfl) cx (cx.init 2 _ rfl) rfl (Nat.le_of_ble_eq_true rfl) (by kernel_rfl) rfl rfl rfl (fun σ β' X' hs hb hx => by rw [hb 24]; exact hx)
  intro σ β X W3 hD hX hst3 fr hfr
  obtain ⟨A16_3, hu_A16_3⟩ : ∃ z, sA (β 16) = z := ⟨_, rfl⟩
  obtain ⟨A24_3, hu_A24_3⟩ : ∃ z, sA (β 24) = z := ⟨_, rfl⟩
  obtain ⟨c24_3, hu_c24_3⟩ : ∃ z, sC (β 24) = z := ⟨_, rfl⟩
  simp only [zM, exq 0 (hX 0 _ rfl), exq 1 (hX 1 _ rfl), exq 4 ((dTn (hD 8 lq)).2), exq 5 ((dTn (hD 10 lq))), hu_A16_3, hu_A24_3, hu_c24_3] at hst3
  dsimp only [mgT, vals, List.take, List.drop, List.cons_append, List.nil_append] at hfr
  simp only [ed 16 ((dTn (hD 0 lq)).1), ed 24 ((dTn (hD 8 lq)).1), hu_A16_3, hu_A24_3, hu_c24_3] at hfr
  clear hX hD hu_A16_3 hu_A24_3 hu_c24_3; subst hfr; clear σ β X
  refine then_normal ?_
  refine wp_seq ?_
  refine wp_region_T [0, 1] [[3], [0]] [[], [4]] [[], [0]] [.c 26 (.agg #[.int .i64 hi, .slice A13_2 m1 c13_2, .slice A24_3 m2 c24_3, .int .i64 hz, .slice SA sn sc]), .n] (fun ix σ β X => match ix with | 0 => True | 1 => X 4 = eB B2_1 45 #[.int .i64 hi, .slice A13_2 m1 c13_2, .slice A24_3 m2 c24_3, .int .i64 hz, .slice SA sn sc] | _ => True) [1, 2, 3, 4] [0, 1] [(26, 0, 1, 27)] hst3 ?_ ?_ ?_
  · exact fun ix _ _ _ _ _ _ hs hb hx h => match ix, h with
    | 1, h => by dsimp only at h ⊢; rw [← hx 4 rfl]; exact h
    | 0, _ | _ + 2, _ => trivial
  · refine ⟨?_, ?_, trivial⟩
    · exact s4 rfl (fun _ _ _ h => h) fun cx => run_loadB (n := 5) rfl (by kernel_rfl) (by kernel_rfl) (cx.out 1 rfl) (cx.blk (cx.init 3 _ rfl) rfl) (Nat.le_of_ble_eq_true rfl) rfl
    · refine sv_any rfl rfl fun ρ β W X cx => ?_
      exact dv_store (n := 5) rfl (cx.out 2 rfl) (cx.anc 0 rfl) (by kernel_rfl) (by kernel_rfl) (by kernel_rfl) cx (cx.init 0 _ rfl) rfl (Nat.le_of_ble_eq_true rfl) (by kernel_rfl) rfl rfl rfl (fun σ β' X' hs hb hx => hx)
  intro σ β X W4 hD hX hst4 fr hfr
  simp only [zM, exq 1 (hX 1 _ rfl), exq 2 (hX 2 _ rfl), exq 3 (hX 3 _ rfl), exq 4 ((dTn (hD 1 lq)))] at hst4
  dsimp only [mgT, vals, List.take, List.drop, List.cons_append, List.nil_append] at hfr
  clear hX hD; subst hfr; clear σ β X
  refine then_normal ?_
  refine wp_ret ?_
  refine bodyPost_ret (v := .agg #[.int .i64 hi, .slice A13_2 m1 c13_2, .slice A24_3 m2 c24_3, .int .i64 hz, .slice SA sn sc]) (results_cell (n := 5) Tryd.results21 rfl (by kernel_rfl) (by kernel_rfl) (hst4.blk 3 rfl) rfl) rfl ?_
  rw [htkm1, htkm2] at hst4
  subst hem1 hem2
  exact ⟨_, _, _, _, rfl, hst4.pick [0, 1] (by decide) rfl⟩

set_option maxRecDepth 100000 in
set_option maxHeartbeats 2000000 in
theorem made02_any (n : Int) (LA : Option Addr) (lc : Nat) (l : List Int) (w : World) (hA : At w LA (l.map (Value.int .i64))) (hn : 0 ≤ n ∧ n ≤ 3) (hll : l.length ≤ 100000) :
    Calls Tryd.prog 49 #[.int .i64 n, .slice LA l.length lc] w (RowPost (madeR n.toNat l) w) := by
  go_enter Tryd.func49, Tryd.ntmps49
  have hst0 := St.start w
  refine wp_seq ?_
  refine wp_region_P [0] [.k 4 (.slice none 0 0)] [(4, 0, 1, 5)] hst0 fun W1 hst1 => ?_
  refine then_normal ?_
  refine wp_seq ?_
  refine wp_region_T [0, 1] [] [[0]] [] [.a 8, .a 5] (fun ix σ β X => match ix with | 0 => σ 8 = .slice ((some ⟨(pb' (β 8)), 0, none⟩)) 0 0 ∧ X 0 = eO 103 3 (.slice ((some ⟨(pb' (β 8)), 0, none⟩)) 0 0) 0 ([]) | 1 => σ 5 = .slice ((some ⟨(pb' (β 8)), 0, none⟩)) 0 0 | _ => True) [0] [0, 1] [(5, 1, 1, 6), (2, 0, 1, 3)] hst1 ?_ ?_ ?_
  · exact fun ix _ _ _ _ _ _ hs hb hx h => match ix, h with
    | 0, h => by dsimp only at h ⊢; rw [← hs 8 rfl, ← hb 8 rfl, ← hx 0 rfl]; exact h
    | 1, h => by dsimp only at h ⊢; rw [← hs 5 rfl, ← hb 8 rfl]; exact h
    | _ + 2, _ => trivial
  · refine ⟨?_, ?_, trivial⟩
    · refine sv_any rfl rfl fun ρ β W X cx => ?_
      exact dv_litN (e := 103) (sz := 3) (xs := []) rfl (by simp [go_sem]) rfl (by decide) rfl rfl (fun σ β' X' hs hb hv hx => ⟨hv, hx⟩)
    · exact sv rfl rfl rfl rfl rfl _ (fun _ _ _ h => h) (fun β β' h => by rw [h 8 (by decide)]) fun ρ β W X cx => run_assign' rfl (dTn (cx.anc 0 rfl)).1
  intro σ β X W2 hD hX hst2 fr hfr
  obtain ⟨B8_2, hu_B8_2⟩ : ∃ z, pb' (β 8) = z := ⟨_, rfl⟩
  simp only [zM, exq 0 ((dTn (hD 0 lq)).2), hu_B8_2] at hst2
  dsimp only [mgT, vals, List.take, List.drop, List.cons_append, List.nil_append] at hfr
  simp only [ed 8 ((dTn (hD 0 lq)).1), ed 5 ((dTn (hD 1 lq))), hu_B8_2] at hfr
  clear hX hD hu_B8_2; subst hfr; clear σ β X
  refine then_normal ?_
  refine wp_seq ?_
  refine wp_seq ?_
  refine wp_region_P [0] [.k 6 (.int .i64 0)] [(6, 0, 1, 7)] hst2 fun W3 hst3 => ?_
  refine then_normal ?_
  refine wp_block ?_
  refine wp_loopN (fun mz az W => ∃ k : Nat, ∃ A : Option Addr, ∃ c : Nat, ∃ u4_ : List Value, (k : Int) ≤ n ∧ n ≤ 3 ∧ mz = n.toNat - k ∧ az = ⟨#[.int .i64 n, .slice LA l.length lc, undef, undef, .slice none 0 0, .slice A k c, .int .i64 ((k : Int)), (u4_.getD 0 undef), .slice ((some ⟨B8_2, 0, none⟩)) 0 0, (u4_.getD 1 undef), (u4_.getD 2 undef), (u4_.getD 3 undef), (u4_.getD 4 undef), (u4_.getD 5 undef), (u4_.getD 6 undef), (u4_.getD 7 undef), (u4_.getD 8 undef), (u4_.getD 9 undef), (u4_.getD 10 undef), (u4_.getD 11 undef), (u4_.getD 12 undef), (u4_.getD 13 undef), (u4_.getD 14 undef), (u4_.getD 15 undef), (u4_.getD 16 undef), (u4_.getD 17 undef), (u4_.getD 18 undef), (u4_.getD 19 undef), (u4_.getD 20 undef), (u4_.getD 21 undef), (u4_.getD 22 undef), (u4_.getD 23 undef), (u4_.getD 24 undef), (u4_.getD 25 undef), (u4_.getD 26 undef), (u4_.getD 27 undef), (u4_.getD 28 undef), (u4_.getD 29 undef), (u4_.getD 30 undef), (u4_.getD 31 undef), (u4_.getD 32 undef), (u4_.getD 33 undef), (u4_.getD 34 undef), (u4_.getD 35 undef), (u4_.getD 36 undef), (u4_.getD 37 undef), (u4_.getD 38 undef), (u4_.getD 39 undef), (u4_.getD 40 undef), (u4_.getD 41 undef), (u4_.getD 42 undef), (u4_.getD 43 undef), (u4_.getD 44 undef), (u4_.getD 45 undef), (u4_.getD 46 undef), (u4_.getD 47 undef), (u4_.getD 48 undef), (u4_.getD 49 undef), undef], []⟩ ∧ St w [] [eO 103 3 (.slice A k c) k (flatR (madeR k l))] W) (n.toNat - 0) ?_ ?_
  · -- the loop begins
    have hp5 := hst3.pick [0] (by decide) rfl
    exact ⟨0, (some ⟨B8_2, 0, none⟩), 0, [undef, undef, undef, undef, undef, undef, undef, undef, undef, undef, undef, undef, undef, undef, undef, undef, undef, undef, undef, undef, undef, undef, undef, undef, undef, undef, undef, undef, undef, undef, undef, undef, undef, undef, undef, undef, undef, undef, undef, undef, undef, undef, undef, undef, undef, undef, undef, undef, undef, undef], by omega, by omega, rfl, rfl, hp5⟩
  rintro n4 a4 W4 ⟨k, A, c, u4_, hk, hn3, rfl, rfl, hst4⟩
  refine wp_seq ?_
  refine wp_seq ?_
  refine wp_region_P [0, 0, 3] [.k 9 (.int .i64 ((k : Int))), .k 10 (.int .i64 n), .k 11 (.bool (decide ((k : Int) < n)))] [(9, 0, 3, 12)] hst4 fun W6 hst6 => ?_
  refine then_normal ?_
  rcases Bool.eq_false_or_eq_true (decide ((k : Int) < n)) with hs7 | hs7
  · skip
    have hs7p : (k : Int) < n := by simpa using hs7
    refine wp_cond_true (show Act.eval _ _ = .bool true from (congrArg Value.bool hs7)) ?_
    refine wp_skip ?_
    refine then_normal ?_
    refine wp_seq ?_
    refine wp_block ?_
    refine wp_seq ?_
    refine wp_region_P [0] [.k 7 (.int .i64 0)] [(7, 0, 1, 8)] hst6 fun W8 hst8 => ?_
    refine then_normal ?_
    refine wp_seq ?_
    refine wp_seq ?_
    refine wp_region_P [0, 0, 2, 7] [.k 14 (.int .i64 ((k : Int))), .k 15 (.slice LA l.length lc), .k 16 (.int .i64 ((l.length : Int))), .k 17 (.bool (decide ((k : Int) < (l.length : Int))))] [(14, 0, 4, 18)] hst8 fun W9 hst9 => ?_
    refine then_normal ?_
    rcases Bool.eq_false_or_eq_true (decide ((k : Int) < (l.length : Int))) with hs10 | hs10
    · skip
      have hs10p : (k : Int) < (l.length : Int) := by simpa using hs10
      refine wp_cond_true (show Act.eval _ _ = .bool true from (congrArg Value.bool hs10)) ?_
      refine wp_region_T [0, 0, 3, 7, 15, 31] [] [] [] [.k 18 (.slice LA l.length lc), .k 19 (.int .i64 ((k : Int))), .c 20 (.pointer (some ((ad LA).add k))), .c 21 (.int .i64 (l.getD k 0)), tAn 22 .i64 (l.getD k 0) 65535 ((l.getD k 0) % 65536) (bits_mask (l.getD k 0) 16 (by decide)), .k 7 (.int .i64 ((l.getD k 0) % 65536))] (fun _ _ _ _ => True) [0] [2, 3] [(7, 5, 1, 8), (10, 0, 5, 15)] hst9 ?_ ?_ ?_
      · exact fun _ _ _ _ _ _ _ _ _ _ h => h
      · refine ⟨?_, ?_, trivial⟩
        · exact s4 rfl (fun _ _ _ h => h) fun cx => run_indexSl (e := 3) (m := k) rfl (by kernel_rfl) (by kernel_rfl) (cx.anc 0 rfl) (cx.anc 1 rfl) (by omega) (by omega) (hA.ext cx.upd.to_ext) (by simp)
        · exact s4 rfl (fun _ _ _ h => h) fun cx => run_load1 rfl (by kernel_rfl) (cx.anc 2 rfl) (At.cellAd (hA.ext cx.upd.to_ext) (getD_int (by omega)))
      intro σ β X W11 hD hX hst11 fr hfr
      simp only [zM, exq 0 (hX 0 _ rfl)] at hst11
      dsimp only [mgT, vals, List.take, List.drop, List.cons_append, List.nil_append] at hfr
      clear hX hD; subst hfr; clear σ β X
      refine then_normal ?_
      refine wp_seq ?_
      refine wp_region_P [0, 1] [.k 23 (.int .i64 ((l.getD k 0) % 65536)), tRe 24 .i64 ((l.getD k 0) % 65536) 5 (((l.getD k 0) % 65536) % 5) (Int.tmod_eq_emod_of_nonneg (by omega))] [(23, 0, 2, 25)] hst11 fun W12 hst12 => ?_
      refine then_normal ?_
      refine wp_block ?_
      refine wp_seq ?_
      refine wp_region_P [0, 1] [.k 34 (.bool ((((l.getD k 0) % 65536) % 5) == 0)), .k 33 (.bool ((((l.getD k 0) % 65536) % 5) == 0))] [(33, 1, 1, 34), (0, 0, 1, 1)] hst12 fun W13 hst13 => ?_
      refine then_normal ?_
      rcases Bool.eq_false_or_eq_true ((((l.getD k 0) % 65536) % 5) == 0) with hs14 | hs14
      · skip
        have hs14p : (((l.getD k 0) % 65536) % 5) = 0 := by simpa using hs14
        refine wp_cond_true (show Act.eval _ _ = .bool true from (congrArg Value.bool hs14)) ?_
        refine wp_region_T [0, 0, 2, 7, 15] [[], [], [], [1, 0]] [[], [], [1], [2]] [[], [], [], [0]] [.k 35 (.slice A k c), .k 36 (.agg #[.int .i64 0, .int .i64 0, .string ByteArray.empty]), .a 37, .a 38, .a 5] (fun ix σ β X => match ix with | 0 => True | 1 => True | 2 => σ 37 = .slice ((some ⟨(pb' (β 37)), 0, none⟩)) 1 1 ∧ X 1 = eO 103 3 (.slice ((some ⟨(pb' (β 37)), 0, none⟩)) 1 1) 1 ([.int .i64 0, .int .i64 0, .string ByteArray.empty]) | 3 => σ 38 = .slice (sA (β 38)) (k + 1) (sC (β 38)) ∧ X 2 = eO 103 3 (.slice (sA (β 38)) (k + 1) (sC (β 38))) (k + 1) (flatR (madeR (k + 1) l)) | 4 => σ 5 = .slice (sA (β 38)) (k + 1) (sC (β 38)) | _ => True) [1, 2] [2, 3, 4] [(5, 4, 1, 6), (29, 0, 4, 33)] hst13 ?_ ?_ ?_
        · exact fun ix _ _ _ _ _ _ hs hb hx h => match ix, h with
          | 2, h => by dsimp only at h ⊢; rw [← hs 37 rfl, ← hb 37 rfl, ← hx 1 rfl]; exact h
          | 3, h => by dsimp only at h ⊢; rw [← hs 38 rfl, ← hb 38 rfl, ← hx 2 rfl]; exact h
          | 4, h => by dsimp only at h ⊢; rw [← hs 5 rfl, ← hb 38 rfl]; exact h
          | 0, _ | 1, _ | _ + 5, _ => trivial
        · refine ⟨?_, ?_, ?_, trivial⟩
          · refine sv_any rfl rfl fun ρ β W X cx => ?_
            have fF36 : ρ (.tmp 36) = .agg #[.int .i64 0, .int .i64 0, .string ByteArray.empty] := (cx.anc 1 rfl)
            exact dv_litN (e := 103) (sz := 3) (xs := [.int .i64 0, .int .i64 0, .string ByteArray.empty]) rfl (by simp [go_sem, fF36]) rfl (by decide) rfl rfl (fun σ β' X' hs hb hv hx => ⟨hv, hx⟩)
          · refine sv_any rfl rfl fun ρ β W X cx => ?_
            obtain ⟨i0, hi0, hz0, hz1, hz2⟩ := info_parts Tryd.infoVal
            refine dv_appendN (n := k) (m := 1) (nm := k + 1) (sz := 3) (xs := flatR (madeR k l)) (news := [.int .i64 0, .int .i64 0, .string ByteArray.empty]) (xs' := flatR (madeR (k + 1) l)) rfl (ty := 25) rfl (by kernel_rfl) hi0 hz0 hz1 hz2 rfl (by decide) (cx.anc 0 rfl) cx (cx.init 0 _ rfl) rfl (dTn (cx.anc 2 rfl)).1 (rfl) (At.of_ownN (cx.row (dTn (cx.anc 2 rfl)).2 rfl)) (by simp [Value.oneCell']) (by simp only [maxLen]; omega) (by omega) rfl rfl rfl (by omega) (by rw [madeR_succ, flatR_snoc]; simp_all [valF, cellsV]) (fun σ β' X' hs hb hv hx => ?_)
            exact ⟨hv, hx⟩
          · exact sv rfl rfl rfl rfl rfl _ (fun _ _ _ h => h) (fun β β' h => by rw [h 38 (by decide)]) fun ρ β W X cx => run_assign' rfl (dTn (cx.anc 3 rfl)).1
        intro σ β X W15 hD hX hst15 fr hfr
        obtain ⟨B37_15, hu_B37_15⟩ : ∃ z, pb' (β 37) = z := ⟨_, rfl⟩
        obtain ⟨A38_15, hu_A38_15⟩ : ∃ z, sA (β 38) = z := ⟨_, rfl⟩
        obtain ⟨c38_15, hu_c38_15⟩ : ∃ z, sC (β 38) = z := ⟨_, rfl⟩
        simp only [zM, exq 1 ((dTn (hD 2 lq)).2), exq 2 ((dTn (hD 3 lq)).2), hu_B37_15, hu_A38_15, hu_c38_15] at hst15
        dsimp only [mgT, vals, List.take, List.drop, List.cons_append, List.nil_append] at hfr
        simp only [ed 37 ((dTn (hD 2 lq)).1), ed 38 ((dTn (hD 3 lq)).1), ed 5 ((dTn (hD 4 lq))), hu_B37_15, hu_A38_15, hu_c38_15] at hfr
        clear hX hD hu_B37_15 hu_A38_15 hu_c38_15; subst hfr; clear σ β X
        refine blk_normal ?_
        refine blk_normal ?_
        refine then_normal ?_
        refine wp_region_P [0, 1, 3] [.k 12 (.int .i64 ((k : Int))), tI 13 ((k : Int) + 1) (by omega), .k 6 (.int .i64 ((k : Int) + 1))] [(6, 2, 1, 7), (5, 0, 2, 7)] hst15 fun W16 hst16 => ?_
        refine then_normal ?_
        refine ⟨n.toNat - ((k + 1)), by omega, ?_⟩
        have hp17 := hst16.pick [1] (by decide) rfl
        exact ⟨(k + 1), A38_15, c38_15, [.int .i64 ((l.getD k 0) % 65536), .int .i64 ((k : Int)), .int .i64 n, .bool (decide ((k : Int) < n)), .int .i64 ((k : Int)), .int .i64 ((k : Int) + 1), .int .i64 ((k : Int)), .slice LA l.length lc, .int .i64 ((l.length : Int)), .bool (decide ((k : Int) < (l.length : Int))), .slice LA l.length lc, .int .i64 ((k : Int)), .pointer (some ((ad LA).add k)), .int .i64 (l.getD k 0), .int .i64 ((l.getD k 0) % 65536), .int .i64 ((l.getD k 0) % 65536), .int .i64 (((l.getD k 0) % 65536) % 5), (u4_.getD 17 undef), (u4_.getD 18 undef), (u4_.getD 19 undef), (u4_.getD 20 undef), (u4_.getD 21 undef), (u4_.getD 22 undef), (u4_.getD 23 undef), (u4_.getD 24 undef), .bool ((((l.getD k 0) % 65536) % 5) == 0), .bool ((((l.getD k 0) % 65536) % 5) == 0), .slice A k c, .agg #[.int .i64 0, .int .i64 0, .string ByteArray.empty], .slice ((some ⟨B37_15, 0, none⟩)) 1 1, .slice A38_15 (k + 1) c38_15, (u4_.getD 31 undef), (u4_.getD 32 undef), (u4_.getD 33 undef), (u4_.getD 34 undef), (u4_.getD 35 undef), (u4_.getD 36 undef), (u4_.getD 37 undef), (u4_.getD 38 undef), (u4_.getD 39 undef), (u4_.getD 40 undef), (u4_.getD 41 undef), (u4_.getD 42 undef), (u4_.getD 43 undef), (u4_.getD 44 undef), (u4_.getD 45 undef), (u4_.getD 46 undef), (u4_.getD 47 undef), (u4_.getD 48 undef), (u4_.getD 49 undef)], by omega, hn3, rfl, rfl, hp17⟩
      have hs14p : (((l.getD k 0) % 65536) % 5) ≠ 0 := by simpa using hs14
      refine wp_cond_false (show Act.eval _ _ = .bool false from (congrArg Value.bool hs14)) ?_
      refine wp_seq ?_
      refine wp_region_P [0, 1] [.k 40 (.bool ((((l.getD k 0) % 65536) % 5) == 1)), .k 39 (.bool ((((l.getD k 0) % 65536) % 5) == 1))] [(39, 1, 1, 40), (0, 0, 1, 1)] hst13 fun W18 hst18 => ?_
      refine then_normal ?_
      rcases Bool.eq_false_or_eq_true ((((l.getD k 0) % 65536) % 5) == 1) with hs19 | hs19
      · skip
        have hs19p : (((l.getD k 0) % 65536) % 5) = 1 := by simpa using hs19
        refine wp_cond_true (show Act.eval _ _ = .bool true from (congrArg Value.bool hs19)) ?_
        refine wp_region_T [0, 0, 2, 6, 14, 30, 62, 127, 255] [[], [], [], [], [], [], [], [1, 0]] [[], [], [], [], [], [], [1], [2]] [[], [], [], [], [], [], [], [0]] [.k 41 (.slice A k c), .k 42 (.int .i64 ((l.getD k 0) % 65536)), tQu 43 .i64 ((l.getD k 0) % 65536) 5 (((l.getD k 0) % 65536) / 5) (by rw [Int.tdiv_eq_ediv_of_nonneg (by omega)]; exact IntWalk.i64_in _ (by omega)), tRe 44 .i64 (((l.getD k 0) % 65536) / 5) 4 ((((l.getD k 0) % 65536) / 5) % 4) (Int.tmod_eq_emod_of_nonneg (by omega)), .c 45 (.string (((⟨#[97, 98, 99]⟩ : ByteArray)).extract 0 (((((l.getD k 0) % 65536) / 5) % 4).toNat))), .k 46 (.agg #[.int .i64 2, .int .i64 0, .string (((⟨#[97, 98, 99]⟩ : ByteArray)).extract 0 (((((l.getD k 0) % 65536) / 5) % 4).toNat))]), .a 47, .a 48, .a 5] (fun ix σ β X => match ix with | 0 => True | 1 => True | 2 => True | 3 => True | 4 => True | 5 => True | 6 => σ 47 = .slice ((some ⟨(pb' (β 47)), 0, none⟩)) 1 1 ∧ X 1 = eO 103 3 (.slice ((some ⟨(pb' (β 47)), 0, none⟩)) 1 1) 1 ([.int .i64 2, .int .i64 0, .string (((⟨#[97, 98, 99]⟩ : ByteArray)).extract 0 (((((l.getD k 0) % 65536) / 5) % 4).toNat))]) | 7 => σ 48 = .slice (sA (β 48)) (k + 1) (sC (β 48)) ∧ X 2 = eO 103 3 (.slice (sA (β 48)) (k + 1) (sC (β 48))) (k + 1) (flatR (madeR (k + 1) l)) | 8 => σ 5 = .slice (sA (β 48)) (k + 1) (sC (β 48)) | _ => True) [1, 2] [4, 6, 7, 8] [(5, 8, 1, 6), (35, 0, 8, 43)] hst18 ?_ ?_ ?_
        · exact fun ix _ _ _ _ _ _ hs hb hx h => match ix, h with
          | 6, h => by dsimp only at h ⊢; rw [← hs 47 rfl, ← hb 47 rfl, ← hx 1 rfl]; exact h
          | 7, h => by dsimp only at h ⊢; rw [← hs 48 rfl, ← hb 48 rfl, ← hx 2 rfl]; exact h
          | 8, h => by dsimp only at h ⊢; rw [← hs 5 rfl, ← hb 48 rfl]; exact h
          | 0, _ | 1, _ | 2, _ | 3, _ | 4, _ | 5, _ | _ + 9, _ => trivial
        · refine ⟨?_, ?_, ?_, ?_, trivial⟩
          · exact s4 rfl (fun _ _ _ h => h) fun cx => run_slice_hi (l := ((((l.getD k 0) % 65536) / 5) % 4).toNat) rfl (by kernel_rfl) (cx.sees.const _) (cx.anc 3 rfl) (by omega) (by first | omega | (show _ ≤ 3; omega))
          · refine sv_any rfl rfl fun ρ β W X cx => ?_
            have fF46 : ρ (.tmp 46) = .agg #[.int .i64 2, .int .i64 0, .string (((⟨#[97, 98, 99]⟩ : ByteArray)).extract 0 (((((l.getD k 0) % 65536) / 5) % 4).toNat))] := (cx.anc 5 rfl)
            exact dv_litN (e := 103) (sz := 3) (xs := [.int .i64 2, .int .i64 0, .string (((⟨#[97, 98, 99]⟩ : ByteArray)).extract 0 (((((l.getD k 0) % 65536) / 5) % 4).toNat))]) rfl (by simp [go_sem, fF46]) rfl (by decide) rfl rfl (fun σ β' X' hs hb hv hx => ⟨hv, hx⟩)
          · refine sv_any rfl rfl fun ρ β W X cx => ?_
            obtain ⟨i0, hi0, hz0, hz1, hz2⟩ := info_parts Tryd.infoVal
            refine dv_appendN (n := k) (m := 1) (nm := k + 1) (sz := 3) (xs := flatR (madeR k l)) (news := [.int .i64 2, .int .i64 0, .string (((⟨#[97, 98, 99]⟩ : ByteArray)).extract 0 (((((l.getD k 0) % 65536) / 5) % 4).toNat))]) (xs' := flatR (madeR (k + 1) l)) rfl (ty := 25) rfl (by kernel_rfl) hi0 hz0 hz1 hz2 rfl (by decide) (cx.anc 0 rfl) cx (cx.init 0 _ rfl) rfl (dTn (cx.anc 6 rfl)).1 (rfl) (At.of_ownN (cx.row (dTn (cx.anc 6 rfl)).2 rfl)) (by simp [Value.oneCell']) (by simp only [maxLen]; omega) (by omega) rfl rfl rfl (by omega) (by rw [madeR_succ, flatR_snoc]; simp_all [valF, cellsV]) (fun σ β' X' hs hb hv hx => ?_)
            exact ⟨hv, hx⟩
          · exact sv rfl rfl rfl rfl rfl _ (fun _ _ _ h => h) (fun β β' h => by rw [h 48 (by decide)]) fun ρ β W X cx => run_assign' rfl (dTn (cx.anc 7 rfl)).1
        intro σ β X W20 hD hX hst20 fr hfr
        obtain ⟨B47_20, hu_B47_20⟩ : ∃ z, pb' (β 47) = z := ⟨_, rfl⟩
        obtain ⟨A48_20, hu_A48_20⟩ : ∃ z, sA (β 48) = z := ⟨_, rfl⟩
        obtain ⟨c48_20, hu_c48_20⟩ : ∃ z, sC (β 48) = z := ⟨_, rfl⟩
        simp only [zM, exq 1 ((dTn (hD 6 lq)).2), exq 2 ((dTn (hD 7 lq)).2), hu_B47_20, hu_A48_20, hu_c48_20] at hst20
        dsimp only [mgT, vals, List.take, List.drop, List.cons_append, List.nil_append] at hfr
        simp only [ed 47 ((dTn (hD 6 lq)).1), ed 48 ((dTn (hD 7 lq)).1), ed 5 ((dTn (hD 8 lq))), hu_B47_20, hu_A48_20, hu_c48_20] at hfr
        clear hX hD hu_B47_20 hu_A48_20 hu_c48_20; subst hfr; clear σ β X
        refine blk_normal ?_
        refine blk_normal ?_
        refine then_normal ?_
        refine wp_region_P [0, 1, 3] [.k 12 (.int .i64 ((k : Int))), tI 13 ((k : Int) + 1) (by omega), .k 6 (.int .i64 ((k : Int) + 1))] [(6, 2, 1, 7), (5, 0, 2, 7)] hst20 fun W21 hst21 => ?_
        refine then_normal ?_
        refine ⟨n.toNat - ((k + 1)), by omega, ?_⟩
        have hp22 := hst21.pick [1] (by decide) rfl
        exact ⟨(k + 1), A48_20, c48_20, [.int .i64 ((l.getD k 0) % 65536), .int .i64 ((k : Int)), .int .i64 n, .bool (decide ((k : Int) < n)), .int .i64 ((k : Int)), .int .i64 ((k : Int) + 1), .int .i64 ((k : Int)), .slice LA l.length lc, .int .i64 ((l.length : Int)), .bool (decide ((k : Int) < (l.length : Int))), .slice LA l.length lc, .int .i64 ((k : Int)), .pointer (some ((ad LA).add k)), .int .i64 (l.getD k 0), .int .i64 ((l.getD k 0) % 65536), .int .i64 ((l.getD k 0) % 65536), .int .i64 (((l.getD k 0) % 65536) % 5), (u4_.getD 17 undef), (u4_.getD 18 undef), (u4_.getD 19 undef), (u4_.getD 20 undef), (u4_.getD 21 undef), (u4_.getD 22 undef), (u4_.getD 23 undef), (u4_.getD 24 undef), .bool ((((l.getD k 0) % 65536) % 5) == 0), .bool ((((l.getD k 0) % 65536) % 5) == 0), (u4_.getD 27 undef), (u4_.getD 28 undef), (u4_.getD 29 undef), (u4_.getD 30 undef), .bool ((((l.getD k 0) % 65536) % 5) == 1), .bool ((((l.getD k 0) % 65536) % 5) == 1), .slice A k c, .int .i64 ((l.getD k 0) % 65536), .int .i64 (((l.getD k 0) % 65536) / 5), .int .i64 ((((l.getD k 0) % 65536) / 5) % 4), .string (((⟨#[97, 98, 99]⟩ : ByteArray)).extract 0 (((((l.getD k 0) % 65536) / 5) % 4).toNat)), .agg #[.int .i64 2, .int .i64 0, .string (((⟨#[97, 98, 99]⟩ : ByteArray)).extract 0 (((((l.getD k 0) % 65536) / 5) % 4).toNat))], .slice ((some ⟨B47_20, 0, none⟩)) 1 1, .slice A48_20 (k + 1) c48_20, (u4_.getD 41 undef), (u4_.getD 42 undef), (u4_.getD 43 undef), (u4_.getD 44 undef), (u4_.getD 45 undef), (u4_.getD 46 undef), (u4_.getD 47 undef), (u4_.getD 48 undef), (u4_.getD 49 undef)], by omega, hn3, rfl, rfl, hp22⟩
      have hs19p : (((l.getD k 0) % 65536) % 5) ≠ 1 := by simpa using hs19
      refine wp_cond_false (show Act.eval _ _ = .bool false from (congrArg Value.bool hs19)) ?_
      refine wp_seq ?_
      refine wp_region_P [0, 1] [.k 50 (.bool ((((l.getD k 0) % 65536) % 5) == 2)), .k 49 (.bool ((((l.getD k 0) % 65536) % 5) == 2))] [(49, 1, 1, 50), (0, 0, 1, 1)] hst18 fun W23 hst23 => ?_
      refine then_normal ?_
      rcases Bool.eq_false_or_eq_true ((((l.getD k 0) % 65536) % 5) == 2) with hs24 | hs24
      · skip
        have hs24p : (((l.getD k 0) % 65536) % 5) = 2 := by simpa using hs24
        refine wp_cond_true (show Act.eval _ _ = .bool true from (congrArg Value.bool hs24)) ?_
        refine wp_region_T [0, 0, 2, 6, 14, 30, 63, 127] [[], [], [], [], [], [], [1, 0]] [[], [], [], [], [], [1], [2]] [[], [], [], [], [], [], [0]] [.k 51 (.slice A k c), .k 52 (.int .i64 ((l.getD k 0) % 65536)), tQu 53 .i64 ((l.getD k 0) % 65536) 5 (((l.getD k 0) % 65536) / 5) (by rw [Int.tdiv_eq_ediv_of_nonneg (by omega)]; exact IntWalk.i64_in _ (by omega)), .c 54 (.string (digF (((l.getD k 0) % 65536) / 5))), .k 55 (.agg #[.int .i64 2, .int .i64 0, .string (digF (((l.getD k 0) % 65536) / 5))]), .a 56, .a 57, .a 5] (fun ix σ β X => match ix with | 0 => True | 1 => True | 2 => True | 3 => True | 4 => True | 5 => σ 56 = .slice ((some ⟨(pb' (β 56)), 0, none⟩)) 1 1 ∧ X 1 = eO 103 3 (.slice ((some ⟨(pb' (β 56)), 0, none⟩)) 1 1) 1 ([.int .i64 2, .int .i64 0, .string (digF (((l.getD k 0) % 65536) / 5))]) | 6 => σ 57 = .slice (sA (β 57)) (k + 1) (sC (β 57)) ∧ X 2 = eO 103 3 (.slice (sA (β 57)) (k + 1) (sC (β 57))) (k + 1) (flatR (madeR (k + 1) l)) | 7 => σ 5 = .slice (sA (β 57)) (k + 1) (sC (β 57)) | _ => True) [1, 2] [3, 5, 6, 7] [(5, 7, 1, 6), (45, 0, 7, 52)] hst23 ?_ ?_ ?_
        · exact fun ix _ _ _ _ _ _ hs hb hx h => match ix, h with
          | 5, h => by dsimp only at h ⊢; rw [← hs 56 rfl, ← hb 56 rfl, ← hx 1 rfl]; exact h
          | 6, h => by dsimp only at h ⊢; rw [← hs 57 rfl, ← hb 57 rfl, ← hx 2 rfl]; exact h
          | 7, h => by dsimp only at h ⊢; rw [← hs 5 rfl, ← hb 57 rfl]; exact h
          | 0, _ | 1, _ | 2, _ | 3, _ | 4, _ | _ + 8, _ => trivial
        · refine ⟨?_, ?_, ?_, ?_, trivial⟩
          · exact sv_call rfl rfl rfl rfl rfl (fun _ _ _ h => h) fun ρ β W X cx => ⟨_, _, run_callF (args := #[.int .i64 (((l.getD k 0) % 65536) / 5)]) rfl cx.sees rfl (by kernel_rfl) (map1 (cx.anc 2 rfl)), dig_any (((l.getD k 0) % 65536) / 5) _ (by omega)⟩
          · refine sv_any rfl rfl fun ρ β W X cx => ?_
            have fF55 : ρ (.tmp 55) = .agg #[.int .i64 2, .int .i64 0, .string (digF (((l.getD k 0) % 65536) / 5))] := (cx.anc 4 rfl)
            exact dv_litN (e := 103) (sz := 3) (xs := [.int .i64 2, .int .i64 0, .string (digF (((l.getD k 0) % 65536) / 5))]) rfl (by simp [go_sem, fF55]) rfl (by decide) rfl rfl (fun σ β' X' hs hb hv hx => ⟨hv, hx⟩)
          · refine sv_any rfl rfl fun ρ β W X cx => ?_
            obtain ⟨i0, hi0, hz0, hz1, hz2⟩ := info_parts Tryd.infoVal
            refine dv_appendN (n := k) (m := 1) (nm := k + 1) (sz := 3) (xs := flatR (madeR k l)) (news := [.int .i64 2, .int .i64 0, .string (digF (((l.getD k 0) % 65536) / 5))]) (xs' := flatR (madeR (k + 1) l)) rfl (ty := 25) rfl (by kernel_rfl) hi0 hz0 hz1 hz2 rfl (by decide) (cx.anc 0 rfl) cx (cx.init 0 _ rfl) rfl (dTn (cx.anc 5 rfl)).1 (rfl) (At.of_ownN (cx.row (dTn (cx.anc 5 rfl)).2 rfl)) (by simp [Value.oneCell']) (by simp only [maxLen]; omega) (by omega) rfl rfl rfl (by omega) (by rw [madeR_succ, flatR_snoc]; simp_all [valF, cellsV]) (fun σ β' X' hs hb hv hx => ?_)
            exact ⟨hv, hx⟩
          · exact sv rfl rfl rfl rfl rfl _ (fun _ _ _ h => h) (fun β β' h => by rw [h 57 (by decide)]) fun ρ β W X cx => run_assign' rfl (dTn (cx.anc 6 rfl)).1
        intro σ β X W25 hD hX hst25 fr hfr
        obtain ⟨B56_25, hu_B56_25⟩ : ∃ z, pb' (β 56) = z := ⟨_, rfl⟩
        obtain ⟨A57_25, hu_A57_25⟩ : ∃ z, sA (β 57) = z := ⟨_, rfl⟩
        obtain ⟨c57_25, hu_c57_25⟩ : ∃ z, sC (β 57) = z := ⟨_, rfl⟩
        simp only [zM, exq 1 ((dTn (hD 5 lq)).2), exq 2 ((dTn (hD 6 lq)).2), hu_B56_25, hu_A57_25, hu_c57_25] at hst25
        dsimp only [mgT, vals, List.take, List.drop, List.cons_append, List.nil_append] at hfr
        simp only [ed 56 ((dTn (hD 5 lq)).1), ed 57 ((dTn (hD 6 lq)).1), ed 5 ((dTn (hD 7 lq))), hu_B56_25, hu_A57_25, hu_c57_25] at hfr
        clear hX hD hu_B56_25 hu_A57_25 hu_c57_25; subst hfr; clear σ β X
        refine blk_normal ?_
        refine blk_normal ?_
        refine then_normal ?_
        refine wp_region_P [0, 1, 3] [.k 12 (.int .i64 ((k : Int))), tI 13 ((k : Int) + 1) (by omega), .k 6 (.int .i64 ((k : Int) + 1))] [(6, 2, 1, 7), (5, 0, 2, 7)] hst25 fun W26 hst26 => ?_
        refine then_normal ?_
        refine ⟨n.toNat - ((k + 1)), by omega, ?_⟩
        have hp27 := hst26.pick [1] (by decide) rfl
        exact ⟨(k + 1), A57_25, c57_25, [.int .i64 ((l.getD k 0) % 65536), .int .i64 ((k : Int)), .int .i64 n, .bool (decide ((k : Int) < n)), .int .i64 ((k : Int)), .int .i64 ((k : Int) + 1), .int .i64 ((k : Int)), .slice LA l.length lc, .int .i64 ((l.length : Int)), .bool (decide ((k : Int) < (l.length : Int))), .slice LA l.length lc, .int .i64 ((k : Int)), .pointer (some ((ad LA).add k)), .int .i64 (l.getD k 0), .int .i64 ((l.getD k 0) % 65536), .int .i64 ((l.getD k 0) % 65536), .int .i64 (((l.getD k 0) % 65536) % 5), (u4_.getD 17 undef), (u4_.getD 18 undef), (u4_.getD 19 undef), (u4_.getD 20 undef), (u4_.getD 21 undef), (u4_.getD 22 undef), (u4_.getD 23 undef), (u4_.getD 24 undef), .bool ((((l.getD k 0) % 65536) % 5) == 0), .bool ((((l.getD k 0) % 65536) % 5) == 0), (u4_.getD 27 undef), (u4_.getD 28 undef), (u4_.getD 29 undef), (u4_.getD 30 undef), .bool ((((l.getD k 0) % 65536) % 5) == 1), .bool ((((l.getD k 0) % 65536) % 5) == 1), (u4_.getD 33 undef), (u4_.getD 34 undef), (u4_.getD 35 undef), (u4_.getD 36 undef), (u4_.getD 37 undef), (u4_.getD 38 undef), (u4_.getD 39 undef), (u4_.getD 40 undef), .bool ((((l.getD k 0) % 65536) % 5) == 2), .bool ((((l.getD k 0) % 65536) % 5) == 2), .slice A k c, .int .i64 ((l.getD k 0) % 65536), .int .i64 (((l.getD k 0) % 65536) / 5), .string (digF (((l.getD k 0) % 65536) / 5)), .agg #[.int .i64 2, .int .i64 0, .string (digF (((l.getD k 0) % 65536) / 5))], .slice ((some ⟨B56_25, 0, none⟩)) 1 1, .slice A57_25 (k + 1) c57_25], by omega, hn3, rfl, rfl, hp27⟩
      have hs24p : (((l.getD k 0) % 65536) % 5) ≠ 2 := by simpa using hs24
      refine wp_cond_false (show Act.eval _ _ = .bool false from (congrArg Value.bool hs24)) ?_
      refine wp_region_T [0, 0, 2, 6, 14, 30, 62, 127, 255] [[], [], [], [], [], [], [], [1, 0]] [[], [], [], [], [], [], [1], [2]] [[], [], [], [], [], [], [], [0]] [.k 25 (.slice A k c), .k 26 (.int .i64 ((l.getD k 0) % 65536)), tQu 27 .i64 ((l.getD k 0) % 65536) 5 (((l.getD k 0) % 65536) / 5) (by rw [Int.tdiv_eq_ediv_of_nonneg (by omega)]; exact IntWalk.i64_in _ (by omega)), tRe 28 .i64 (((l.getD k 0) % 65536) / 5) 9 ((((l.getD k 0) % 65536) / 5) % 9) (Int.tmod_eq_emod_of_nonneg (by omega)), tI 29 (((((l.getD k 0) % 65536) / 5) % 9) - 2) (by omega), .k 30 (.agg #[.int .i64 1, .int .i64 ((((l.getD k 0) % 65536) / 5) % 9 - 2), .string ByteArray.empty]), .a 31, .a 32, .a 5] (fun ix σ β X => match ix with | 0 => True | 1 => True | 2 => True | 3 => True | 4 => True | 5 => True | 6 => σ 31 = .slice ((some ⟨(pb' (β 31)), 0, none⟩)) 1 1 ∧ X 1 = eO 103 3 (.slice ((some ⟨(pb' (β 31)), 0, none⟩)) 1 1) 1 ([.int .i64 1, .int .i64 ((((l.getD k 0) % 65536) / 5) % 9 - 2), .string ByteArray.empty]) | 7 => σ 32 = .slice (sA (β 32)) (k + 1) (sC (β 32)) ∧ X 2 = eO 103 3 (.slice (sA (β 32)) (k + 1) (sC (β 32))) (k + 1) (flatR (madeR (k + 1) l)) | 8 => σ 5 = .slice (sA (β 32)) (k + 1) (sC (β 32)) | _ => True) [1, 2] [6, 7, 8] [(5, 8, 1, 6), (19, 0, 8, 27)] hst23 ?_ ?_ ?_
      · exact fun ix _ _ _ _ _ _ hs hb hx h => match ix, h with
        | 6, h => by dsimp only at h ⊢; rw [← hs 31 rfl, ← hb 31 rfl, ← hx 1 rfl]; exact h
        | 7, h => by dsimp only at h ⊢; rw [← hs 32 rfl, ← hb 32 rfl, ← hx 2 rfl]; exact h
        | 8, h => by dsimp only at h ⊢; rw [← hs 5 rfl, ← hb 32 rfl]; exact h
        | 0, _ | 1, _ | 2, _ | 3, _ | 4, _ | 5, _ | _ + 9, _ => trivial
      · refine ⟨?_, ?_, ?_, trivial⟩
        · refine sv_any rfl rfl fun ρ β W X cx => ?_
          have fF30 : ρ (.tmp 30) = .agg #[.int .i64 1, .int .i64 ((((l.getD k 0) % 65536) / 5) % 9 - 2), .string ByteArray.empty] := (cx.anc 5 rfl)
          exact dv_litN (e := 103) (sz := 3) (xs := [.int .i64 1, .int .i64 ((((l.getD k 0) % 65536) / 5) % 9 - 2), .string ByteArray.empty]) rfl (by simp [go_sem, fF30]) rfl (by decide) rfl rfl (fun σ β' X' hs hb hv hx => ⟨hv, hx⟩)
        · refine sv_any rfl rfl fun ρ β W X cx => ?_
          obtain ⟨i0, hi0, hz0, hz1, hz2⟩ := info_parts Tryd.infoVal
          refine dv_appendN (n := k) (m := 1) (nm := k + 1) (sz := 3) (xs := flatR (madeR k l)) (news := [.int .i64 1, .int .i64 ((((l.getD k 0) % 65536) / 5) % 9 - 2), .string ByteArray.empty]) (xs' := flatR (madeR (k + 1) l)) rfl (ty := 25) rfl (by kernel_rfl) hi0 hz0 hz1 hz2 rfl (by decide) (cx.anc 0 rfl) cx (cx.init 0 _ rfl) rfl (dTn (cx.anc 6 rfl)).1 (rfl) (At.of_ownN (cx.row (dTn (cx.anc 6 rfl)).2 rfl)) (by simp [Value.oneCell']) (by simp only [maxLen]; omega) (by omega) rfl rfl rfl (by omega) (by rw [madeR_succ, flatR_snoc]; simp_all [valF, cellsV]) (fun σ β' X' hs hb hv hx => ?_)
          exact ⟨hv, hx⟩
        · exact sv rfl rfl rfl rfl rfl _ (fun _ _ _ h => h) (fun β β' h => by rw [h 32 (by decide)]) fun ρ β W X cx => run_assign' rfl (dTn (cx.anc 7 rfl)).1
      intro σ β X W28 hD hX hst28 fr hfr
      obtain ⟨B31_28, hu_B31_28⟩ : ∃ z, pb' (β 31) = z := ⟨_, rfl⟩
      obtain ⟨A32_28, hu_A32_28⟩ : ∃ z, sA (β 32) = z := ⟨_, rfl⟩
      obtain ⟨c32_28, hu_c32_28⟩ : ∃ z, sC (β 32) = z := ⟨_, rfl⟩
      simp only [zM, exq 1 ((dTn (hD 6 lq)).2), exq 2 ((dTn (hD 7 lq)).2), hu_B31_28, hu_A32_28, hu_c32_28] at hst28
      dsimp only [mgT, vals, List.take, List.drop, List.cons_append, List.nil_append] at hfr
      simp only [ed 31 ((dTn (hD 6 lq)).1), ed 32 ((dTn (hD 7 lq)).1), ed 5 ((dTn (hD 8 lq))), hu_B31_28, hu_A32_28, hu_c32_28] at hfr
      clear hX hD hu_B31_28 hu_A32_28 hu_c32_28; subst hfr; clear σ β X
      refine blk_normal ?_
      refine blk_normal ?_
      refine then_normal ?_
      refine wp_region_P [0, 1, 3] [.k 12 (.int .i64 ((k : Int))), tI 13 ((k : Int) + 1) (by omega), .k 6 (.int .i64 ((k : Int) + 1))] [(6, 2, 1, 7), (5, 0, 2, 7)] hst28 fun W29 hst29 => ?_
      refine then_normal ?_
      refine ⟨n.toNat - ((k + 1)), by omega, ?_⟩
      have hp30 := hst29.pick [1] (by decide) rfl
      exact ⟨(k + 1), A32_28, c32_28, [.int .i64 ((l.getD k 0) % 65536), .int .i64 ((k : Int)), .int .i64 n, .bool (decide ((k : Int) < n)), .int .i64 ((k : Int)), .int .i64 ((k : Int) + 1), .int .i64 ((k : Int)), .slice LA l.length lc, .int .i64 ((l.length : Int)), .bool (decide ((k : Int) < (l.length : Int))), .slice LA l.length lc, .int .i64 ((k : Int)), .pointer (some ((ad LA).add k)), .int .i64 (l.getD k 0), .int .i64 ((l.getD k 0) % 65536), .int .i64 ((l.getD k 0) % 65536), .int .i64 (((l.getD k 0) % 65536) % 5), .slice A k c, .int .i64 ((l.getD k 0) % 65536), .int .i64 (((l.getD k 0) % 65536) / 5), .int .i64 ((((l.getD k 0) % 65536) / 5) % 9), .int .i64 ((((l.getD k 0) % 65536) / 5) % 9 - 2), .agg #[.int .i64 1, .int .i64 ((((l.getD k 0) % 65536) / 5) % 9 - 2), .string ByteArray.empty], .slice ((some ⟨B31_28, 0, none⟩)) 1 1, .slice A32_28 (k + 1) c32_28, .bool ((((l.getD k 0) % 65536) % 5) == 0), .bool ((((l.getD k 0) % 65536) % 5) == 0), (u4_.getD 27 undef), (u4_.getD 28 undef), (u4_.getD 29 undef), (u4_.getD 30 undef), .bool ((((l.getD k 0) % 65536) % 5) == 1), .bool ((((l.getD k 0) % 65536) % 5) == 1), (u4_.getD 33 undef), (u4_.getD 34 undef), (u4_.getD 35 undef), (u4_.getD 36 undef), (u4_.getD 37 undef), (u4_.getD 38 undef), (u4_.getD 39 undef), (u4_.getD 40 undef), .bool ((((l.getD k 0) % 65536) % 5) == 2), .bool ((((l.getD k 0) % 65536) % 5) == 2), (u4_.getD 43 undef), (u4_.getD 44 undef), (u4_.getD 45 undef), (u4_.getD 46 undef), (u4_.getD 47 undef), (u4_.getD 48 undef), (u4_.getD 49 undef)], by omega, hn3, rfl, rfl, hp30⟩
    have hs10p : ¬ ((k : Int) < (l.length : Int)) := by simpa using hs10
    refine wp_cond_false (show Act.eval _ _ = .bool false from (congrArg Value.bool hs10)) ?_
    refine wp_skip ?_
    refine then_normal ?_
    refine wp_seq ?_
    refine wp_region_P [0, 1] [.k 23 (.int .i64 0), tRe 24 .i64 0 5 0 (by decide)] [(23, 0, 2, 25)] hst9 fun W31 hst31 => ?_
    refine then_normal ?_
    refine wp_block ?_
    refine wp_seq ?_
    refine wp_region_P [0, 1] [.k 34 (.bool true), .k 33 (.bool true)] [(33, 1, 1, 34), (0, 0, 1, 1)] hst31 fun W32 hst32 => ?_
    refine then_normal ?_
    refine wp_cond_true (show Act.eval _ _ = .bool true from rfl) ?_
    refine wp_region_T [0, 0, 2, 7, 15] [[], [], [], [1, 0]] [[], [], [1], [2]] [[], [], [], [0]] [.k 35 (.slice A k c), .k 36 (.agg #[.int .i64 0, .int .i64 0, .string ByteArray.empty]), .a 37, .a 38, .a 5] (fun ix σ β X => match ix with | 0 => True | 1 => True | 2 => σ 37 = .slice ((some ⟨(pb' (β 37)), 0, none⟩)) 1 1 ∧ X 1 = eO 103 3 (.slice ((some ⟨(pb' (β 37)), 0, none⟩)) 1 1) 1 ([.int .i64 0, .int .i64 0, .string ByteArray.empty]) | 3 => σ 38 = .slice (sA (β 38)) (k + 1) (sC (β 38)) ∧ X 2 = eO 103 3 (.slice (sA (β 38)) (k + 1) (sC (β 38))) (k + 1) (flatR (madeR (k + 1) l)) | 4 => σ 5 = .slice (sA (β 38)) (k + 1) (sC (β 38)) | _ => True) [1, 2] [2, 3, 4] [(5, 4, 1, 6), (29, 0, 4, 33)] hst32 ?_ ?_ ?_
    · exact fun ix _ _ _ _ _ _ hs hb hx h => match ix, h with
      | 2, h => by dsimp only at h ⊢; rw [← hs 37 rfl, ← hb 37 rfl, ← hx 1 rfl]; exact h
      | 3, h => by dsimp only at h ⊢; rw [← hs 38 rfl, ← hb 38 rfl, ← hx 2 rfl]; exact h
      | 4, h => by dsimp only at h ⊢; rw [← hs 5 rfl, ← hb 38 rfl]; exact h
      | 0, _ | 1, _ | _ + 5, _ => trivial
    · refine ⟨?_, ?_, ?_, trivial⟩
      · refine sv_any rfl rfl fun ρ β W X cx => ?_
        have fF36 : ρ (.tmp 36) = .agg #[.int .i64 0, .int .i64 0, .string ByteArray.empty] := (cx.anc 1 rfl)
        exact dv_litN (e := 103) (sz := 3) (xs := [.int .i64 0, .int .i64 0, .string ByteArray.empty]) rfl (by simp [go_sem, fF36]) rfl (by decide) rfl rfl (fun σ β' X' hs hb hv hx => ⟨hv, hx⟩)
      · refine sv_any rfl rfl fun ρ β W X cx => ?_
        obtain ⟨i0, hi0, hz0, hz1, hz2⟩ := info_parts Tryd.infoVal
        refine dv_appendN (n := k) (m := 1) (nm := k + 1) (sz := 3) (xs := flatR (madeR k l)) (news := [.int .i64 0, .int .i64 0, .string ByteArray.empty]) (xs' := flatR (madeR (k + 1) l)) rfl (ty := 25) rfl (by kernel_rfl) hi0 hz0 hz1 hz2 rfl (by decide) (cx.anc 0 rfl) cx (cx.init 0 _ rfl) rfl (dTn (cx.anc 2 rfl)).1 (rfl) (At.of_ownN (cx.row (dTn (cx.anc 2 rfl)).2 rfl)) (by simp [Value.oneCell']) (by simp only [maxLen]; omega) (by omega) rfl rfl rfl (by omega) (by rw [madeR_succ, flatR_snoc]; simp_all [valF, cellsV]) (fun σ β' X' hs hb hv hx => ?_)
        exact ⟨hv, hx⟩
      · exact sv rfl rfl rfl rfl rfl _ (fun _ _ _ h => h) (fun β β' h => by rw [h 38 (by decide)]) fun ρ β W X cx => run_assign' rfl (dTn (cx.anc 3 rfl)).1
    intro σ β X W33 hD hX hst33 fr hfr
    obtain ⟨B37_33, hu_B37_33⟩ : ∃ z, pb' (β 37) = z := ⟨_, rfl⟩
    obtain ⟨A38_33, hu_A38_33⟩ : ∃ z, sA (β 38) = z := ⟨_, rfl⟩
    obtain ⟨c38_33, hu_c38_33⟩ : ∃ z, sC (β 38) = z := ⟨_, rfl⟩
    simp only [zM, exq 1 ((dTn (hD 2 lq)).2), exq 2 ((dTn (hD 3 lq)).2), hu_B37_33, hu_A38_33, hu_c38_33] at hst33
    dsimp only [mgT, vals, List.take, List.drop, List.cons_append, List.nil_append] at hfr
    simp only [ed 37 ((dTn (hD 2 lq)).1), ed 38 ((dTn (hD 3 lq)).1), ed 5 ((dTn (hD 4 lq))), hu_B37_33, hu_A38_33, hu_c38_33] at hfr
    clear hX hD hu_B37_33 hu_A38_33 hu_c38_33; subst hfr; clear σ β X
    refine blk_normal ?_
    refine blk_normal ?_
    refine then_normal ?_
    refine wp_region_P [0, 1, 3] [.k 12 (.int .i64 ((k : Int))), tI 13 ((k : Int) + 1) (by omega), .k 6 (.int .i64 ((k : Int) + 1))] [(6, 2, 1, 7), (5, 0, 2, 7)] hst33 fun W34 hst34 => ?_
    refine then_normal ?_
    refine ⟨n.toNat - ((k + 1)), by omega, ?_⟩
    have hp35 := hst34.pick [1] (by decide) rfl
    exact ⟨(k + 1), A38_33, c38_33, [.int .i64 0, .int .i64 ((k : Int)), .int .i64 n, .bool (decide ((k : Int) < n)), .int .i64 ((k : Int)), .int .i64 ((k : Int) + 1), .int .i64 ((k : Int)), .slice LA l.length lc, .int .i64 ((l.length : Int)), .bool (decide ((k : Int) < (l.length : Int))), (u4_.getD 10 undef), (u4_.getD 11 undef), (u4_.getD 12 undef), (u4_.getD 13 undef), (u4_.getD 14 undef), .int .i64 0, .int .i64 0, (u4_.getD 17 undef), (u4_.getD 18 undef), (u4_.getD 19 undef), (u4_.getD 20 undef), (u4_.getD 21 undef), (u4_.getD 22 undef), (u4_.getD 23 undef), (u4_.getD 24 undef), .bool true, .bool true, .slice A k c, .agg #[.int .i64 0, .int .i64 0, .string ByteArray.empty], .slice ((some ⟨B37_33, 0, none⟩)) 1 1, .slice A38_33 (k + 1) c38_33, (u4_.getD 31 undef), (u4_.getD 32 undef), (u4_.getD 33 undef), (u4_.getD 34 undef), (u4_.getD 35 undef), (u4_.getD 36 undef), (u4_.getD 37 undef), (u4_.getD 38 undef), (u4_.getD 39 undef), (u4_.getD 40 undef), (u4_.getD 41 undef), (u4_.getD 42 undef), (u4_.getD 43 undef), (u4_.getD 44 undef), (u4_.getD 45 undef), (u4_.getD 46 undef), (u4_.getD 47 undef), (u4_.getD 48 undef), (u4_.getD 49 undef)], by omega, hn3, rfl, rfl, hp35⟩
  have hs7p : ¬ ((k : Int) < n) := by simpa using hs7
  refine wp_cond_false (show Act.eval _ _ = .bool false from (congrArg Value.bool hs7)) ?_
  refine wp_exit ?_
  refine then_exit ?_
  refine then_exit ?_
  refine blk_eq ?_
  refine then_normal ?_
  refine wp_seq ?_
  refine wp_region_P [0, 1] [.k 58 (.slice A k c), .k 4 (.slice A k c)] [(4, 1, 1, 5), (53, 0, 1, 54)] hst6 fun W36 hst36 => ?_
  refine then_normal ?_
  refine wp_ret ?_
  refine bodyPost_ret (v := .slice A k c) (results_tmp Tryd.results49 rfl) rfl ?_
  exact ⟨_, _, by rw [madeR_len, show n.toNat = k by omega], by rw [madeR_len, show n.toNat = k by omega]; exact hst36.own' 0 rfl, hst36.ext⟩

end Go.Proofs.YtfjpglohcppjeaaDoor

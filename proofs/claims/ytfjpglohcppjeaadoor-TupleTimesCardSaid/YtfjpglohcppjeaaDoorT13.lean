/- law08's sanity. -/
import Derived.Test.YtfjpglohcppjeaaDoorT12
import Derived.Test.YtfjpglohcppjeaaDoorT6
namespace Go.Proofs.YtfjpglohcppjeaaDoor
open Go.RowKit
set_option linter.unusedVariables false
set_option linter.unusedSimpArgs false

abbrev s7 : ByteArray := ⟨#[2, 7, 0, 2, 2, 1, 0, 1, 0]⟩
theorem n70 : numS s7 0 1 = 2 := by kernel_rfl
theorem n71 : numS s7 1 1 = 7 := by kernel_rfl
theorem n72 : numS s7 2 2 = 2 := by kernel_rfl
theorem n74 : numS s7 4 1 = 2 := by kernel_rfl
theorem n75 : numS s7 5 1 = 1 := by kernel_rfl
theorem n76 : numS s7 6 2 = 1 := by kernel_rfl
theorem t76 : textS s7 6 = strL [0] := by kernel_rfl
theorem m76 : numS (s7.extract 0 8) 6 2 = 1 := by kernel_rfl
theorem z8 : (s7.extract 0 8).size = 8 := by kernel_rfl
theorem tb7 : tbytesF 2 7 1 2 true [] = s7 := by kernel_rfl
theorem tread7 (w : World) (hN : NoneAt w) : Calls Tryd.prog 15 #[.string s7] w (VerRd 2 7 1 2 true [] 0 w) := by
  have h := tread_good s7 [] w (by decide) (by decide) (by rw [n76]; decide) (by simp) hN (by rw [t76]; exact vread_nil') (by rw [n70, n71, n72, n74, n75]; exact tb7)
  rw [n70, n71, n72, n74, n75] at h
  exact h
theorem tread8 (w : World) : Calls Tryd.prog 15 #[.string (s7.extract 0 8)] w (Ret (.tuple #[.agg #[.int .i64 0, .int .i64 0, .int .i64 0, .int .i64 0, .bool false, .slice none 0 0], .int .i64 10]) w) :=
  tread_short (s7.extract 0 8) w (by rw [z8]; decide) (by rw [z8]; decide) (by rw [z8, m76]; decide)
set_option maxRecDepth 100000 in
set_option maxHeartbeats 2000000 in
theorem sanity_any  (w : World) (hN : NoneAt w) :
    Calls Tryd.prog 12 #[] w (Ret (.bool true) w) := by
  go_enter Tryd.func12, Tryd.ntmps12
  have hst0 := St.start w
  refine wp_seq ?_
  refine wp_region_P [0] [.k 0 (.bool false)] [(0, 0, 1, 1)] hst0 fun W1 hst1 => ?_
  refine then_normal ?_
  refine wp_seq ?_
  refine wp_region_T [0, 1] [] [[0]] [] [.a 16, .a 1] (fun ix σ β X => match ix with | 0 => σ 16 = .slice (sA (β 16)) 4 4 ∧ X 0 = eO 5 1 (.slice (sA (β 16)) 4 4) 4 ([.int .u8 1, .int .u8 1, .int .u8 2, .int .u8 1]) | 1 => σ 1 = .slice (sA (β 16)) 4 4 | _ => True) [0] [0, 1] [(1, 1, 1, 2), (14, 0, 1, 15)] hst1 ?_ ?_ ?_
  · exact fun ix _ _ _ _ _ _ hs hb hx h => match ix, h with
    | 0, h => by dsimp only at h ⊢; rw [← hs 16 rfl, ← hb 16 rfl, ← hx 0 rfl]; exact h
    | 1, h => by dsimp only at h ⊢; rw [← hs 1 rfl, ← hb 16 rfl]; exact h
    | _ + 2, _ => trivial
  · refine ⟨?_, ?_, trivial⟩
    · refine sv_any rfl rfl fun ρ β W X cx => ?_
      exact dv_lit (e := 5) (xs := [.int .u8 1, .int .u8 1, .int .u8 2, .int .u8 1]) rfl (by simp [go_sem, cx.sees.const]) rfl (by decide) rfl rfl (fun σ β' X' hs hb hv hx => ⟨hv, hx⟩)
    · exact sv rfl rfl rfl rfl rfl _ (fun _ _ _ h => h) (fun β β' h => by rw [h 16 (by decide)]) fun ρ β W X cx => run_assign' rfl (dTn (cx.anc 0 rfl)).1
  intro σ β X W2 hD hX hst2 fr hfr
  obtain ⟨A16_2, hu_A16_2⟩ : ∃ z, sA (β 16) = z := ⟨_, rfl⟩
  simp only [zM, exq 0 ((dTn (hD 0 lq)).2), hu_A16_2] at hst2
  dsimp only [mgT, vals, List.take, List.drop, List.cons_append, List.nil_append] at hfr
  simp only [ed 16 ((dTn (hD 0 lq)).1), ed 1 ((dTn (hD 1 lq))), hu_A16_2] at hfr
  clear hX hD hu_A16_2; subst hfr; clear σ β X
  refine then_normal ?_
  refine wp_seq ?_
  refine wp_region_T [0, 1, 0, 7] [[], [], [], [1]] [[], [], [1], [2]] [[], [], [], [1]] [.k 17 (.agg #[.int .i64 (-1), .int .i64 0]), .k 18 (.agg #[.int .i64 5, .int .i64 0, .int .i64 (-1), .int .i64 0, .bool false, .slice none 0 0]), .a 2, .n] (fun ix σ β X => match ix with | 0 => True | 1 => True | 2 => σ 2 = .pointer (some ⟨(pb (β 2)), 0, none⟩) ∧ X 1 = eB (pb (β 2)) 27 #[.int .i64 0, .int .i64 0, .int .i64 0, .int .i64 0, .bool false, .slice none 0 0] | 3 => X 2 = eB (pb (β 2)) 27 #[.int .i64 5, .int .i64 0, .int .i64 (-1), .int .i64 0, .bool false, .slice none 0 0] | _ => True) [0, 2] [2, 3] [(2, 2, 1, 3), (14, 0, 2, 16)] hst2 ?_ ?_ ?_
  · exact fun ix _ _ _ _ _ _ hs hb hx h => match ix, h with
    | 2, h => by dsimp only at h ⊢; rw [← hs 2 rfl, ← hb 2 rfl, ← hx 1 rfl]; exact h
    | 3, h => by dsimp only at h ⊢; rw [← hb 2 rfl, ← hx 2 rfl]; exact h
    | 0, _ | 1, _ | _ + 4, _ => trivial
  · refine ⟨?_, ?_, trivial⟩
    · refine sv_any rfl rfl fun ρ β W X cx => ?_
      exact dv_alloc (cs := #[.int .i64 0, .int .i64 0, .int .i64 0, .int .i64 0, .bool false, .slice none 0 0]) rfl (by kernel_rfl) rfl rfl (fun σ β' X' hs hb hv hx => ⟨hv, hx⟩)
    · refine sv_any rfl rfl fun ρ β W X cx => ?_
      exact dv_store (n := 6) rfl (dTn (cx.anc 2 rfl)).1 (cx.anc 1 rfl) (by kernel_rfl) (by kernel_rfl) (by kernel_rfl) cx (dTn (cx.anc 2 rfl)).2 rfl (Nat.le_of_ble_eq_true rfl) (by kernel_rfl) rfl rfl rfl (fun σ β' X' hs hb hx => by rw [hb 2]; exact hx)
  intro σ β X W3 hD hX hst3 fr hfr
  obtain ⟨B2_3, hu_B2_3⟩ : ∃ z, pb (β 2) = z := ⟨_, rfl⟩
  simp only [zM, exq 0 (hX 0 _ rfl), exq 2 ((dTn (hD 3 lq))), hu_B2_3] at hst3
  dsimp only [mgT, vals, List.take, List.drop, List.cons_append, List.nil_append] at hfr
  simp only [ed 2 ((dTn (hD 2 lq)).1), hu_B2_3] at hfr
  clear hX hD hu_B2_3; subst hfr; clear σ β X
  refine then_normal ?_
  refine wp_seq ?_
  refine wp_region_T [0, 1, 0, 7] [[], [], [], [2]] [[], [], [2], [3]] [[], [], [], [2]] [.k 19 (.agg #[.int .i64 1, .int .i64 2]), .k 20 (.agg #[.int .i64 2, .int .i64 7, .int .i64 1, .int .i64 2, .bool true, .slice none 0 0]), .a 3, .n] (fun ix σ β X => match ix with | 0 => True | 1 => True | 2 => σ 3 = .pointer (some ⟨(pb (β 3)), 0, none⟩) ∧ X 2 = eB (pb (β 3)) 27 #[.int .i64 0, .int .i64 0, .int .i64 0, .int .i64 0, .bool false, .slice none 0 0] | 3 => X 3 = eB (pb (β 3)) 27 #[.int .i64 2, .int .i64 7, .int .i64 1, .int .i64 2, .bool true, .slice none 0 0] | _ => True) [0, 1, 3] [2, 3] [(3, 2, 1, 4), (15, 0, 2, 17)] hst3 ?_ ?_ ?_
  · exact fun ix _ _ _ _ _ _ hs hb hx h => match ix, h with
    | 2, h => by dsimp only at h ⊢; rw [← hs 3 rfl, ← hb 3 rfl, ← hx 2 rfl]; exact h
    | 3, h => by dsimp only at h ⊢; rw [← hb 3 rfl, ← hx 3 rfl]; exact h
    | 0, _ | 1, _ | _ + 4, _ => trivial
  · refine ⟨?_, ?_, trivial⟩
    · refine sv_any rfl rfl fun ρ β W X cx => ?_
      exact dv_alloc (cs := #[.int .i64 0, .int .i64 0, .int .i64 0, .int .i64 0, .bool false, .slice none 0 0]) rfl (by kernel_rfl) rfl rfl (fun σ β' X' hs hb hv hx => ⟨hv, hx⟩)
    · refine sv_any rfl rfl fun ρ β W X cx => ?_
      exact dv_store (n := 6) rfl (dTn (cx.anc 2 rfl)).1 (cx.anc 1 rfl) (by kernel_rfl) (by kernel_rfl) (by kernel_rfl) cx (dTn (cx.anc 2 rfl)).2 rfl (Nat.le_of_ble_eq_true rfl) (by kernel_rfl) rfl rfl rfl (fun σ β' X' hs hb hx => by rw [hb 3]; exact hx)
  intro σ β X W4 hD hX hst4 fr hfr
  obtain ⟨B3_4, hu_B3_4⟩ : ∃ z, pb (β 3) = z := ⟨_, rfl⟩
  simp only [zM, exq 0 (hX 0 _ rfl), exq 1 (hX 1 _ rfl), exq 3 ((dTn (hD 3 lq))), hu_B3_4] at hst4
  dsimp only [mgT, vals, List.take, List.drop, List.cons_append, List.nil_append] at hfr
  simp only [ed 3 ((dTn (hD 2 lq)).1), hu_B3_4] at hfr
  clear hX hD hu_B3_4; subst hfr; clear σ β X
  refine then_normal ?_
  refine wp_seq ?_
  refine wp_region_T [0, 0, 0, 4, 15, 31, 63, 63, 127, 511] [[1], [], [], [], [0]] [] [] [.c 22 (.agg #[.int .i64 5, .int .i64 0, .int .i64 (-1), .int .i64 0, .bool false, .slice none 0 0]), .k 23 (.agg #[.int .i64 5, .slice none 0 0]), .k 24 (.slice A16_2 4 4), .c 25 (.iface 43 (.slice A16_2 4 4)), .c 26 (.tuple #[.int .i64 (bes1F 5 ([] : List Int) ([] : List Int) (standF [1, 1, 2, 1]) 5), .int .i64 (bes2F 5 ([] : List Int) ([] : List Int) (standF [1, 1, 2, 1]) 0)]), .k 21 (.tuple #[.int .i64 (bes1F 5 ([] : List Int) ([] : List Int) (standF [1, 1, 2, 1]) 5), .int .i64 (bes2F 5 ([] : List Int) ([] : List Int) (standF [1, 1, 2, 1]) 0)]), .k 27 (.int .i64 (bes1F 5 ([] : List Int) ([] : List Int) (standF [1, 1, 2, 1]) 5)), .k 28 (.int .i64 (bes2F 5 ([] : List Int) ([] : List Int) (standF [1, 1, 2, 1]) 0)), .k 4 (.int .i64 (bes1F 5 ([] : List Int) ([] : List Int) (standF [1, 1, 2, 1]) 5)), .k 5 (.int .i64 (bes2F 5 ([] : List Int) ([] : List Int) (standF [1, 1, 2, 1]) 0))] (fun _ _ _ _ => True) [0, 1, 2] [0, 3, 4] [(4, 8, 2, 6), (15, 5, 1, 16), (0, 0, 5, 5), (0, 6, 2, 2)] hst4 ?_ ?_ ?_
  · exact fun _ _ _ _ _ _ _ _ _ _ h => h
  · refine ⟨?_, ?_, ?_, trivial⟩
    · exact s4 rfl (fun _ _ _ h => h) fun cx => run_loadB (n := 6) rfl (by kernel_rfl) (by kernel_rfl) (cx.out 2 rfl) (cx.blk (cx.init 1 _ rfl) rfl) (Nat.le_of_ble_eq_true rfl) rfl
    · exact sv0 rfl rfl rfl rfl rfl (fun _ _ _ h => h) fun ρ β W X cx => by
        have fF24 : ρ (.tmp 24) = .slice A16_2 4 4 := (cx.anc 2 rfl)
        simp [go_sem, fF24]
    · exact sv_call rfl rfl rfl rfl rfl (fun _ _ _ h => h) fun ρ β W X cx => ⟨_, _, run_callF (args := #[.agg #[.int .i64 5, .int .i64 0, .int .i64 (-1), .int .i64 0, .bool false, .slice none 0 0], .agg #[.int .i64 5, .slice none 0 0], .slice none 0 0, .iface 43 (.slice A16_2 4 4)]) rfl cx.sees rfl (by kernel_rfl) (map4 (cx.anc 0 rfl) (cx.anc 1 rfl) (cx.sees.const _) (cx.anc 3 rfl)), beside_any _ _ _ _ _ _ _ _ _ _ _ ([] : List Int) _ _ ([] : List Int) _ _ _ _ (At.nil _ _) (by first | omega | decide | (simp; done) | (simp; omega)) (At.nil _ _) (by first | omega | decide | (simp; done) | (simp; omega)) (stand_ok _ _ _ [1, 1, 2, 1] _ (rfl) (At.of_own (cx.row (cx.init 0 _ rfl) rfl)) (by decide))⟩
  intro σ β X W5 hD hX hst5 fr hfr
  simp only [zM, exq 0 (hX 0 _ rfl), exq 1 (hX 1 _ rfl), exq 2 (hX 2 _ rfl)] at hst5
  dsimp only [mgT, vals, List.take, List.drop, List.cons_append, List.nil_append] at hfr
  clear hX hD; subst hfr; clear σ β X
  refine then_normal ?_
  refine wp_seq ?_
  refine wp_region_T [0, 0, 0, 4, 15, 31, 63, 63, 127, 511] [[2], [], [], [], [0]] [] [] [.c 30 (.agg #[.int .i64 2, .int .i64 7, .int .i64 1, .int .i64 2, .bool true, .slice none 0 0]), .k 31 (.agg #[.int .i64 9, .slice none 0 0]), .k 32 (.slice A16_2 4 4), .c 33 (.iface 43 (.slice A16_2 4 4)), .c 34 (.tuple #[.int .i64 (bes1F 9 ([] : List Int) ([] : List Int) (standF [1, 1, 2, 1]) 2), .int .i64 (bes2F 9 ([] : List Int) ([] : List Int) (standF [1, 1, 2, 1]) 7)]), .k 29 (.tuple #[.int .i64 (bes1F 9 ([] : List Int) ([] : List Int) (standF [1, 1, 2, 1]) 2), .int .i64 (bes2F 9 ([] : List Int) ([] : List Int) (standF [1, 1, 2, 1]) 7)]), .k 35 (.int .i64 (bes1F 9 ([] : List Int) ([] : List Int) (standF [1, 1, 2, 1]) 2)), .k 36 (.int .i64 (bes2F 9 ([] : List Int) ([] : List Int) (standF [1, 1, 2, 1]) 7)), .k 6 (.int .i64 (bes1F 9 ([] : List Int) ([] : List Int) (standF [1, 1, 2, 1]) 2)), .k 7 (.int .i64 (bes2F 9 ([] : List Int) ([] : List Int) (standF [1, 1, 2, 1]) 7))] (fun _ _ _ _ => True) [0, 1, 2] [0, 3, 4] [(6, 8, 2, 8), (21, 5, 1, 22), (0, 0, 5, 5), (0, 6, 2, 2)] hst5 ?_ ?_ ?_
  · exact fun _ _ _ _ _ _ _ _ _ _ h => h
  · refine ⟨?_, ?_, ?_, trivial⟩
    · exact s4 rfl (fun _ _ _ h => h) fun cx => run_loadB (n := 6) rfl (by kernel_rfl) (by kernel_rfl) (cx.out 3 rfl) (cx.blk (cx.init 2 _ rfl) rfl) (Nat.le_of_ble_eq_true rfl) rfl
    · exact sv0 rfl rfl rfl rfl rfl (fun _ _ _ h => h) fun ρ β W X cx => by
        have fF32 : ρ (.tmp 32) = .slice A16_2 4 4 := (cx.anc 2 rfl)
        simp [go_sem, fF32]
    · exact sv_call rfl rfl rfl rfl rfl (fun _ _ _ h => h) fun ρ β W X cx => ⟨_, _, run_callF (args := #[.agg #[.int .i64 2, .int .i64 7, .int .i64 1, .int .i64 2, .bool true, .slice none 0 0], .agg #[.int .i64 9, .slice none 0 0], .slice none 0 0, .iface 43 (.slice A16_2 4 4)]) rfl cx.sees rfl (by kernel_rfl) (map4 (cx.anc 0 rfl) (cx.anc 1 rfl) (cx.sees.const _) (cx.anc 3 rfl)), beside_any _ _ _ _ _ _ _ _ _ _ _ ([] : List Int) _ _ ([] : List Int) _ _ _ _ (At.nil _ _) (by first | omega | decide | (simp; done) | (simp; omega)) (At.nil _ _) (by first | omega | decide | (simp; done) | (simp; omega)) (stand_ok _ _ _ [1, 1, 2, 1] _ (rfl) (At.of_own (cx.row (cx.init 0 _ rfl) rfl)) (by decide))⟩
  intro σ β X W6 hD hX hst6 fr hfr
  simp only [zM, exq 0 (hX 0 _ rfl), exq 1 (hX 1 _ rfl), exq 2 (hX 2 _ rfl)] at hst6
  dsimp only [mgT, vals, List.take, List.drop, List.cons_append, List.nil_append] at hfr
  clear hX hD; subst hfr; clear σ β X
  refine then_normal ?_
  refine wp_seq ?_
  refine wp_region_P [0] [.k 8 (.string ⟨#[2, 7, 0, 2, 2, 1, 0, 1, 0]⟩)] [(8, 0, 1, 9)] hst6 fun W7 hst7 => ?_
  refine then_normal ?_
  refine wp_seq ?_
  refine wp_region_T [0, 1, 3, 7, 7, 0, 47, 127] [[], [], [], [], [], [], [4]] [[], [3], [], [], [], [4], [5]] [[], [], [], [], [], [], [4]] [.k 38 (.string ⟨#[2, 7, 0, 2, 2, 1, 0, 1, 0]⟩), .a 39, .a 37, .a 40, .c 41 (.int .i64 0), .a 9, .n, .k 10 (.int .i64 0)] (fun ix σ β X => match ix with | 0 => True | 1 => σ 39 = .tuple #[.agg #[.int .i64 2, .int .i64 7, .int .i64 1, .int .i64 2, .bool true, .slice (sA (tg (tg (β 39) 0) 5)) 0 (sC (tg (tg (β 39) 0) 5))], .int .i64 0] ∧ X 3 = eO 103 3 (.slice (sA (tg (tg (β 39) 0) 5)) 0 (sC (tg (tg (β 39) 0) 5))) 0 (flatR ([] : List Val)) | 2 => σ 37 = .tuple #[.agg #[.int .i64 2, .int .i64 7, .int .i64 1, .int .i64 2, .bool true, .slice (sA (tg (tg (β 39) 0) 5)) 0 (sC (tg (tg (β 39) 0) 5))], .int .i64 0] | 3 => σ 40 = .agg #[.int .i64 2, .int .i64 7, .int .i64 1, .int .i64 2, .bool true, .slice (sA (tg (tg (β 39) 0) 5)) 0 (sC (tg (tg (β 39) 0) 5))] | 4 => True | 5 => σ 9 = .pointer (some ⟨(pb (β 9)), 0, none⟩) ∧ X 4 = eB (pb (β 9)) 27 #[.int .i64 0, .int .i64 0, .int .i64 0, .int .i64 0, .bool false, .slice none 0 0] | 6 => X 5 = eB (pb (β 9)) 27 #[.int .i64 2, .int .i64 7, .int .i64 1, .int .i64 2, .bool true, .slice (sA (tg (tg (β 39) 0) 5)) 0 (sC (tg (tg (β 39) 0) 5))] | _ => True) [0, 1, 2, 3, 5] [1, 2, 3, 4, 5, 6] [(9, 5, 3, 11), (26, 2, 1, 27), (0, 0, 2, 2), (0, 3, 2, 2)] hst7 ?_ ?_ ?_
  · exact fun ix _ _ _ _ _ _ hs hb hx h => match ix, h with
    | 1, h => by dsimp only at h ⊢; rw [← hs 39 rfl, ← hb 39 rfl, ← hx 3 rfl]; exact h
    | 2, h => by dsimp only at h ⊢; rw [← hs 37 rfl, ← hb 39 rfl]; exact h
    | 3, h => by dsimp only at h ⊢; rw [← hs 40 rfl, ← hb 39 rfl]; exact h
    | 5, h => by dsimp only at h ⊢; rw [← hs 9 rfl, ← hb 9 rfl, ← hx 4 rfl]; exact h
    | 6, h => by dsimp only at h ⊢; rw [← hb 9 rfl, ← hb 39 rfl, ← hx 5 rfl]; exact h
    | 0, _ | 4, _ | _ + 7, _ => trivial
  · refine ⟨?_, ?_, ?_, ?_, ?_, ?_, trivial⟩
    · refine sv_any rfl rfl fun ρ β W X cx => ?_
      refine DoesU.call (run_callF (args := #[.string ⟨#[2, 7, 0, 2, 2, 1, 0, 1, 0]⟩]) rfl cx.sees rfl (by kernel_rfl) (map1 (cx.anc 0 rfl))) ?_
      refine (tread7 _ (hN.ext cx.upd.to_ext)).mono ?_
      rintro e W1 ⟨A4, c4, rfl, ho, hx⟩
      refine ⟨_, rfl, post_call [eO 103 3 (.slice A4 0 c4) 0 (flatR ([] : List Val))] rfl rfl hx (one_new (eO_new ho)) (List.pairwise_singleton _ _) (fun σ β' X' hs hb hv hN => ?_)⟩
      have hv1 := (hv 39 rfl).1; have hv2 := (hv 39 rfl).2
      exact ⟨hv1.trans (by rw [hv2]; rfl), (by rw [hv2]; exact (List.cons.inj hN).1)⟩
    · exact sv rfl rfl rfl rfl rfl _ (fun _ _ _ h => h) (fun β β' h => by rw [h 39 (by decide)]) fun ρ β W X cx => run_move' rfl (dTn (cx.anc 1 rfl)).1
    · exact sv rfl rfl rfl rfl rfl _ (fun _ _ _ h => h) (fun β β' h => by rw [h 39 (by decide)]) fun ρ β W X cx => run_extract' rfl (dTn (cx.anc 2 rfl)) rfl
    · exact s4 rfl (fun _ _ _ h => h) fun cx => run_extract' rfl (dTn (cx.anc 2 rfl)) rfl
    · refine sv_any rfl rfl fun ρ β W X cx => ?_
      exact dv_alloc (cs := #[.int .i64 0, .int .i64 0, .int .i64 0, .int .i64 0, .bool false, .slice none 0 0]) rfl (by kernel_rfl) rfl rfl (fun σ β' X' hs hb hv hx => ⟨hv, hx⟩)
    · refine sv_any rfl rfl fun ρ β W X cx => ?_
      exact dv_store (n := 6) rfl (dTn (cx.anc 5 rfl)).1 (dTn (cx.anc 3 rfl)) (by kernel_rfl) (by kernel_rfl) (by kernel_rfl) cx (dTn (cx.anc 5 rfl)).2 rfl (Nat.le_of_ble_eq_true rfl) (by kernel_rfl) rfl rfl rfl (fun σ β' X' hs hb hx => by rw [hb 9, hb 39]; exact hx)
  intro σ β X W8 hD hX hst8 fr hfr
  obtain ⟨A39_8, hu_A39_8⟩ : ∃ z, sA (tg (tg (β 39) 0) 5) = z := ⟨_, rfl⟩
  obtain ⟨c39_8, hu_c39_8⟩ : ∃ z, sC (tg (tg (β 39) 0) 5) = z := ⟨_, rfl⟩
  obtain ⟨B9_8, hu_B9_8⟩ : ∃ z, pb (β 9) = z := ⟨_, rfl⟩
  simp only [zM, exq 0 (hX 0 _ rfl), exq 1 (hX 1 _ rfl), exq 2 (hX 2 _ rfl), exq 3 ((dTn (hD 1 lq)).2), exq 5 ((dTn (hD 6 lq))), hu_A39_8, hu_c39_8, hu_B9_8] at hst8
  dsimp only [mgT, vals, List.take, List.drop, List.cons_append, List.nil_append] at hfr
  simp only [ed 39 ((dTn (hD 1 lq)).1), ed 37 ((dTn (hD 2 lq))), ed 40 ((dTn (hD 3 lq))), ed 9 ((dTn (hD 5 lq)).1), hu_A39_8, hu_c39_8, hu_B9_8] at hfr
  clear hX hD hu_A39_8 hu_c39_8 hu_B9_8; subst hfr; clear σ β X
  refine then_normal ?_
  refine wp_seq ?_
  refine wp_region_T [0, 1, 3, 7, 15, 15, 0, 95, 255] [[], [], [], [], [], [], [], [5]] [[], [], [], [], [], [], [5], [6]] [[], [], [], [], [], [], [], [5]] [.k 43 (.string ⟨#[2, 7, 0, 2, 2, 1, 0, 1, 0]⟩), .c 44 (.string (((⟨#[2, 7, 0, 2, 2, 1, 0, 1, 0]⟩ : ByteArray)).extract 0 8)), .c 45 (.tuple #[.agg #[.int .i64 0, .int .i64 0, .int .i64 0, .int .i64 0, .bool false, .slice none 0 0], .int .i64 10]), .k 42 (.tuple #[.agg #[.int .i64 0, .int .i64 0, .int .i64 0, .int .i64 0, .bool false, .slice none 0 0], .int .i64 10]), .k 46 (.agg #[.int .i64 0, .int .i64 0, .int .i64 0, .int .i64 0, .bool false, .slice none 0 0]), .k 47 (.int .i64 10), .a 11, .n, .k 12 (.int .i64 10)] (fun ix σ β X => match ix with | 0 => True | 1 => True | 2 => True | 3 => True | 4 => True | 5 => True | 6 => σ 11 = .pointer (some ⟨(pb (β 11)), 0, none⟩) ∧ X 5 = eB (pb (β 11)) 27 #[.int .i64 0, .int .i64 0, .int .i64 0, .int .i64 0, .bool false, .slice none 0 0] | 7 => X 6 = eB (pb (β 11)) 27 #[.int .i64 0, .int .i64 0, .int .i64 0, .int .i64 0, .bool false, .slice none 0 0] | _ => True) [0, 1, 2, 3, 4, 6] [1, 2, 6, 7] [(11, 6, 3, 13), (29, 3, 1, 30), (0, 0, 3, 3), (0, 4, 2, 2)] hst8 ?_ ?_ ?_
  · exact fun ix _ _ _ _ _ _ hs hb hx h => match ix, h with
    | 6, h => by dsimp only at h ⊢; rw [← hs 11 rfl, ← hb 11 rfl, ← hx 5 rfl]; exact h
    | 7, h => by dsimp only at h ⊢; rw [← hb 11 rfl, ← hx 6 rfl]; exact h
    | 0, _ | 1, _ | 2, _ | 3, _ | 4, _ | 5, _ | _ + 8, _ => trivial
  · refine ⟨?_, ?_, ?_, ?_, trivial⟩
    · exact s4 rfl (fun _ _ _ h => h) fun cx => run_slice_hi (l := 8) rfl (by kernel_rfl) (cx.anc 0 rfl) (cx.sees.const _) (by omega) (by first | omega | decide)
    · exact sv_call rfl rfl rfl rfl rfl (fun _ _ _ h => h) fun ρ β W X cx => ⟨_, _, run_callF (args := #[.string (((⟨#[2, 7, 0, 2, 2, 1, 0, 1, 0]⟩ : ByteArray)).extract 0 8)]) rfl cx.sees rfl (by kernel_rfl) (map1 (cx.anc 1 rfl)), tread8 _⟩
    · refine sv_any rfl rfl fun ρ β W X cx => ?_
      exact dv_alloc (cs := #[.int .i64 0, .int .i64 0, .int .i64 0, .int .i64 0, .bool false, .slice none 0 0]) rfl (by kernel_rfl) rfl rfl (fun σ β' X' hs hb hv hx => ⟨hv, hx⟩)
    · refine sv_any rfl rfl fun ρ β W X cx => ?_
      exact dv_store (n := 6) rfl (dTn (cx.anc 6 rfl)).1 (cx.anc 4 rfl) (by kernel_rfl) (by kernel_rfl) (by kernel_rfl) cx (dTn (cx.anc 6 rfl)).2 rfl (Nat.le_of_ble_eq_true rfl) (by kernel_rfl) rfl rfl rfl (fun σ β' X' hs hb hx => by rw [hb 11]; exact hx)
  intro σ β X W9 hD hX hst9 fr hfr
  obtain ⟨B11_9, hu_B11_9⟩ : ∃ z, pb (β 11) = z := ⟨_, rfl⟩
  simp only [zM, exq 0 (hX 0 _ rfl), exq 1 (hX 1 _ rfl), exq 2 (hX 2 _ rfl), exq 3 (hX 3 _ rfl), exq 4 (hX 4 _ rfl), exq 6 ((dTn (hD 7 lq))), hu_B11_9] at hst9
  dsimp only [mgT, vals, List.take, List.drop, List.cons_append, List.nil_append] at hfr
  simp only [ed 11 ((dTn (hD 6 lq)).1), hu_B11_9] at hfr
  clear hX hD hu_B11_9; subst hfr; clear σ β X
  refine then_normal ?_
  refine wp_seq ?_
  have hd11 : (oldF (standF [1, 1, 2, 1]) 6 5 || fzX (standF [1, 1, 2, 1]) 0) = true := by decide
  refine wp_region_T [0, 0, 2, 7, 15, 31, 31, 0, 191, 511] [[1], [], [], [0], [], [], [], [], [7]] [[], [], [], [6], [], [], [], [7], [8]] [[], [], [], [], [], [], [], [], [7]] [.c 49 (.agg #[.int .i64 5, .int .i64 0, .int .i64 (-1), .int .i64 0, .bool false, .slice none 0 0]), .k 50 (.slice A16_2 4 4), .c 51 (.iface 43 (.slice A16_2 4 4)), .a 52, .a 48, .a 53, .c 54 (.bool true), .a 13, .n, .k 14 (.bool true)] (fun ix σ β X => match ix with | 0 => True | 1 => True | 2 => True | 3 => σ 52 = .tuple #[.agg #[.int .i64 (fzA 6 (standF [1, 1, 2, 1]) 5), .int .i64 (if fzX (standF [1, 1, 2, 1]) 0 then 0 else 0), .int .i64 (if fzX (standF [1, 1, 2, 1]) 0 then -1 else (-1)), .int .i64 (if fzX (standF [1, 1, 2, 1]) 0 then 0 else 0), .bool false, .slice (sA (tg (tg (β 52) 0) 5)) 0 (sC (tg (tg (β 52) 0) 5))], .bool (oldF (standF [1, 1, 2, 1]) 6 5 || fzX (standF [1, 1, 2, 1]) 0)] ∧ X 6 = eO 103 3 (.slice (sA (tg (tg (β 52) 0) 5)) 0 (sC (tg (tg (β 52) 0) 5))) 0 (flatR ([] : List Val)) | 4 => σ 48 = .tuple #[.agg #[.int .i64 (fzA 6 (standF [1, 1, 2, 1]) 5), .int .i64 (if fzX (standF [1, 1, 2, 1]) 0 then 0 else 0), .int .i64 (if fzX (standF [1, 1, 2, 1]) 0 then -1 else (-1)), .int .i64 (if fzX (standF [1, 1, 2, 1]) 0 then 0 else 0), .bool false, .slice (sA (tg (tg (β 52) 0) 5)) 0 (sC (tg (tg (β 52) 0) 5))], .bool (oldF (standF [1, 1, 2, 1]) 6 5 || fzX (standF [1, 1, 2, 1]) 0)] | 5 => σ 53 = .agg #[.int .i64 (fzA 6 (standF [1, 1, 2, 1]) 5), .int .i64 (if fzX (standF [1, 1, 2, 1]) 0 then 0 else 0), .int .i64 (if fzX (standF [1, 1, 2, 1]) 0 then -1 else (-1)), .int .i64 (if fzX (standF [1, 1, 2, 1]) 0 then 0 else 0), .bool false, .slice (sA (tg (tg (β 52) 0) 5)) 0 (sC (tg (tg (β 52) 0) 5))] | 6 => True | 7 => σ 13 = .pointer (some ⟨(pb (β 13)), 0, none⟩) ∧ X 7 = eB (pb (β 13)) 27 #[.int .i64 0, .int .i64 0, .int .i64 0, .int .i64 0, .bool false, .slice none 0 0] | 8 => X 8 = eB (pb (β 13)) 27 #[.int .i64 (fzA 6 (standF [1, 1, 2, 1]) 5), .int .i64 (if fzX (standF [1, 1, 2, 1]) 0 then 0 else 0), .int .i64 (if fzX (standF [1, 1, 2, 1]) 0 then -1 else (-1)), .int .i64 (if fzX (standF [1, 1, 2, 1]) 0 then 0 else 0), .bool false, .slice (sA (tg (tg (β 52) 0) 5)) 0 (sC (tg (tg (β 52) 0) 5))] | _ => True) [0, 1, 2, 3, 4, 5, 6, 8] [0, 2, 3, 4, 5, 6, 7, 8] [(13, 7, 3, 15), (33, 4, 1, 34), (0, 0, 4, 4), (0, 5, 2, 2)] hst9 ?_ ?_ ?_
  · exact fun ix _ _ _ _ _ _ hs hb hx h => match ix, h with
    | 3, h => by dsimp only at h ⊢; rw [← hs 52 rfl, ← hb 52 rfl, ← hx 6 rfl]; exact h
    | 4, h => by dsimp only at h ⊢; rw [← hs 48 rfl, ← hb 52 rfl]; exact h
    | 5, h => by dsimp only at h ⊢; rw [← hs 53 rfl, ← hb 52 rfl]; exact h
    | 7, h => by dsimp only at h ⊢; rw [← hs 13 rfl, ← hb 13 rfl, ← hx 7 rfl]; exact h
    | 8, h => by dsimp only at h ⊢; rw [← hb 13 rfl, ← hb 52 rfl, ← hx 8 rfl]; exact h
    | 0, _ | 1, _ | 2, _ | 6, _ | _ + 9, _ => trivial
  · refine ⟨?_, ?_, ?_, ?_, ?_, ?_, ?_, ?_, trivial⟩
    · exact s4 rfl (fun _ _ _ h => h) fun cx => run_loadB (n := 6) rfl (by kernel_rfl) (by kernel_rfl) (cx.out 2 rfl) (cx.blk (cx.init 1 _ rfl) rfl) (Nat.le_of_ble_eq_true rfl) rfl
    · exact sv0 rfl rfl rfl rfl rfl (fun _ _ _ h => h) fun ρ β W X cx => by
        have fF50 : ρ (.tmp 50) = .slice A16_2 4 4 := (cx.anc 1 rfl)
        simp [go_sem, fF50]
    · refine sv_any rfl rfl fun ρ β W X cx => ?_
      refine DoesU.call (run_callF (args := #[.agg #[.int .i64 5, .int .i64 0, .int .i64 (-1), .int .i64 0, .bool false, .slice none 0 0], .int .i64 6, .iface 43 (.slice A16_2 4 4)]) rfl cx.sees rfl (by kernel_rfl) (map3 (cx.anc 0 rfl) (cx.sees.const _) (cx.anc 2 rfl))) ?_
      refine (freeze_any _ _ _ _ _ _ _ ([] : List Val) _ _ _ _ _ (At.nil _ _) (by first | omega | decide | (simp; done) | (simp; omega)) (stand_ok _ _ _ [1, 1, 2, 1] _ (rfl) (At.of_own (cx.row (cx.init 0 _ rfl) rfl)) (by decide)) (hN.ext cx.upd.to_ext)).mono ?_
      rintro e W1 ⟨A4, c4, rfl, ho, hx⟩
      refine ⟨_, rfl, post_call [eO 103 3 (.slice A4 0 c4) 0 (flatR ([] : List Val))] rfl rfl hx (one_new (eO_new ho)) (List.pairwise_singleton _ _) (fun σ β' X' hs hb hv hN => ?_)⟩
      have hv1 := (hv 52 rfl).1; have hv2 := (hv 52 rfl).2
      exact ⟨hv1.trans (by rw [hv2]; rfl), (by rw [hv2]; exact (List.cons.inj hN).1)⟩
    · exact sv rfl rfl rfl rfl rfl _ (fun _ _ _ h => h) (fun β β' h => by rw [h 52 (by decide)]) fun ρ β W X cx => run_move' rfl (dTn (cx.anc 3 rfl)).1
    · exact sv rfl rfl rfl rfl rfl _ (fun _ _ _ h => h) (fun β β' h => by rw [h 52 (by decide)]) fun ρ β W X cx => run_extract' rfl (dTn (cx.anc 4 rfl)) rfl
    · exact s4 rfl (fun _ _ _ h => h.trans (congrArg Value.bool hd11)) fun cx => run_extract' rfl (dTn (cx.anc 4 rfl)) rfl
    · refine sv_any rfl rfl fun ρ β W X cx => ?_
      exact dv_alloc (cs := #[.int .i64 0, .int .i64 0, .int .i64 0, .int .i64 0, .bool false, .slice none 0 0]) rfl (by kernel_rfl) rfl rfl (fun σ β' X' hs hb hv hx => ⟨hv, hx⟩)
    · refine sv_any rfl rfl fun ρ β W X cx => ?_
      exact dv_store (n := 6) rfl (dTn (cx.anc 7 rfl)).1 (dTn (cx.anc 5 rfl)) (by kernel_rfl) (by kernel_rfl) (by kernel_rfl) cx (dTn (cx.anc 7 rfl)).2 rfl (Nat.le_of_ble_eq_true rfl) (by kernel_rfl) rfl rfl rfl (fun σ β' X' hs hb hx => by rw [hb 13, hb 52]; exact hx)
  intro σ β X W10 hD hX hst10 fr hfr
  obtain ⟨A52_10, hu_A52_10⟩ : ∃ z, sA (tg (tg (β 52) 0) 5) = z := ⟨_, rfl⟩
  obtain ⟨c52_10, hu_c52_10⟩ : ∃ z, sC (tg (tg (β 52) 0) 5) = z := ⟨_, rfl⟩
  obtain ⟨B13_10, hu_B13_10⟩ : ∃ z, pb (β 13) = z := ⟨_, rfl⟩
  simp only [zM, exq 0 (hX 0 _ rfl), exq 1 (hX 1 _ rfl), exq 2 (hX 2 _ rfl), exq 3 (hX 3 _ rfl), exq 4 (hX 4 _ rfl), exq 5 (hX 5 _ rfl), exq 6 ((dTn (hD 3 lq)).2), exq 8 ((dTn (hD 8 lq))), hu_A52_10, hu_c52_10, hu_B13_10] at hst10
  dsimp only [mgT, vals, List.take, List.drop, List.cons_append, List.nil_append] at hfr
  simp only [ed 52 ((dTn (hD 3 lq)).1), ed 48 ((dTn (hD 4 lq))), ed 53 ((dTn (hD 5 lq))), ed 13 ((dTn (hD 7 lq)).1), hu_A52_10, hu_c52_10, hu_B13_10] at hfr
  clear hX hD hu_A52_10 hu_c52_10 hu_B13_10; subst hfr; clear σ β X
  refine then_normal ?_
  refine wp_seq ?_
  have hd13 : (visF 6 ([] : List Int) ([] : List Int) (standF [1, 1, 2, 1]) 5 0) = true := by decide
  have hd14 : (visF 5 ([] : List Int) ([] : List Int) (standF [1, 1, 2, 1]) 5 0) = false := by decide
  have hd15 : (visF 9 ([] : List Int) ([] : List Int) (standF [1, 1, 2, 1]) 2 7) = true := by decide
  have hd16 : (visF 9 ([] : List Int) [7] (standF [1, 1, 2, 1]) 2 7) = false := by decide
  refine wp_region_T [0, 0, 0, 4, 15, 31, 63, 63, 63, 319, 1023, 2047, 4095, 8191, 16383, 16383, 16383, 81919, 262143, 524287, 1048575, 2097151, 2097151, 2097151, 2097151, 18874367, 67108863, 134217727, 268435455, 536870911] [[1], [], [], [], [0], [], [1], [], [], [], [0], [], [], [], [2], [], [], [], [0], [], [], [2], [], [], [], [], [8, 0]] [[], [], [], [], [], [], [], [], [], [], [], [], [], [], [], [], [], [], [], [], [], [], [], [8]] [] [.c 55 (.agg #[.int .i64 5, .int .i64 0, .int .i64 (-1), .int .i64 0, .bool false, .slice none 0 0]), .k 56 (.agg #[.int .i64 6, .slice none 0 0]), .k 57 (.slice A16_2 4 4), .c 58 (.iface 43 (.slice A16_2 4 4)), .c 59 (.bool true), .k 60 (.bool true), .c 61 (.agg #[.int .i64 5, .int .i64 0, .int .i64 (-1), .int .i64 0, .bool false, .slice none 0 0]), .k 62 (.agg #[.int .i64 5, .slice none 0 0]), .k 63 (.slice A16_2 4 4), .c 64 (.iface 43 (.slice A16_2 4 4)), .c 65 (.bool false), .k 66 (.bool true), .k 67 (.bool true), .k 68 (.bool true), .c 69 (.agg #[.int .i64 2, .int .i64 7, .int .i64 1, .int .i64 2, .bool true, .slice none 0 0]), .k 70 (.agg #[.int .i64 9, .slice none 0 0]), .k 71 (.slice A16_2 4 4), .c 72 (.iface 43 (.slice A16_2 4 4)), .c 73 (.bool true), .k 74 (.bool true), .k 75 (.bool true), .c 76 (.agg #[.int .i64 2, .int .i64 7, .int .i64 1, .int .i64 2, .bool true, .slice none 0 0]), .k 77 (.agg #[.int .i64 9, .slice none 0 0]), .a 78, .k 79 (.slice A16_2 4 4), .c 80 (.iface 43 (.slice A16_2 4 4)), .c 81 (.bool false), .k 82 (.bool true), .k 83 (.bool true), .k 15 (.bool true)] (fun ix σ β X => match ix with | 0 => True | 1 => True | 2 => True | 3 => True | 4 => True | 5 => True | 6 => True | 7 => True | 8 => True | 9 => True | 10 => True | 11 => True | 12 => True | 13 => True | 14 => True | 15 => True | 16 => True | 17 => True | 18 => True | 19 => True | 20 => True | 21 => True | 22 => True | 23 => σ 78 = .slice (sA (β 78)) 1 1 ∧ X 8 = eO 3 1 (.slice (sA (β 78)) 1 1) 1 ([.int .i64 7]) | _ => True) [0, 1, 2, 3, 4, 5, 6, 7, 8] [0, 3, 4, 6, 9, 10, 14, 17, 18, 21, 23, 25, 26] [(15, 29, 1, 16), (39, 0, 29, 68)] hst10 ?_ ?_ ?_
  · exact fun ix _ _ _ _ _ _ hs hb hx h => match ix, h with
    | 23, h => by dsimp only at h ⊢; rw [← hs 78 rfl, ← hb 78 rfl, ← hx 8 rfl]; exact h
    | 0, _ | 1, _ | 2, _ | 3, _ | 4, _ | 5, _ | 6, _ | 7, _ | 8, _ | 9, _ | 10, _ | 11, _ | 12, _ | 13, _ | 14, _ | 15, _ | 16, _ | 17, _ | 18, _ | 19, _ | 20, _ | 21, _ | 22, _ | _ + 24, _ => trivial
  · refine ⟨?_, ?_, ?_, ?_, ?_, ?_, ?_, ?_, ?_, ?_, ?_, ?_, ?_, trivial⟩
    · exact s4 rfl (fun _ _ _ h => h) fun cx => run_loadB (n := 6) rfl (by kernel_rfl) (by kernel_rfl) (cx.out 2 rfl) (cx.blk (cx.init 1 _ rfl) rfl) (Nat.le_of_ble_eq_true rfl) rfl
    · exact sv0 rfl rfl rfl rfl rfl (fun _ _ _ h => h) fun ρ β W X cx => by
        have fF57 : ρ (.tmp 57) = .slice A16_2 4 4 := (cx.anc 2 rfl)
        simp [go_sem, fF57]
    · exact sv_call rfl rfl rfl rfl rfl (fun _ _ _ h => h.trans (congrArg Value.bool hd13)) fun ρ β W X cx => ⟨_, _, run_callF (args := #[.agg #[.int .i64 5, .int .i64 0, .int .i64 (-1), .int .i64 0, .bool false, .slice none 0 0], .agg #[.int .i64 6, .slice none 0 0], .slice none 0 0, .iface 43 (.slice A16_2 4 4)]) rfl cx.sees rfl (by kernel_rfl) (map4 (cx.anc 0 rfl) (cx.anc 1 rfl) (cx.sees.const _) (cx.anc 3 rfl)), visible_any _ _ _ _ _ _ _ _ _ _ _ ([] : List Int) _ _ ([] : List Int) _ _ _ _ (At.nil _ _) (by first | omega | decide | (simp; done) | (simp; omega)) (At.nil _ _) (by first | omega | decide | (simp; done) | (simp; omega)) (stand_ok _ _ _ [1, 1, 2, 1] _ (rfl) (At.of_own (cx.row (cx.init 0 _ rfl) rfl)) (by decide))⟩
    · exact s5 rfl (fun _ _ _ h => h) (fun cx => (cx.anc 5 rfl)) fun cx => run_loadB (n := 6) rfl (by kernel_rfl) (by kernel_rfl) (cx.out 2 rfl) (cx.blk (cx.init 1 _ rfl) rfl) (Nat.le_of_ble_eq_true rfl) rfl
    · exact sv0_on rfl rfl rfl rfl rfl rfl (fun _ _ _ h => h) (fun _ _ _ _ cx => (cx.anc 5 rfl)) fun ρ β W X cx => by
        have fF63 : ρ (.tmp 63) = .slice A16_2 4 4 := (cx.anc 8 rfl)
        simp [go_sem, fF63]
    · exact sv_call_on rfl rfl rfl rfl rfl rfl (fun _ _ _ h => h.trans (congrArg Value.bool hd14)) (fun _ _ _ _ cx => (cx.anc 5 rfl)) fun ρ β W X cx => ⟨_, _, run_callF (args := #[.agg #[.int .i64 5, .int .i64 0, .int .i64 (-1), .int .i64 0, .bool false, .slice none 0 0], .agg #[.int .i64 5, .slice none 0 0], .slice none 0 0, .iface 43 (.slice A16_2 4 4)]) rfl cx.sees rfl (by kernel_rfl) (map4 (cx.anc 6 rfl) (cx.anc 7 rfl) (cx.sees.const _) (cx.anc 9 rfl)), visible_any _ _ _ _ _ _ _ _ _ _ _ ([] : List Int) _ _ ([] : List Int) _ _ _ _ (At.nil _ _) (by first | omega | decide | (simp; done) | (simp; omega)) (At.nil _ _) (by first | omega | decide | (simp; done) | (simp; omega)) (stand_ok _ _ _ [1, 1, 2, 1] _ (rfl) (At.of_own (cx.row (cx.init 0 _ rfl) rfl)) (by decide))⟩
    · exact s5 rfl (fun _ _ _ h => h) (fun cx => (cx.anc 13 rfl)) fun cx => run_loadB (n := 6) rfl (by kernel_rfl) (by kernel_rfl) (cx.out 3 rfl) (cx.blk (cx.init 2 _ rfl) rfl) (Nat.le_of_ble_eq_true rfl) rfl
    · exact sv0_on rfl rfl rfl rfl rfl rfl (fun _ _ _ h => h) (fun _ _ _ _ cx => (cx.anc 13 rfl)) fun ρ β W X cx => by
        have fF71 : ρ (.tmp 71) = .slice A16_2 4 4 := (cx.anc 16 rfl)
        simp [go_sem, fF71]
    · exact sv_call_on rfl rfl rfl rfl rfl rfl (fun _ _ _ h => h.trans (congrArg Value.bool hd15)) (fun _ _ _ _ cx => (cx.anc 13 rfl)) fun ρ β W X cx => ⟨_, _, run_callF (args := #[.agg #[.int .i64 2, .int .i64 7, .int .i64 1, .int .i64 2, .bool true, .slice none 0 0], .agg #[.int .i64 9, .slice none 0 0], .slice none 0 0, .iface 43 (.slice A16_2 4 4)]) rfl cx.sees rfl (by kernel_rfl) (map4 (cx.anc 14 rfl) (cx.anc 15 rfl) (cx.sees.const _) (cx.anc 17 rfl)), visible_any _ _ _ _ _ _ _ _ _ _ _ ([] : List Int) _ _ ([] : List Int) _ _ _ _ (At.nil _ _) (by first | omega | decide | (simp; done) | (simp; omega)) (At.nil _ _) (by first | omega | decide | (simp; done) | (simp; omega)) (stand_ok _ _ _ [1, 1, 2, 1] _ (rfl) (At.of_own (cx.row (cx.init 0 _ rfl) rfl)) (by decide))⟩
    · exact s5 rfl (fun _ _ _ h => h) (fun cx => (cx.anc 20 rfl)) fun cx => run_loadB (n := 6) rfl (by kernel_rfl) (by kernel_rfl) (cx.out 3 rfl) (cx.blk (cx.init 2 _ rfl) rfl) (Nat.le_of_ble_eq_true rfl) rfl
    · refine sv_any_on rfl rfl rfl (fun _ _ _ _ cx => (cx.anc 20 rfl)) fun ρ β W X cx => ?_
      exact dv_lit (e := 3) (xs := [.int .i64 7]) rfl (by simp [go_sem, cx.sees.const]) rfl (by decide) rfl rfl (fun σ β' X' hs hb hv hx => ⟨hv, hx⟩)
    · exact sv0_on rfl rfl rfl rfl rfl rfl (fun _ _ _ h => h) (fun _ _ _ _ cx => (cx.anc 20 rfl)) fun ρ β W X cx => by
        have fF79 : ρ (.tmp 79) = .slice A16_2 4 4 := (cx.anc 24 rfl)
        simp [go_sem, fF79]
    · exact sv_call_on rfl rfl rfl rfl rfl rfl (fun _ _ _ h => h.trans (congrArg Value.bool hd16)) (fun _ _ _ _ cx => (cx.anc 20 rfl)) fun ρ β W X cx => ⟨_, _, run_callF (args := #[.agg #[.int .i64 2, .int .i64 7, .int .i64 1, .int .i64 2, .bool true, .slice none 0 0], .agg #[.int .i64 9, .slice none 0 0], .slice (sA (β 78)) 1 1, .iface 43 (.slice A16_2 4 4)]) rfl cx.sees rfl (by kernel_rfl) (map4 (cx.anc 21 rfl) (cx.anc 22 rfl) (dTn (cx.anc 23 rfl)).1 (cx.anc 25 rfl)), visible_any _ _ _ _ _ _ _ _ _ _ _ ([] : List Int) _ _ [7] _ _ _ _ (At.nil _ _) (by first | omega | decide | (simp; done) | (simp; omega)) (At.of_own (cx.row (dTn (cx.anc 23 rfl)).2 rfl)) (by first | omega | decide | (simp; done) | (simp; omega)) (stand_ok _ _ _ [1, 1, 2, 1] _ (rfl) (At.of_own (cx.row (cx.init 0 _ rfl) rfl)) (by decide))⟩
  intro σ β X W12 hD hX hst12 fr hfr
  obtain ⟨A78_12, hu_A78_12⟩ : ∃ z, sA (β 78) = z := ⟨_, rfl⟩
  simp only [zM, exq 0 (hX 0 _ rfl), exq 1 (hX 1 _ rfl), exq 2 (hX 2 _ rfl), exq 3 (hX 3 _ rfl), exq 4 (hX 4 _ rfl), exq 5 (hX 5 _ rfl), exq 6 (hX 6 _ rfl), exq 7 (hX 7 _ rfl), exq 8 ((dTn (hD 23 lq)).2), hu_A78_12] at hst12
  dsimp only [mgT, vals, List.take, List.drop, List.cons_append, List.nil_append] at hfr
  simp only [ed 78 ((dTn (hD 23 lq)).1), hu_A78_12] at hfr
  clear hX hD hu_A78_12; subst hfr; clear σ β X
  refine then_normal ?_
  refine wp_seq ?_
  have hd18 : ((bes1F 5 ([] : List Int) ([] : List Int) (standF [1, 1, 2, 1]) 5) == 5) = true := by decide
  have hd19 : ((bes2F 9 ([] : List Int) ([] : List Int) (standF [1, 1, 2, 1]) 7) == 7) = true := by decide
  have hd20 : ((busyF ([] : List Int) (standF [1, 1, 2, 1]) 7) == 7) = true := by decide
  have hd21 : ((busyF [7] (standF [1, 1, 2, 1]) 7) == 0) = true := by decide
  have hd22 : ((tbytesF 2 7 1 2 true ([] : List Val)).toList == ((⟨#[2, 7, 0, 2, 2, 1, 0, 1, 0]⟩ : ByteArray)).toList) = true := by rw [tb7]; exact beq_self_eq_true _
  have hd23 : (sameV 2 7 1 2 true ([] : List Val) 2 7 1 2 true ([] : List Val)) = true := by decide
  have hd24 : ((fzA 6 (standF [1, 1, 2, 1]) 5) == 2) = true := by decide
  have hd25 : (allF (standF [1, 1, 2, 1]) 6 5 0) = true := by decide
  have hd26 : (deadF (standF [1, 1, 2, 1]) 6 5 0) = false := by decide
  refine wp_region_T [0, 1, 3, 7, 15, 31, 63, 127, 255, 511, 1023, 1023, 3071, 8191, 16383, 32767, 65535, 131071, 131071, 131071, 655359, 2097151, 4194303, 8388607, 16777215, 33554431, 67108863, 33554431, 268435455, 536870911, 1073741823, 2147483647, 4294967295, 8589934591, 17179869183, 34359738367, 34359738367, 137438953471, 274877906943, 549755813887, 1099511627775, 2199023255551, 4398046511103, 8796093022207, 17592186044415, 35184372088831, 70368744177663, 140737488355327, 281474976710655, 562949953421311, 1125899906842623, 2251799813685247, 4503599627370495, 4503599627370495, 13510798882111487, 36028797018963967, 72057594037927935, 144115188075855871, 288230376151711743, 288230376151711743, 864691128455135231, 2305843009213693951, 4611686018427387903, 9223372036854775807, 18446744073709551615] [[], [], [], [], [], [], [], [], [], [], [2], [], [], [0], [], [], [], [2], [], [], [], [9, 0], [], [], [], [2], [], [], [], [], [], [], [], [], [], [4], [2], [3], [], [], [], [], [], [], [], [], [], [], [7], [], [], [], [1], [], [], [0], [], [], [1], [], [], [0]] [[], [], [], [], [], [], [], [], [], [], [], [], [], [], [], [], [], [], [9]] [] [.k 84 (.bool true), .k 85 (.bool true), .k 86 (.int .i64 (bes1F 5 ([] : List Int) ([] : List Int) (standF [1, 1, 2, 1]) 5)), .e 87 (.bool ((bes1F 5 ([] : List Int) ([] : List Int) (standF [1, 1, 2, 1]) 5) == 5)) (.bool true) (congrArg Value.bool hd18), .k 88 (.bool true), .k 89 (.bool true), .k 90 (.int .i64 (bes2F 9 ([] : List Int) ([] : List Int) (standF [1, 1, 2, 1]) 7)), .e 91 (.bool ((bes2F 9 ([] : List Int) ([] : List Int) (standF [1, 1, 2, 1]) 7) == 7)) (.bool true) (congrArg Value.bool hd19), .k 92 (.bool true), .k 93 (.bool true), .c 94 (.agg #[.int .i64 2, .int .i64 7, .int .i64 1, .int .i64 2, .bool true, .slice none 0 0]), .k 95 (.slice A16_2 4 4), .c 96 (.iface 43 (.slice A16_2 4 4)), .c 97 (.int .i64 (busyF ([] : List Int) (standF [1, 1, 2, 1]) 7)), .e 98 (.bool ((busyF ([] : List Int) (standF [1, 1, 2, 1]) 7) == 7)) (.bool true) (congrArg Value.bool hd20), .k 99 (.bool true), .k 100 (.bool true), .c 101 (.agg #[.int .i64 2, .int .i64 7, .int .i64 1, .int .i64 2, .bool true, .slice none 0 0]), .a 102, .k 103 (.slice A16_2 4 4), .c 104 (.iface 43 (.slice A16_2 4 4)), .c 105 (.int .i64 (busyF [7] (standF [1, 1, 2, 1]) 7)), .e 106 (.bool ((busyF [7] (standF [1, 1, 2, 1]) 7) == 0)) (.bool true) (congrArg Value.bool hd21), .k 107 (.bool true), .k 108 (.bool true), .c 109 (.agg #[.int .i64 2, .int .i64 7, .int .i64 1, .int .i64 2, .bool true, .slice none 0 0]), .c 110 (.string (tbytesF 2 7 1 2 true ([] : List Val))), .k 111 (.string ⟨#[2, 7, 0, 2, 2, 1, 0, 1, 0]⟩), .e 112 (.bool ((tbytesF 2 7 1 2 true ([] : List Val)).toList == ((⟨#[2, 7, 0, 2, 2, 1, 0, 1, 0]⟩ : ByteArray)).toList)) (.bool true) (congrArg Value.bool hd22), .k 113 (.bool true), .k 114 (.bool true), .k 115 (.int .i64 0), .k 116 (.bool true), .k 117 (.bool true), .k 118 (.bool true), .c 119 (.agg #[.int .i64 2, .int .i64 7, .int .i64 1, .int .i64 2, .bool true, .slice A39_8 0 c39_8]), .c 120 (.agg #[.int .i64 2, .int .i64 7, .int .i64 1, .int .i64 2, .bool true, .slice none 0 0]), .c 121 (.bool true), .k 122 (.bool true), .k 123 (.bool true), .k 124 (.int .i64 10), .k 125 (.bool true), .k 126 (.bool true), .k 127 (.bool true), .k 128 (.bool true), .k 129 (.bool true), .k 130 (.bool true), .k 131 (.pointer (some ⟨B13_10, 0, none⟩)), .c 132 (.int .i64 (fzA 6 (standF [1, 1, 2, 1]) 5)), .e 133 (.bool ((fzA 6 (standF [1, 1, 2, 1]) 5) == 2)) (.bool true) (congrArg Value.bool hd24), .k 134 (.bool true), .k 135 (.bool true), .c 136 (.agg #[.int .i64 5, .int .i64 0, .int .i64 (-1), .int .i64 0, .bool false, .slice none 0 0]), .k 137 (.slice A16_2 4 4), .c 138 (.iface 43 (.slice A16_2 4 4)), .c 139 (.bool true), .k 140 (.bool true), .k 141 (.bool true), .c 142 (.agg #[.int .i64 5, .int .i64 0, .int .i64 (-1), .int .i64 0, .bool false, .slice none 0 0]), .k 143 (.slice A16_2 4 4), .c 144 (.iface 43 (.slice A16_2 4 4)), .c 145 (.bool false), .k 146 (.bool true), .k 147 (.bool true), .k 0 (.bool true)] (fun ix σ β X => match ix with | 0 => True | 1 => True | 2 => True | 3 => True | 4 => True | 5 => True | 6 => True | 7 => True | 8 => True | 9 => True | 10 => True | 11 => True | 12 => True | 13 => True | 14 => True | 15 => True | 16 => True | 17 => True | 18 => σ 102 = .slice (sA (β 102)) 1 1 ∧ X 9 = eO 3 1 (.slice (sA (β 102)) 1 1) 1 ([.int .i64 7]) | _ => True) [0, 1, 2, 3, 4, 5, 6, 7, 8, 9] [10, 12, 13, 17, 18, 20, 21, 25, 26, 35, 36, 37, 48, 52, 54, 55, 58, 60, 61] [(0, 64, 1, 1), (83, 0, 64, 147)] hst12 ?_ ?_ ?_
  · exact fun ix _ _ _ _ _ _ hs hb hx h => match ix, h with
    | 18, h => by dsimp only at h ⊢; rw [← hs 102 rfl, ← hb 102 rfl, ← hx 9 rfl]; exact h
    | 0, _ | 1, _ | 2, _ | 3, _ | 4, _ | 5, _ | 6, _ | 7, _ | 8, _ | 9, _ | 10, _ | 11, _ | 12, _ | 13, _ | 14, _ | 15, _ | 16, _ | 17, _ | _ + 19, _ => trivial
  · refine ⟨?_, ?_, ?_, ?_, ?_, ?_, ?_, ?_, ?_, ?_, ?_, ?_, ?_, ?_, ?_, ?_, ?_, ?_, ?_, trivial⟩
    · exact s5 rfl (fun _ _ _ h => h) (fun cx => (cx.anc 9 rfl)) fun cx => run_loadB (n := 6) rfl (by kernel_rfl) (by kernel_rfl) (cx.out 3 rfl) (cx.blk (cx.init 2 _ rfl) rfl) (Nat.le_of_ble_eq_true rfl) rfl
    · exact sv0_on rfl rfl rfl rfl rfl rfl (fun _ _ _ h => h) (fun _ _ _ _ cx => (cx.anc 9 rfl)) fun ρ β W X cx => by
        have fF95 : ρ (.tmp 95) = .slice A16_2 4 4 := (cx.anc 11 rfl)
        simp [go_sem, fF95]
    · exact sv_call_on rfl rfl rfl rfl rfl rfl (fun _ _ _ h => h) (fun _ _ _ _ cx => (cx.anc 9 rfl)) fun ρ β W X cx => ⟨_, _, run_callF (args := #[.agg #[.int .i64 2, .int .i64 7, .int .i64 1, .int .i64 2, .bool true, .slice none 0 0], .slice none 0 0, .iface 43 (.slice A16_2 4 4)]) rfl cx.sees rfl (by kernel_rfl) (map3 (cx.anc 10 rfl) (cx.sees.const _) (cx.anc 12 rfl)), busy_any _ _ _ _ _ _ _ _ _ _ ([] : List Int) _ _ _ _ (At.nil _ _) (by first | omega | decide | (simp; done) | (simp; omega)) (stand_ok _ _ _ [1, 1, 2, 1] _ (rfl) (At.of_own (cx.row (cx.init 0 _ rfl) rfl)) (by decide))⟩
    · exact s5 rfl (fun _ _ _ h => h) (fun cx => (cx.anc 16 rfl)) fun cx => run_loadB (n := 6) rfl (by kernel_rfl) (by kernel_rfl) (cx.out 3 rfl) (cx.blk (cx.init 2 _ rfl) rfl) (Nat.le_of_ble_eq_true rfl) rfl
    · refine sv_any_on rfl rfl rfl (fun _ _ _ _ cx => (cx.anc 16 rfl)) fun ρ β W X cx => ?_
      exact dv_lit (e := 3) (xs := [.int .i64 7]) rfl (by simp [go_sem, cx.sees.const]) rfl (by decide) rfl rfl (fun σ β' X' hs hb hv hx => ⟨hv, hx⟩)
    · exact sv0_on rfl rfl rfl rfl rfl rfl (fun _ _ _ h => h) (fun _ _ _ _ cx => (cx.anc 16 rfl)) fun ρ β W X cx => by
        have fF103 : ρ (.tmp 103) = .slice A16_2 4 4 := (cx.anc 19 rfl)
        simp [go_sem, fF103]
    · exact sv_call_on rfl rfl rfl rfl rfl rfl (fun _ _ _ h => h) (fun _ _ _ _ cx => (cx.anc 16 rfl)) fun ρ β W X cx => ⟨_, _, run_callF (args := #[.agg #[.int .i64 2, .int .i64 7, .int .i64 1, .int .i64 2, .bool true, .slice none 0 0], .slice (sA (β 102)) 1 1, .iface 43 (.slice A16_2 4 4)]) rfl cx.sees rfl (by kernel_rfl) (map3 (cx.anc 17 rfl) (dTn (cx.anc 18 rfl)).1 (cx.anc 20 rfl)), busy_any _ _ _ _ _ _ _ _ _ _ [7] _ _ _ _ (At.of_own (cx.row (dTn (cx.anc 18 rfl)).2 rfl)) (by first | omega | decide | (simp; done) | (simp; omega)) (stand_ok _ _ _ [1, 1, 2, 1] _ (rfl) (At.of_own (cx.row (cx.init 0 _ rfl) rfl)) (by decide))⟩
    · exact s5 rfl (fun _ _ _ h => h) (fun cx => (cx.anc 24 rfl)) fun cx => run_loadB (n := 6) rfl (by kernel_rfl) (by kernel_rfl) (cx.out 3 rfl) (cx.blk (cx.init 2 _ rfl) rfl) (Nat.le_of_ble_eq_true rfl) rfl
    · exact sv_call_on rfl rfl rfl rfl rfl rfl (fun _ _ _ h => h) (fun _ _ _ _ cx => (cx.anc 24 rfl)) fun ρ β W X cx => ⟨_, _, run_callF (args := #[.agg #[.int .i64 2, .int .i64 7, .int .i64 1, .int .i64 2, .bool true, .slice none 0 0]]) rfl cx.sees rfl (by kernel_rfl) (map1 (cx.anc 25 rfl)), tbytes_any 2 7 1 2 true _ _ ([] : List Val) _ (At.nil _ _) (by first | omega | decide | (simp; done) | (simp; omega)) (hN.ext cx.upd.to_ext)⟩
    · exact s5 rfl (fun _ _ _ h => h) (fun cx => (cx.anc 34 rfl)) fun cx => run_loadB (n := 6) rfl (by kernel_rfl) (by kernel_rfl) (cx.out 9 rfl) (cx.blk (cx.init 4 _ rfl) rfl) (Nat.le_of_ble_eq_true rfl) rfl
    · exact s5 rfl (fun _ _ _ h => h) (fun cx => (cx.anc 34 rfl)) fun cx => run_loadB (n := 6) rfl (by kernel_rfl) (by kernel_rfl) (cx.out 3 rfl) (cx.blk (cx.init 2 _ rfl) rfl) (Nat.le_of_ble_eq_true rfl) rfl
    · exact sv_call_on rfl rfl rfl rfl rfl rfl (fun _ _ _ h => h.trans (congrArg Value.bool hd23)) (fun _ _ _ _ cx => (cx.anc 34 rfl)) fun ρ β W X cx => ⟨_, _, run_callF (args := #[.agg #[.int .i64 2, .int .i64 7, .int .i64 1, .int .i64 2, .bool true, .slice A39_8 0 c39_8], .agg #[.int .i64 2, .int .i64 7, .int .i64 1, .int .i64 2, .bool true, .slice none 0 0]]) rfl cx.sees rfl (by kernel_rfl) (map2 (cx.anc 35 rfl) (cx.anc 36 rfl)), vsame_any _ _ _ _ _ _ _ ([] : List Val) _ _ _ _ _ _ _ ([] : List Val) _ (At.of_ownN (cx.row (cx.init 3 _ rfl) rfl)) (At.nil _ _) (by first | omega | decide | (simp; done) | (simp; omega)) (by first | omega | decide | (simp; done) | (simp; omega))⟩
    · exact s5 rfl (fun _ _ _ h => h) (fun cx => (cx.anc 46 rfl)) fun cx => run_load1 rfl (by kernel_rfl) (cx.anc 47 rfl) ((cx.blk (cx.init 7 _ rfl) rfl).cell 0)
    · exact s5 rfl (fun _ _ _ h => h) (fun cx => (cx.anc 51 rfl)) fun cx => run_loadB (n := 6) rfl (by kernel_rfl) (by kernel_rfl) (cx.out 2 rfl) (cx.blk (cx.init 1 _ rfl) rfl) (Nat.le_of_ble_eq_true rfl) rfl
    · exact sv0_on rfl rfl rfl rfl rfl rfl (fun _ _ _ h => h) (fun _ _ _ _ cx => (cx.anc 51 rfl)) fun ρ β W X cx => by
        have fF137 : ρ (.tmp 137) = .slice A16_2 4 4 := (cx.anc 53 rfl)
        simp [go_sem, fF137]
    · exact sv_call_on rfl rfl rfl rfl rfl rfl (fun _ _ _ h => h.trans (congrArg Value.bool hd25)) (fun _ _ _ _ cx => (cx.anc 51 rfl)) fun ρ β W X cx => ⟨_, _, run_callF (args := #[.agg #[.int .i64 5, .int .i64 0, .int .i64 (-1), .int .i64 0, .bool false, .slice none 0 0], .int .i64 6, .iface 43 (.slice A16_2 4 4)]) rfl cx.sees rfl (by kernel_rfl) (map3 (cx.anc 52 rfl) (cx.sees.const _) (cx.anc 54 rfl)), all_any _ _ _ _ _ _ _ _ _ _ _ _ _ (stand_ok _ _ _ [1, 1, 2, 1] _ (rfl) (At.of_own (cx.row (cx.init 0 _ rfl) rfl)) (by decide))⟩
    · exact s5 rfl (fun _ _ _ h => h) (fun cx => (cx.anc 57 rfl)) fun cx => run_loadB (n := 6) rfl (by kernel_rfl) (by kernel_rfl) (cx.out 2 rfl) (cx.blk (cx.init 1 _ rfl) rfl) (Nat.le_of_ble_eq_true rfl) rfl
    · exact sv0_on rfl rfl rfl rfl rfl rfl (fun _ _ _ h => h) (fun _ _ _ _ cx => (cx.anc 57 rfl)) fun ρ β W X cx => by
        have fF143 : ρ (.tmp 143) = .slice A16_2 4 4 := (cx.anc 59 rfl)
        simp [go_sem, fF143]
    · exact sv_call_on rfl rfl rfl rfl rfl rfl (fun _ _ _ h => h.trans (congrArg Value.bool hd26)) (fun _ _ _ _ cx => (cx.anc 57 rfl)) fun ρ β W X cx => ⟨_, _, run_callF (args := #[.agg #[.int .i64 5, .int .i64 0, .int .i64 (-1), .int .i64 0, .bool false, .slice none 0 0], .int .i64 6, .iface 43 (.slice A16_2 4 4)]) rfl cx.sees rfl (by kernel_rfl) (map3 (cx.anc 58 rfl) (cx.sees.const _) (cx.anc 60 rfl)), dead_any _ _ _ _ _ _ _ _ _ _ _ _ _ (stand_ok _ _ _ [1, 1, 2, 1] _ (rfl) (At.of_own (cx.row (cx.init 0 _ rfl) rfl)) (by decide))⟩
  intro σ β X W17 hD hX hst17 fr hfr
  obtain ⟨A102_17, hu_A102_17⟩ : ∃ z, sA (β 102) = z := ⟨_, rfl⟩
  simp only [zM, exq 0 (hX 0 _ rfl), exq 1 (hX 1 _ rfl), exq 2 (hX 2 _ rfl), exq 3 (hX 3 _ rfl), exq 4 (hX 4 _ rfl), exq 5 (hX 5 _ rfl), exq 6 (hX 6 _ rfl), exq 7 (hX 7 _ rfl), exq 8 (hX 8 _ rfl), exq 9 ((dTn (hD 18 lq)).2), hu_A102_17] at hst17
  dsimp only [mgT, vals, List.take, List.drop, List.cons_append, List.nil_append] at hfr
  simp only [ed 102 ((dTn (hD 18 lq)).1), hu_A102_17] at hfr
  clear hX hD hu_A102_17; subst hfr; clear σ β X
  refine then_normal ?_
  refine wp_ret ?_
  refine bodyPost_ret (v := .bool true) (results_tmp Tryd.results12 rfl) rfl ?_
  exact Ret.of rfl hst17.ext

end Go.Proofs.YtfjpglohcppjeaaDoor

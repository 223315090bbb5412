/- law08's sanity. -/
import Derived.Test.YtfjpglohcppjeaaDoorT12
import Derived.Test.YtfjpglohcppjeaaDoorT6
namespace Go.Proofs.YtfjpglohcppjeaaDoor
open Go.RowKit
set_option linter.unusedVariables false

abbrev s7 : ByteArray := ⟨#[2, 7, 0, 2, 2, 1, 0, 1, 0]⟩
theorem n70 : numS s7 0 1 = 2 := by kernel_rfl
theorem n71 : numS s7 1 1 = 7 := by kernel_rfl
theorem n72 : numS s7 2 2 = 2 := by kernel_rfl
theorem n74 : numS s7 4 1 = 2 := by kernel_rfl
theorem n75 : numS s7 5 1 = 1 := by kernel_rfl
theorem n76 : numS s7 6 2 = 1 := by kernel_rfl
theorem t76 : textS s7 6 = strL [0] := by kernel_rfl
theorem m76 : numS (s7.extract 0 8) 6 2 = 1 := by kernel_rfl
theorem z8 : (s7.extract 0 8).size = 8 := by kernel_rfl
theorem tb7 : tbytesF 2 7 1 2 true [] = s7 := by kernel_rfl
theorem tread7 (w : World) (hN : NoneAt w) : Calls Tryd.prog 15 #[.string s7] w (VerRd 2 7 1 2 true [] 0 w) := by
  have h := tread_good s7 [] w (by decide) (by decide) (by rw [n76]; decide) (by simp) hN (by rw [t76]; exact vread_nil') (by rw [n70, n71, n72, n74, n75]; exact tb7)
  rw [n70, n71, n72, n74, n75] at h
  exact h
theorem tread8 (w : World) : Calls Tryd.prog 15 #[.string (s7.extract 0 8)] w (Ret (.tuple #[.agg #[.int .i64 0, .int .i64 0, .int .i64 0, .int .i64 0, .bool false, .slice none 0 0], .int .i64 10]) w) :=
  tread_short (s7.extract 0 8) w (by rw [z8]; decide) (by rw [z8]; decide) (by rw [z8, m76]; decide)
set_option maxRecDepth 100000 in
set_option maxHeartbeats 2000000 in
theorem sanity_any  (w : World) (hN : NoneAt w) :
    Calls Tryd.prog 12 #[] w (Ret (.bool true) w) := by
  go_enter Tryd.func12, Tryd.ntmps12
  have hst0 := St.start w
  refine wp_seq ?_
  refine wp_region_X [0] [] [] [] (fun ix σ β X => match ix with | 0 => σ 0 = .bool false | _ => True) [] [0] hst0 ?_ ?_ ?_
  · exact fun ix _ _ _ _ _ _ hs hb hx h => match ix, h with
    | 0, h => (hs _ rfl).symm.trans h
    | _ + 1, _ => trivial
  · refine ⟨trivial, ?_⟩
    · exact s0 rfl fun cx => run_assign' rfl (cx.sees.const _)
  intro σ β X W1 hD hX hst1 fr hfr
  simp only [zM] at hst1
  simp only [zP, ed 0 (hD 0 lq)] at hfr
  clear hX hD; subst hfr; clear σ β X
  refine then_normal ?_
  refine wp_seq ?_
  refine wp_region_X [0, 1] [] [[0]] [] (fun ix σ β X => match ix with | 0 => σ 16 = .slice (sA (β 16)) 4 4 ∧ X 0 = eO 5 1 (.slice (sA (β 16)) 4 4) 4 ([.int .u8 1, .int .u8 1, .int .u8 2, .int .u8 1]) | 1 => σ 1 = .slice (sA (β 16)) 4 4 | _ => True) [0] [16, 1] hst1 ?_ ?_ ?_
  · exact fun ix _ _ _ _ _ _ hs hb hx h => match ix, h with
    | 0, h => by dsimp only at h ⊢; rw [← hs 16 rfl, ← hb 16 rfl, ← hx 0 rfl]; exact h
    | 1, h => by dsimp only at h ⊢; rw [← hs 1 rfl, ← hb 16 rfl]; exact h
    | _ + 2, _ => trivial
  · refine ⟨⟨trivial, ?_⟩, ?_⟩
    · refine sv_any rfl rfl fun ρ β W X cx => ?_
      exact dv_lit (e := 5) (xs := [.int .u8 1, .int .u8 1, .int .u8 2, .int .u8 1]) rfl (by simp [go_sem, cx.sees.const]) rfl (by decide) rfl rfl (fun σ β' X' hs hb hv hx => ⟨hv, hx⟩)
    · exact sv rfl rfl rfl rfl rfl _ (fun _ _ _ h => h) (fun β β' h => by rw [h 16 (by decide)]) fun ρ β W X cx => run_assign' rfl (cx.anc 0 rfl).1
  intro σ β X W2 hD hX hst2 fr hfr
  obtain ⟨A16_2, hu_A16_2⟩ : ∃ z, sA (β 16) = z := ⟨_, rfl⟩
  simp only [zM, exq 0 ((hD 0 lq).2), hu_A16_2] at hst2
  simp only [zP, ed 16 ((hD 0 lq).1), ed 1 (hD 1 lq), hu_A16_2] at hfr
  clear hX hD hu_A16_2; subst hfr; clear σ β X
  refine then_normal ?_
  refine wp_seq ?_
  refine wp_region_X [0, 1, 0, 7] [[], [], [], [1]] [[], [], [1], [2]] [[], [], [], [1]] (fun ix σ β X => match ix with | 0 => σ 17 = .agg #[.int .i64 (-1), .int .i64 0] | 1 => σ 18 = .agg #[.int .i64 5, .int .i64 0, .int .i64 (-1), .int .i64 0, .bool false, .slice none 0 0] | 2 => σ 2 = .pointer (some ⟨(pb (β 2)), 0, none⟩) ∧ X 1 = eB (pb (β 2)) 27 #[.int .i64 0, .int .i64 0, .int .i64 0, .int .i64 0, .bool false, .slice none 0 0] | 3 => X 2 = eB (pb (β 2)) 27 #[.int .i64 5, .int .i64 0, .int .i64 (-1), .int .i64 0, .bool false, .slice none 0 0] | _ => True) [0, 2] [17, 18, 2] hst2 ?_ ?_ ?_
  · exact fun ix _ _ _ _ _ _ hs hb hx h => match ix, h with
    | 0, h | 1, h => (hs _ rfl).symm.trans h
    | 2, h => by dsimp only at h ⊢; rw [← hs 2 rfl, ← hb 2 rfl, ← hx 1 rfl]; exact h
    | 3, h => by dsimp only at h ⊢; rw [← hb 2 rfl, ← hx 2 rfl]; exact h
    | _ + 4, _ => trivial
  · refine ⟨⟨⟨⟨trivial, ?_⟩, ?_⟩, ?_⟩, ?_⟩
    · exact s0 rfl fun cx => by
        simp [go_sem, cx.sees.const] <;> rfl
    · exact sv0 rfl rfl rfl rfl rfl (fun _ _ _ h => h) fun ρ β W X cx => by
        have fF17 : ρ (.tmp 17) = .agg #[.int .i64 (-1), .int .i64 0] := (cx.anc 0 rfl)
        simp [go_sem, cx.sees.const, fF17] <;> rfl
    · refine sv_any rfl rfl fun ρ β W X cx => ?_
      exact dv_alloc (cs := #[.int .i64 0, .int .i64 0, .int .i64 0, .int .i64 0, .bool false, .slice none 0 0]) rfl (by kernel_rfl) rfl rfl (fun σ β' X' hs hb hv hx => ⟨hv, hx⟩)
    · refine sv_any rfl rfl fun ρ β W X cx => ?_
      exact dv_store (n := 6) rfl (cx.anc 2 rfl).1 (cx.anc 1 rfl) (by kernel_rfl) rfl rfl cx (cx.anc 2 rfl).2 rfl (Nat.le_of_ble_eq_true rfl) rfl rfl rfl rfl (fun σ β' X' hs hb hx => by rw [hb 2]; exact hx)
  intro σ β X W3 hD hX hst3 fr hfr
  obtain ⟨B2_3, hu_B2_3⟩ : ∃ z, pb (β 2) = z := ⟨_, rfl⟩
  simp only [zM, exq 0 (hX 0 _ rfl), exq 2 ((hD 3 lq)), hu_B2_3] at hst3
  simp only [zP, ed 17 (hD 0 lq), ed 18 (hD 1 lq), ed 2 ((hD 2 lq).1), hu_B2_3] at hfr
  clear hX hD hu_B2_3; subst hfr; clear σ β X
  refine then_normal ?_
  refine wp_seq ?_
  refine wp_region_X [0, 1, 0, 7] [[], [], [], [2]] [[], [], [2], [3]] [[], [], [], [2]] (fun ix σ β X => match ix with | 0 => σ 19 = .agg #[.int .i64 1, .int .i64 2] | 1 => σ 20 = .agg #[.int .i64 2, .int .i64 7, .int .i64 1, .int .i64 2, .bool true, .slice none 0 0] | 2 => σ 3 = .pointer (some ⟨(pb (β 3)), 0, none⟩) ∧ X 2 = eB (pb (β 3)) 27 #[.int .i64 0, .int .i64 0, .int .i64 0, .int .i64 0, .bool false, .slice none 0 0] | 3 => X 3 = eB (pb (β 3)) 27 #[.int .i64 2, .int .i64 7, .int .i64 1, .int .i64 2, .bool true, .slice none 0 0] | _ => True) [0, 1, 3] [19, 20, 3] hst3 ?_ ?_ ?_
  · exact fun ix _ _ _ _ _ _ hs hb hx h => match ix, h with
    | 0, h | 1, h => (hs _ rfl).symm.trans h
    | 2, h => by dsimp only at h ⊢; rw [← hs 3 rfl, ← hb 3 rfl, ← hx 2 rfl]; exact h
    | 3, h => by dsimp only at h ⊢; rw [← hb 3 rfl, ← hx 3 rfl]; exact h
    | _ + 4, _ => trivial
  · refine ⟨⟨⟨⟨trivial, ?_⟩, ?_⟩, ?_⟩, ?_⟩
    · exact s0 rfl fun cx => by
        simp [go_sem, cx.sees.const] <;> rfl
    · exact sv0 rfl rfl rfl rfl rfl (fun _ _ _ h => h) fun ρ β W X cx => by
        have fF19 : ρ (.tmp 19) = .agg #[.int .i64 1, .int .i64 2] := (cx.anc 0 rfl)
        simp [go_sem, cx.sees.const, fF19] <;> rfl
    · refine sv_any rfl rfl fun ρ β W X cx => ?_
      exact dv_alloc (cs := #[.int .i64 0, .int .i64 0, .int .i64 0, .int .i64 0, .bool false, .slice none 0 0]) rfl (by kernel_rfl) rfl rfl (fun σ β' X' hs hb hv hx => ⟨hv, hx⟩)
    · refine sv_any rfl rfl fun ρ β W X cx => ?_
      exact dv_store (n := 6) rfl (cx.anc 2 rfl).1 (cx.anc 1 rfl) (by kernel_rfl) rfl rfl cx (cx.anc 2 rfl).2 rfl (Nat.le_of_ble_eq_true rfl) rfl rfl rfl rfl (fun σ β' X' hs hb hx => by rw [hb 3]; exact hx)
  intro σ β X W4 hD hX hst4 fr hfr
  obtain ⟨B3_4, hu_B3_4⟩ : ∃ z, pb (β 3) = z := ⟨_, rfl⟩
  simp only [zM, exq 0 (hX 0 _ rfl), exq 1 (hX 1 _ rfl), exq 3 ((hD 3 lq)), hu_B3_4] at hst4
  simp only [zP, ed 19 (hD 0 lq), ed 20 (hD 1 lq), ed 3 ((hD 2 lq).1), hu_B3_4] at hfr
  clear hX hD hu_B3_4; subst hfr; clear σ β X
  refine then_normal ?_
  refine wp_seq ?_
  refine wp_region_X [0, 0, 0, 4, 15, 31, 63, 63, 127, 511] [[1], [], [], [], [0]] [] [] (fun ix σ β X => match ix with | 0 => σ 22 = .agg #[.int .i64 5, .int .i64 0, .int .i64 (-1), .int .i64 0, .bool false, .slice none 0 0] | 1 => σ 23 = .agg #[.int .i64 5, .slice none 0 0] | 2 => σ 24 = .slice A16_2 4 4 | 3 => σ 25 = .iface 43 (.slice A16_2 4 4) | 4 => σ 26 = .tuple #[.int .i64 (bes1F 5 ([] : List Int) ([] : List Int) (standF [1, 1, 2, 1]) 5), .int .i64 (bes2F 5 ([] : List Int) ([] : List Int) (standF [1, 1, 2, 1]) 0)] | 5 => σ 21 = .tuple #[.int .i64 (bes1F 5 ([] : List Int) ([] : List Int) (standF [1, 1, 2, 1]) 5), .int .i64 (bes2F 5 ([] : List Int) ([] : List Int) (standF [1, 1, 2, 1]) 0)] | 6 => σ 27 = .int .i64 (bes1F 5 ([] : List Int) ([] : List Int) (standF [1, 1, 2, 1]) 5) | 7 => σ 28 = .int .i64 (bes2F 5 ([] : List Int) ([] : List Int) (standF [1, 1, 2, 1]) 0) | 8 => σ 4 = .int .i64 (bes1F 5 ([] : List Int) ([] : List Int) (standF [1, 1, 2, 1]) 5) | 9 => σ 5 = .int .i64 (bes2F 5 ([] : List Int) ([] : List Int) (standF [1, 1, 2, 1]) 0) | _ => True) [0, 1, 2] [22, 23, 24, 25, 26, 21, 27, 28, 4, 5] hst4 ?_ ?_ ?_
  · exact fun ix _ _ _ _ _ _ hs hb hx h => match ix, h with
    | 0, h | 1, h | 2, h | 3, h | 4, h | 5, h | 6, h | 7, h | 8, h | 9, h => (hs _ rfl).symm.trans h
    | _ + 10, _ => trivial
  · refine ⟨⟨⟨⟨⟨⟨⟨⟨⟨⟨trivial, ?_⟩, ?_⟩, ?_⟩, ?_⟩, ?_⟩, ?_⟩, ?_⟩, ?_⟩, ?_⟩, ?_⟩
    · exact s0 rfl fun cx => run_loadB (n := 6) rfl (by kernel_rfl) (by kernel_rfl) (cx.out 2 rfl) (cx.blk (cx.init 1 _ rfl) rfl) (Nat.le_of_ble_eq_true rfl) rfl
    · exact s0 rfl fun cx => by
        simp [go_sem, cx.sees.const] <;> rfl
    · exact mo rfl
    · exact sv0 rfl rfl rfl rfl rfl (fun _ _ _ h => h) fun ρ β W X cx => by
        have fF24 : ρ (.tmp 24) = .slice A16_2 4 4 := (cx.anc 2 rfl)
        simp [go_sem, cx.sees.const, fF24]
    · exact sv_call rfl rfl rfl rfl rfl (fun _ _ _ h => h) fun ρ β W X cx => ⟨_, _, run_callF (args := #[.agg #[.int .i64 5, .int .i64 0, .int .i64 (-1), .int .i64 0, .bool false, .slice none 0 0], .agg #[.int .i64 5, .slice none 0 0], .slice none 0 0, .iface 43 (.slice A16_2 4 4)]) rfl cx.sees rfl (by kernel_rfl) (map4 (cx.anc 0 rfl) (cx.anc 1 rfl) (cx.sees.const _) (cx.anc 3 rfl)), beside_any _ _ _ _ _ _ _ _ _ _ _ ([] : List Int) _ _ ([] : List Int) _ _ _ _ (At.nil _ _) (by first | omega | decide | (simp; done) | (simp; omega)) (At.nil _ _) (by first | omega | decide | (simp; done) | (simp; omega)) (stand_ok _ _ _ [1, 1, 2, 1] _ (rfl) (At.of_own (cx.row (cx.init 0 _ rfl) rfl)) (by decide))⟩
    · exact s0 rfl fun cx => run_move' rfl (cx.anc 4 rfl)
    · exact s0 rfl fun cx => run_extract' rfl (cx.anc 5 rfl) rfl
    · exact s0 rfl fun cx => run_extract' rfl (cx.anc 5 rfl) rfl
    · exact s0 rfl fun cx => run_assign' rfl (cx.anc 6 rfl)
    · exact s0 rfl fun cx => run_assign' rfl (cx.anc 7 rfl)
  intro σ β X W5 hD hX hst5 fr hfr
  simp only [zM, exq 0 (hX 0 _ rfl), exq 1 (hX 1 _ rfl), exq 2 (hX 2 _ rfl)] at hst5
  simp only [zP, ed 22 (hD 0 lq), ed 23 (hD 1 lq), ed 24 (hD 2 lq), ed 25 (hD 3 lq), ed 26 (hD 4 lq), ed 21 (hD 5 lq), ed 27 (hD 6 lq), ed 28 (hD 7 lq), ed 4 (hD 8 lq), ed 5 (hD 9 lq)] at hfr
  clear hX hD; subst hfr; clear σ β X
  refine then_normal ?_
  refine wp_seq ?_
  refine wp_region_X [0, 0, 0, 4, 15, 31, 63, 63, 127, 511] [[2], [], [], [], [0]] [] [] (fun ix σ β X => match ix with | 0 => σ 30 = .agg #[.int .i64 2, .int .i64 7, .int .i64 1, .int .i64 2, .bool true, .slice none 0 0] | 1 => σ 31 = .agg #[.int .i64 9, .slice none 0 0] | 2 => σ 32 = .slice A16_2 4 4 | 3 => σ 33 = .iface 43 (.slice A16_2 4 4) | 4 => σ 34 = .tuple #[.int .i64 (bes1F 9 ([] : List Int) ([] : List Int) (standF [1, 1, 2, 1]) 2), .int .i64 (bes2F 9 ([] : List Int) ([] : List Int) (standF [1, 1, 2, 1]) 7)] | 5 => σ 29 = .tuple #[.int .i64 (bes1F 9 ([] : List Int) ([] : List Int) (standF [1, 1, 2, 1]) 2), .int .i64 (bes2F 9 ([] : List Int) ([] : List Int) (standF [1, 1, 2, 1]) 7)] | 6 => σ 35 = .int .i64 (bes1F 9 ([] : List Int) ([] : List Int) (standF [1, 1, 2, 1]) 2) | 7 => σ 36 = .int .i64 (bes2F 9 ([] : List Int) ([] : List Int) (standF [1, 1, 2, 1]) 7) | 8 => σ 6 = .int .i64 (bes1F 9 ([] : List Int) ([] : List Int) (standF [1, 1, 2, 1]) 2) | 9 => σ 7 = .int .i64 (bes2F 9 ([] : List Int) ([] : List Int) (standF [1, 1, 2, 1]) 7) | _ => True) [0, 1, 2] [30, 31, 32, 33, 34, 29, 35, 36, 6, 7] hst5 ?_ ?_ ?_
  · exact fun ix _ _ _ _ _ _ hs hb hx h => match ix, h with
    | 0, h | 1, h | 2, h | 3, h | 4, h | 5, h | 6, h | 7, h | 8, h | 9, h => (hs _ rfl).symm.trans h
    | _ + 10, _ => trivial
  · refine ⟨⟨⟨⟨⟨⟨⟨⟨⟨⟨trivial, ?_⟩, ?_⟩, ?_⟩, ?_⟩, ?_⟩, ?_⟩, ?_⟩, ?_⟩, ?_⟩, ?_⟩
    · exact s0 rfl fun cx => run_loadB (n := 6) rfl (by kernel_rfl) (by kernel_rfl) (cx.out 3 rfl) (cx.blk (cx.init 2 _ rfl) rfl) (Nat.le_of_ble_eq_true rfl) rfl
    · exact s0 rfl fun cx => by
        simp [go_sem, cx.sees.const] <;> rfl
    · exact mo rfl
    · exact sv0 rfl rfl rfl rfl rfl (fun _ _ _ h => h) fun ρ β W X cx => by
        have fF32 : ρ (.tmp 32) = .slice A16_2 4 4 := (cx.anc 2 rfl)
        simp [go_sem, cx.sees.const, fF32]
    · exact sv_call rfl rfl rfl rfl rfl (fun _ _ _ h => h) fun ρ β W X cx => ⟨_, _, run_callF (args := #[.agg #[.int .i64 2, .int .i64 7, .int .i64 1, .int .i64 2, .bool true, .slice none 0 0], .agg #[.int .i64 9, .slice none 0 0], .slice none 0 0, .iface 43 (.slice A16_2 4 4)]) rfl cx.sees rfl (by kernel_rfl) (map4 (cx.anc 0 rfl) (cx.anc 1 rfl) (cx.sees.const _) (cx.anc 3 rfl)), beside_any _ _ _ _ _ _ _ _ _ _ _ ([] : List Int) _ _ ([] : List Int) _ _ _ _ (At.nil _ _) (by first | omega | decide | (simp; done) | (simp; omega)) (At.nil _ _) (by first | omega | decide | (simp; done) | (simp; omega)) (stand_ok _ _ _ [1, 1, 2, 1] _ (rfl) (At.of_own (cx.row (cx.init 0 _ rfl) rfl)) (by decide))⟩
    · exact s0 rfl fun cx => run_move' rfl (cx.anc 4 rfl)
    · exact s0 rfl fun cx => run_extract' rfl (cx.anc 5 rfl) rfl
    · exact s0 rfl fun cx => run_extract' rfl (cx.anc 5 rfl) rfl
    · exact s0 rfl fun cx => run_assign' rfl (cx.anc 6 rfl)
    · exact s0 rfl fun cx => run_assign' rfl (cx.anc 7 rfl)
  intro σ β X W6 hD hX hst6 fr hfr
  simp only [zM, exq 0 (hX 0 _ rfl), exq 1 (hX 1 _ rfl), exq 2 (hX 2 _ rfl)] at hst6
  simp only [zP, ed 30 (hD 0 lq), ed 31 (hD 1 lq), ed 32 (hD 2 lq), ed 33 (hD 3 lq), ed 34 (hD 4 lq), ed 29 (hD 5 lq), ed 35 (hD 6 lq), ed 36 (hD 7 lq), ed 6 (hD 8 lq), ed 7 (hD 9 lq)] at hfr
  clear hX hD; subst hfr; clear σ β X
  refine then_normal ?_
  refine wp_seq ?_
  refine wp_region_X [0] [] [] [] (fun ix σ β X => match ix with | 0 => σ 8 = .string ⟨#[2, 7, 0, 2, 2, 1, 0, 1, 0]⟩ | _ => True) [0, 1, 2] [8] hst6 ?_ ?_ ?_
  · exact fun ix _ _ _ _ _ _ hs hb hx h => match ix, h with
    | 0, h => (hs _ rfl).symm.trans h
    | _ + 1, _ => trivial
  · refine ⟨trivial, ?_⟩
    · exact s0 rfl fun cx => run_assign' rfl (cx.sees.const _)
  intro σ β X W7 hD hX hst7 fr hfr
  simp only [zM, exq 0 (hX 0 _ rfl), exq 1 (hX 1 _ rfl), exq 2 (hX 2 _ rfl)] at hst7
  simp only [zP, ed 8 (hD 0 lq)] at hfr
  clear hX hD; subst hfr; clear σ β X
  refine then_normal ?_
  refine wp_seq ?_
  refine wp_region_X [0, 1, 3, 7, 7, 0, 47, 127] [[], [], [], [], [], [], [4]] [[], [3], [], [], [], [4], [5]] [[], [], [], [], [], [], [4]] (fun ix σ β X => match ix with | 0 => σ 38 = .string ⟨#[2, 7, 0, 2, 2, 1, 0, 1, 0]⟩ | 1 => σ 39 = .tuple #[.agg #[.int .i64 2, .int .i64 7, .int .i64 1, .int .i64 2, .bool true, .slice (sA (tg (tg (β 39) 0) 5)) 0 (sC (tg (tg (β 39) 0) 5))], .int .i64 0] ∧ X 3 = eO 103 3 (.slice (sA (tg (tg (β 39) 0) 5)) 0 (sC (tg (tg (β 39) 0) 5))) 0 (flatR ([] : List Val)) | 2 => σ 37 = .tuple #[.agg #[.int .i64 2, .int .i64 7, .int .i64 1, .int .i64 2, .bool true, .slice (sA (tg (tg (β 39) 0) 5)) 0 (sC (tg (tg (β 39) 0) 5))], .int .i64 0] | 3 => σ 40 = .agg #[.int .i64 2, .int .i64 7, .int .i64 1, .int .i64 2, .bool true, .slice (sA (tg (tg (β 39) 0) 5)) 0 (sC (tg (tg (β 39) 0) 5))] | 4 => σ 41 = .int .i64 0 | 5 => σ 9 = .pointer (some ⟨(pb (β 9)), 0, none⟩) ∧ X 4 = eB (pb (β 9)) 27 #[.int .i64 0, .int .i64 0, .int .i64 0, .int .i64 0, .bool false, .slice none 0 0] | 6 => X 5 = eB (pb (β 9)) 27 #[.int .i64 2, .int .i64 7, .int .i64 1, .int .i64 2, .bool true, .slice (sA (tg (tg (β 39) 0) 5)) 0 (sC (tg (tg (β 39) 0) 5))] | 7 => σ 10 = .int .i64 0 | _ => True) [0, 1, 2, 3, 5] [38, 39, 37, 40, 41, 9, 10] hst7 ?_ ?_ ?_
  · exact fun ix _ _ _ _ _ _ hs hb hx h => match ix, h with
    | 0, h | 4, h | 7, h => (hs _ rfl).symm.trans h
    | 1, h => by dsimp only at h ⊢; rw [← hs 39 rfl, ← hb 39 rfl, ← hx 3 rfl]; exact h
    | 2, h => by dsimp only at h ⊢; rw [← hs 37 rfl, ← hb 39 rfl]; exact h
    | 3, h => by dsimp only at h ⊢; rw [← hs 40 rfl, ← hb 39 rfl]; exact h
    | 5, h => by dsimp only at h ⊢; rw [← hs 9 rfl, ← hb 9 rfl, ← hx 4 rfl]; exact h
    | 6, h => by dsimp only at h ⊢; rw [← hb 9 rfl, ← hb 39 rfl, ← hx 5 rfl]; exact h
    | _ + 8, _ => trivial
  · refine ⟨⟨⟨⟨⟨⟨⟨⟨trivial, ?_⟩, ?_⟩, ?_⟩, ?_⟩, ?_⟩, ?_⟩, ?_⟩, ?_⟩
    · exact mo rfl
    · refine sv_any rfl rfl fun ρ β W X cx => ?_
      refine DoesU.call (run_callF (args := #[.string ⟨#[2, 7, 0, 2, 2, 1, 0, 1, 0]⟩]) rfl cx.sees rfl (by kernel_rfl) (map1 (cx.anc 0 rfl))) ?_
      refine (tread7 _ (hN.ext cx.upd.to_ext)).mono ?_
      rintro e W1 ⟨A4, c4, rfl, ho, hx⟩
      refine ⟨_, rfl, post_call [eO 103 3 (.slice A4 0 c4) 0 (flatR ([] : List Val))] rfl rfl hx (one_new (eO_new ho)) (List.pairwise_singleton _ _) (fun σ β' X' hs hb hv hN => ?_)⟩
      have hv1 := (hv 39 rfl).1; have hv2 := (hv 39 rfl).2
      exact ⟨hv1.trans (by rw [hv2]; rfl), (by rw [hv2]; exact (List.cons.inj hN).1)⟩
    · exact sv rfl rfl rfl rfl rfl _ (fun _ _ _ h => h) (fun β β' h => by rw [h 39 (by decide)]) fun ρ β W X cx => run_move' rfl (cx.anc 1 rfl).1
    · exact sv rfl rfl rfl rfl rfl _ (fun _ _ _ h => h) (fun β β' h => by rw [h 39 (by decide)]) fun ρ β W X cx => run_extract' rfl (cx.anc 2 rfl) rfl
    · exact s0 rfl fun cx => run_extract' rfl (cx.anc 2 rfl) rfl
    · refine sv_any rfl rfl fun ρ β W X cx => ?_
      exact dv_alloc (cs := #[.int .i64 0, .int .i64 0, .int .i64 0, .int .i64 0, .bool false, .slice none 0 0]) rfl (by kernel_rfl) rfl rfl (fun σ β' X' hs hb hv hx => ⟨hv, hx⟩)
    · refine sv_any rfl rfl fun ρ β W X cx => ?_
      exact dv_store (n := 6) rfl (cx.anc 5 rfl).1 (cx.anc 3 rfl) (by kernel_rfl) rfl rfl cx (cx.anc 5 rfl).2 rfl (Nat.le_of_ble_eq_true rfl) rfl rfl rfl rfl (fun σ β' X' hs hb hx => by rw [hb 9, hb 39]; exact hx)
    · exact s0 rfl fun cx => run_assign' rfl (cx.anc 4 rfl)
  intro σ β X W8 hD hX hst8 fr hfr
  obtain ⟨A39_8, hu_A39_8⟩ : ∃ z, sA (tg (tg (β 39) 0) 5) = z := ⟨_, rfl⟩
  obtain ⟨c39_8, hu_c39_8⟩ : ∃ z, sC (tg (tg (β 39) 0) 5) = z := ⟨_, rfl⟩
  obtain ⟨B9_8, hu_B9_8⟩ : ∃ z, pb (β 9) = z := ⟨_, rfl⟩
  simp only [zM, exq 0 (hX 0 _ rfl), exq 1 (hX 1 _ rfl), exq 2 (hX 2 _ rfl), exq 3 ((hD 1 lq).2), exq 5 ((hD 6 lq)), hu_A39_8, hu_c39_8, hu_B9_8] at hst8
  simp only [zP, ed 38 (hD 0 lq), ed 39 ((hD 1 lq).1), ed 37 (hD 2 lq), ed 40 (hD 3 lq), ed 41 (hD 4 lq), ed 9 ((hD 5 lq).1), ed 10 (hD 7 lq), hu_A39_8, hu_c39_8, hu_B9_8] at hfr
  clear hX hD hu_A39_8 hu_c39_8 hu_B9_8; subst hfr; clear σ β X
  refine then_normal ?_
  refine wp_seq ?_
  refine wp_region_X [0, 1, 3, 7, 15, 15, 0, 95, 255] [[], [], [], [], [], [], [], [5]] [[], [], [], [], [], [], [5], [6]] [[], [], [], [], [], [], [], [5]] (fun ix σ β X => match ix with | 0 => σ 43 = .string ⟨#[2, 7, 0, 2, 2, 1, 0, 1, 0]⟩ | 1 => σ 44 = .string (((⟨#[2, 7, 0, 2, 2, 1, 0, 1, 0]⟩ : ByteArray)).extract 0 8) | 2 => σ 45 = .tuple #[.agg #[.int .i64 0, .int .i64 0, .int .i64 0, .int .i64 0, .bool false, .slice none 0 0], .int .i64 10] | 3 => σ 42 = .tuple #[.agg #[.int .i64 0, .int .i64 0, .int .i64 0, .int .i64 0, .bool false, .slice none 0 0], .int .i64 10] | 4 => σ 46 = .agg #[.int .i64 0, .int .i64 0, .int .i64 0, .int .i64 0, .bool false, .slice none 0 0] | 5 => σ 47 = .int .i64 10 | 6 => σ 11 = .pointer (some ⟨(pb (β 11)), 0, none⟩) ∧ X 5 = eB (pb (β 11)) 27 #[.int .i64 0, .int .i64 0, .int .i64 0, .int .i64 0, .bool false, .slice none 0 0] | 7 => X 6 = eB (pb (β 11)) 27 #[.int .i64 0, .int .i64 0, .int .i64 0, .int .i64 0, .bool false, .slice none 0 0] | 8 => σ 12 = .int .i64 10 | _ => True) [0, 1, 2, 3, 4, 6] [43, 44, 45, 42, 46, 47, 11, 12] hst8 ?_ ?_ ?_
  · exact fun ix _ _ _ _ _ _ hs hb hx h => match ix, h with
    | 0, h | 1, h | 2, h | 3, h | 4, h | 5, h | 8, h => (hs _ rfl).symm.trans h
    | 6, h => by dsimp only at h ⊢; rw [← hs 11 rfl, ← hb 11 rfl, ← hx 5 rfl]; exact h
    | 7, h => by dsimp only at h ⊢; rw [← hb 11 rfl, ← hx 6 rfl]; exact h
    | _ + 9, _ => trivial
  · refine ⟨⟨⟨⟨⟨⟨⟨⟨⟨trivial, ?_⟩, ?_⟩, ?_⟩, ?_⟩, ?_⟩, ?_⟩, ?_⟩, ?_⟩, ?_⟩
    · exact mo rfl
    · exact s4 rfl (fun _ _ _ h => h) fun cx => run_slice_hi (l := 8) rfl (by kernel_rfl) (cx.anc 0 rfl) (cx.sees.const _) (by omega) (by first | omega | decide)
    · exact sv_call rfl rfl rfl rfl rfl (fun _ _ _ h => h) fun ρ β W X cx => ⟨_, _, run_callF (args := #[.string (((⟨#[2, 7, 0, 2, 2, 1, 0, 1, 0]⟩ : ByteArray)).extract 0 8)]) rfl cx.sees rfl (by kernel_rfl) (map1 (cx.anc 1 rfl)), tread8 _⟩
    · exact s0 rfl fun cx => run_move' rfl (cx.anc 2 rfl)
    · exact s0 rfl fun cx => run_extract' rfl (cx.anc 3 rfl) rfl
    · exact s0 rfl fun cx => run_extract' rfl (cx.anc 3 rfl) rfl
    · refine sv_any rfl rfl fun ρ β W X cx => ?_
      exact dv_alloc (cs := #[.int .i64 0, .int .i64 0, .int .i64 0, .int .i64 0, .bool false, .slice none 0 0]) rfl (by kernel_rfl) rfl rfl (fun σ β' X' hs hb hv hx => ⟨hv, hx⟩)
    · refine sv_any rfl rfl fun ρ β W X cx => ?_
      exact dv_store (n := 6) rfl (cx.anc 6 rfl).1 (cx.anc 4 rfl) (by kernel_rfl) rfl rfl cx (cx.anc 6 rfl).2 rfl (Nat.le_of_ble_eq_true rfl) rfl rfl rfl rfl (fun σ β' X' hs hb hx => by rw [hb 11]; exact hx)
    · exact s0 rfl fun cx => run_assign' rfl (cx.anc 5 rfl)
  intro σ β X W9 hD hX hst9 fr hfr
  obtain ⟨B11_9, hu_B11_9⟩ : ∃ z, pb (β 11) = z := ⟨_, rfl⟩
  simp only [zM, exq 0 (hX 0 _ rfl), exq 1 (hX 1 _ rfl), exq 2 (hX 2 _ rfl), exq 3 (hX 3 _ rfl), exq 4 (hX 4 _ rfl), exq 6 ((hD 7 lq)), hu_B11_9] at hst9
  simp only [zP, ed 43 (hD 0 lq), ed 44 (hD 1 lq), ed 45 (hD 2 lq), ed 42 (hD 3 lq), ed 46 (hD 4 lq), ed 47 (hD 5 lq), ed 11 ((hD 6 lq).1), ed 12 (hD 8 lq), hu_B11_9] at hfr
  clear hX hD hu_B11_9; subst hfr; clear σ β X
  refine then_normal ?_
  refine wp_seq ?_
  have hd11 : (oldF (standF [1, 1, 2, 1]) 6 5 || fzX (standF [1, 1, 2, 1]) 0) = true := by decide
  refine wp_region_X [0, 0, 2, 7, 15, 31, 31, 0, 191, 511] [[1], [], [], [0], [], [], [], [], [7]] [[], [], [], [6], [], [], [], [7], [8]] [[], [], [], [], [], [], [], [], [7]] (fun ix σ β X => match ix with | 0 => σ 49 = .agg #[.int .i64 5, .int .i64 0, .int .i64 (-1), .int .i64 0, .bool false, .slice none 0 0] | 1 => σ 50 = .slice A16_2 4 4 | 2 => σ 51 = .iface 43 (.slice A16_2 4 4) | 3 => σ 52 = .tuple #[.agg #[.int .i64 (fzA 6 (standF [1, 1, 2, 1]) 5), .int .i64 (if fzX (standF [1, 1, 2, 1]) 0 then 0 else 0), .int .i64 (if fzX (standF [1, 1, 2, 1]) 0 then -1 else (-1)), .int .i64 (if fzX (standF [1, 1, 2, 1]) 0 then 0 else 0), .bool false, .slice (sA (tg (tg (β 52) 0) 5)) 0 (sC (tg (tg (β 52) 0) 5))], .bool (oldF (standF [1, 1, 2, 1]) 6 5 || fzX (standF [1, 1, 2, 1]) 0)] ∧ X 6 = eO 103 3 (.slice (sA (tg (tg (β 52) 0) 5)) 0 (sC (tg (tg (β 52) 0) 5))) 0 (flatR ([] : List Val)) | 4 => σ 48 = .tuple #[.agg #[.int .i64 (fzA 6 (standF [1, 1, 2, 1]) 5), .int .i64 (if fzX (standF [1, 1, 2, 1]) 0 then 0 else 0), .int .i64 (if fzX (standF [1, 1, 2, 1]) 0 then -1 else (-1)), .int .i64 (if fzX (standF [1, 1, 2, 1]) 0 then 0 else 0), .bool false, .slice (sA (tg (tg (β 52) 0) 5)) 0 (sC (tg (tg (β 52) 0) 5))], .bool (oldF (standF [1, 1, 2, 1]) 6 5 || fzX (standF [1, 1, 2, 1]) 0)] | 5 => σ 53 = .agg #[.int .i64 (fzA 6 (standF [1, 1, 2, 1]) 5), .int .i64 (if fzX (standF [1, 1, 2, 1]) 0 then 0 else 0), .int .i64 (if fzX (standF [1, 1, 2, 1]) 0 then -1 else (-1)), .int .i64 (if fzX (standF [1, 1, 2, 1]) 0 then 0 else 0), .bool false, .slice (sA (tg (tg (β 52) 0) 5)) 0 (sC (tg (tg (β 52) 0) 5))] | 6 => σ 54 = .bool (oldF (standF [1, 1, 2, 1]) 6 5 || fzX (standF [1, 1, 2, 1]) 0) | 7 => σ 13 = .pointer (some ⟨(pb (β 13)), 0, none⟩) ∧ X 7 = eB (pb (β 13)) 27 #[.int .i64 0, .int .i64 0, .int .i64 0, .int .i64 0, .bool false, .slice none 0 0] | 8 => X 8 = eB (pb (β 13)) 27 #[.int .i64 (fzA 6 (standF [1, 1, 2, 1]) 5), .int .i64 (if fzX (standF [1, 1, 2, 1]) 0 then 0 else 0), .int .i64 (if fzX (standF [1, 1, 2, 1]) 0 then -1 else (-1)), .int .i64 (if fzX (standF [1, 1, 2, 1]) 0 then 0 else 0), .bool false, .slice (sA (tg (tg (β 52) 0) 5)) 0 (sC (tg (tg (β 52) 0) 5))] | 9 => σ 14 = .bool true | _ => True) [0, 1, 2, 3, 4, 5, 6, 8] [49, 50, 51, 52, 48, 53, 54, 13, 14] hst9 ?_ ?_ ?_
  · exact fun ix _ _ _ _ _ _ hs hb hx h => match ix, h with
    | 0, h | 1, h | 2, h | 6, h | 9, h => (hs _ rfl).symm.trans h
    | 3, h => by dsimp only at h ⊢; rw [← hs 52 rfl, ← hb 52 rfl, ← hx 6 rfl]; exact h
    | 4, h => by dsimp only at h ⊢; rw [← hs 48 rfl, ← hb 52 rfl]; exact h
    | 5, h => by dsimp only at h ⊢; rw [← hs 53 rfl, ← hb 52 rfl]; exact h
    | 7, h => by dsimp only at h ⊢; rw [← hs 13 rfl, ← hb 13 rfl, ← hx 7 rfl]; exact h
    | 8, h => by dsimp only at h ⊢; rw [← hb 13 rfl, ← hb 52 rfl, ← hx 8 rfl]; exact h
    | _ + 10, _ => trivial
  · refine ⟨⟨⟨⟨⟨⟨⟨⟨⟨⟨trivial, ?_⟩, ?_⟩, ?_⟩, ?_⟩, ?_⟩, ?_⟩, ?_⟩, ?_⟩, ?_⟩, ?_⟩
    · exact s0 rfl fun cx => run_loadB (n := 6) rfl (by kernel_rfl) (by kernel_rfl) (cx.out 2 rfl) (cx.blk (cx.init 1 _ rfl) rfl) (Nat.le_of_ble_eq_true rfl) rfl
    · exact mo rfl
    · exact sv0 rfl rfl rfl rfl rfl (fun _ _ _ h => h) fun ρ β W X cx => by
        have fF50 : ρ (.tmp 50) = .slice A16_2 4 4 := (cx.anc 1 rfl)
        simp [go_sem, cx.sees.const, fF50]
    · refine sv_any rfl rfl fun ρ β W X cx => ?_
      refine DoesU.call (run_callF (args := #[.agg #[.int .i64 5, .int .i64 0, .int .i64 (-1), .int .i64 0, .bool false, .slice none 0 0], .int .i64 6, .iface 43 (.slice A16_2 4 4)]) rfl cx.sees rfl (by kernel_rfl) (map3 (cx.anc 0 rfl) (cx.sees.const _) (cx.anc 2 rfl))) ?_
      refine (freeze_any _ _ _ _ _ _ _ ([] : List Val) _ _ _ _ _ (At.nil _ _) (by first | omega | decide | (simp; done) | (simp; omega)) (stand_ok _ _ _ [1, 1, 2, 1] _ (rfl) (At.of_own (cx.row (cx.init 0 _ rfl) rfl)) (by decide)) (hN.ext cx.upd.to_ext)).mono ?_
      rintro e W1 ⟨A4, c4, rfl, ho, hx⟩
      refine ⟨_, rfl, post_call [eO 103 3 (.slice A4 0 c4) 0 (flatR ([] : List Val))] rfl rfl hx (one_new (eO_new ho)) (List.pairwise_singleton _ _) (fun σ β' X' hs hb hv hN => ?_)⟩
      have hv1 := (hv 52 rfl).1; have hv2 := (hv 52 rfl).2
      exact ⟨hv1.trans (by rw [hv2]; rfl), (by rw [hv2]; exact (List.cons.inj hN).1)⟩
    · exact sv rfl rfl rfl rfl rfl _ (fun _ _ _ h => h) (fun β β' h => by rw [h 52 (by decide)]) fun ρ β W X cx => run_move' rfl (cx.anc 3 rfl).1
    · exact sv rfl rfl rfl rfl rfl _ (fun _ _ _ h => h) (fun β β' h => by rw [h 52 (by decide)]) fun ρ β W X cx => run_extract' rfl (cx.anc 4 rfl) rfl
    · exact s0 rfl fun cx => run_extract' rfl (cx.anc 4 rfl) rfl
    · refine sv_any rfl rfl fun ρ β W X cx => ?_
      exact dv_alloc (cs := #[.int .i64 0, .int .i64 0, .int .i64 0, .int .i64 0, .bool false, .slice none 0 0]) rfl (by kernel_rfl) rfl rfl (fun σ β' X' hs hb hv hx => ⟨hv, hx⟩)
    · refine sv_any rfl rfl fun ρ β W X cx => ?_
      exact dv_store (n := 6) rfl (cx.anc 7 rfl).1 (cx.anc 5 rfl) (by kernel_rfl) rfl rfl cx (cx.anc 7 rfl).2 rfl (Nat.le_of_ble_eq_true rfl) rfl rfl rfl rfl (fun σ β' X' hs hb hx => by rw [hb 13, hb 52]; exact hx)
    · exact s0 rfl fun cx => run_assign' rfl (Eq.trans (cx.anc 6 rfl) (congrArg Value.bool hd11))
  intro σ β X W10 hD hX hst10 fr hfr
  obtain ⟨A52_10, hu_A52_10⟩ : ∃ z, sA (tg (tg (β 52) 0) 5) = z := ⟨_, rfl⟩
  obtain ⟨c52_10, hu_c52_10⟩ : ∃ z, sC (tg (tg (β 52) 0) 5) = z := ⟨_, rfl⟩
  obtain ⟨B13_10, hu_B13_10⟩ : ∃ z, pb (β 13) = z := ⟨_, rfl⟩
  simp only [zM, exq 0 (hX 0 _ rfl), exq 1 (hX 1 _ rfl), exq 2 (hX 2 _ rfl), exq 3 (hX 3 _ rfl), exq 4 (hX 4 _ rfl), exq 5 (hX 5 _ rfl), exq 6 ((hD 3 lq).2), exq 8 ((hD 8 lq)), hu_A52_10, hu_c52_10, hu_B13_10] at hst10
  simp only [zP, ed 49 (hD 0 lq), ed 50 (hD 1 lq), ed 51 (hD 2 lq), ed 52 ((hD 3 lq).1), ed 48 (hD 4 lq), ed 53 (hD 5 lq), ed 54 (hD 6 lq), ed 13 ((hD 7 lq).1), ed 14 (hD 9 lq), hu_A52_10, hu_c52_10, hu_B13_10] at hfr
  clear hX hD hu_A52_10 hu_c52_10 hu_B13_10; subst hfr; clear σ β X
  refine then_normal ?_
  refine wp_seq ?_
  have hd13 : (visF 6 ([] : List Int) ([] : List Int) (standF [1, 1, 2, 1]) 5 0) = true := by decide
  have hd14 : (visF 5 ([] : List Int) ([] : List Int) (standF [1, 1, 2, 1]) 5 0) = false := by decide
  have hd15 : (visF 9 ([] : List Int) ([] : List Int) (standF [1, 1, 2, 1]) 2 7) = true := by decide
  have hd16 : (visF 9 ([] : List Int) [7] (standF [1, 1, 2, 1]) 2 7) = false := by decide
  refine wp_region_X [0, 0, 0, 4, 15, 31, 63, 63, 63, 319, 1023, 2047, 4095, 8191, 16383, 16383, 16383, 81919, 262143, 524287, 1048575, 2097151, 2097151, 2097151, 2097151, 18874367, 67108863, 134217727, 268435455, 536870911] [[1], [], [], [], [0], [], [1], [], [], [], [0], [], [], [], [2], [], [], [], [0], [], [], [2], [], [], [], [], [8, 0]] [[], [], [], [], [], [], [], [], [], [], [], [], [], [], [], [], [], [], [], [], [], [], [], [8]] [] (fun ix σ β X => match ix with | 0 => σ 55 = .agg #[.int .i64 5, .int .i64 0, .int .i64 (-1), .int .i64 0, .bool false, .slice none 0 0] | 1 => σ 56 = .agg #[.int .i64 6, .slice none 0 0] | 2 => σ 57 = .slice A16_2 4 4 | 3 => σ 58 = .iface 43 (.slice A16_2 4 4) | 4 => σ 59 = .bool (visF 6 ([] : List Int) ([] : List Int) (standF [1, 1, 2, 1]) 5 0) | 5 => σ 60 = .bool true | 6 => σ 61 = .agg #[.int .i64 5, .int .i64 0, .int .i64 (-1), .int .i64 0, .bool false, .slice none 0 0] | 7 => σ 62 = .agg #[.int .i64 5, .slice none 0 0] | 8 => σ 63 = .slice A16_2 4 4 | 9 => σ 64 = .iface 43 (.slice A16_2 4 4) | 10 => σ 65 = .bool (visF 5 ([] : List Int) ([] : List Int) (standF [1, 1, 2, 1]) 5 0) | 11 => σ 66 = .bool true | 12 => σ 67 = .bool true | 13 => σ 68 = .bool true | 14 => σ 69 = .agg #[.int .i64 2, .int .i64 7, .int .i64 1, .int .i64 2, .bool true, .slice none 0 0] | 15 => σ 70 = .agg #[.int .i64 9, .slice none 0 0] | 16 => σ 71 = .slice A16_2 4 4 | 17 => σ 72 = .iface 43 (.slice A16_2 4 4) | 18 => σ 73 = .bool (visF 9 ([] : List Int) ([] : List Int) (standF [1, 1, 2, 1]) 2 7) | 19 => σ 74 = .bool true | 20 => σ 75 = .bool true | 21 => σ 76 = .agg #[.int .i64 2, .int .i64 7, .int .i64 1, .int .i64 2, .bool true, .slice none 0 0] | 22 => σ 77 = .agg #[.int .i64 9, .slice none 0 0] | 23 => σ 78 = .slice (sA (β 78)) 1 1 ∧ X 8 = eO 3 1 (.slice (sA (β 78)) 1 1) 1 ([.int .i64 7]) | 24 => σ 79 = .slice A16_2 4 4 | 25 => σ 80 = .iface 43 (.slice A16_2 4 4) | 26 => σ 81 = .bool (visF 9 ([] : List Int) [7] (standF [1, 1, 2, 1]) 2 7) | 27 => σ 82 = .bool true | 28 => σ 83 = .bool true | 29 => σ 15 = .bool true | _ => True) [0, 1, 2, 3, 4, 5, 6, 7, 8] [55, 56, 57, 58, 59, 60, 61, 62, 63, 64, 65, 66, 67, 68, 69, 70, 71, 72, 73, 74, 75, 76, 77, 78, 79, 80, 81, 82, 83, 15] hst10 ?_ ?_ ?_
  · exact fun ix _ _ _ _ _ _ hs hb hx h => match ix, h with
    | 0, h | 1, h | 2, h | 3, h | 4, h | 5, h | 6, h | 7, h | 8, h | 9, h | 10, h | 11, h | 12, h | 13, h | 14, h | 15, h | 16, h | 17, h | 18, h | 19, h | 20, h | 21, h | 22, h | 24, h | 25, h | 26, h | 27, h | 28, h | 29, h => (hs _ rfl).symm.trans h
    | 23, h => by dsimp only at h ⊢; rw [← hs 78 rfl, ← hb 78 rfl, ← hx 8 rfl]; exact h
    | _ + 30, _ => trivial
  · refine ⟨⟨⟨⟨⟨⟨⟨⟨⟨⟨⟨⟨⟨⟨⟨⟨⟨⟨⟨⟨⟨⟨⟨⟨⟨⟨⟨⟨⟨⟨trivial, ?_⟩, ?_⟩, ?_⟩, ?_⟩, ?_⟩, ?_⟩, ?_⟩, ?_⟩, ?_⟩, ?_⟩, ?_⟩, ?_⟩, ?_⟩, ?_⟩, ?_⟩, ?_⟩, ?_⟩, ?_⟩, ?_⟩, ?_⟩, ?_⟩, ?_⟩, ?_⟩, ?_⟩, ?_⟩, ?_⟩, ?_⟩, ?_⟩, ?_⟩, ?_⟩
    · exact s0 rfl fun cx => run_loadB (n := 6) rfl (by kernel_rfl) (by kernel_rfl) (cx.out 2 rfl) (cx.blk (cx.init 1 _ rfl) rfl) (Nat.le_of_ble_eq_true rfl) rfl
    · exact s0 rfl fun cx => by
        simp [go_sem, cx.sees.const] <;> rfl
    · exact mo rfl
    · exact sv0 rfl rfl rfl rfl rfl (fun _ _ _ h => h) fun ρ β W X cx => by
        have fF57 : ρ (.tmp 57) = .slice A16_2 4 4 := (cx.anc 2 rfl)
        simp [go_sem, cx.sees.const, fF57]
    · exact sv_call rfl rfl rfl rfl rfl (fun _ _ _ h => h) fun ρ β W X cx => ⟨_, _, run_callF (args := #[.agg #[.int .i64 5, .int .i64 0, .int .i64 (-1), .int .i64 0, .bool false, .slice none 0 0], .agg #[.int .i64 6, .slice none 0 0], .slice none 0 0, .iface 43 (.slice A16_2 4 4)]) rfl cx.sees rfl (by kernel_rfl) (map4 (cx.anc 0 rfl) (cx.anc 1 rfl) (cx.sees.const _) (cx.anc 3 rfl)), visible_any _ _ _ _ _ _ _ _ _ _ _ ([] : List Int) _ _ ([] : List Int) _ _ _ _ (At.nil _ _) (by first | omega | decide | (simp; done) | (simp; omega)) (At.nil _ _) (by first | omega | decide | (simp; done) | (simp; omega)) (stand_ok _ _ _ [1, 1, 2, 1] _ (rfl) (At.of_own (cx.row (cx.init 0 _ rfl) rfl)) (by decide))⟩
    · exact s0 rfl fun cx => run_move' rfl (Eq.trans (cx.anc 4 rfl) (congrArg Value.bool hd13))
    · exact s1 rfl (fun cx => (cx.anc 5 rfl)) fun cx => run_loadB (n := 6) rfl (by kernel_rfl) (by kernel_rfl) (cx.out 2 rfl) (cx.blk (cx.init 1 _ rfl) rfl) (Nat.le_of_ble_eq_true rfl) rfl
    · exact s1 rfl (fun cx => (cx.anc 5 rfl)) fun cx => by
        simp [go_sem, cx.sees.const] <;> rfl
    · exact s1 rfl (fun cx => (cx.anc 5 rfl)) fun cx => run_move' rfl (cx.out 1 rfl)
    · exact sv0_on rfl rfl rfl rfl rfl rfl (fun _ _ _ h => h) (fun _ _ _ _ cx => (cx.anc 5 rfl)) fun ρ β W X cx => by
        have fF63 : ρ (.tmp 63) = .slice A16_2 4 4 := (cx.anc 8 rfl)
        simp [go_sem, cx.sees.const, fF63]
    · exact sv_call_on rfl rfl rfl rfl rfl rfl (fun _ _ _ h => h) (fun _ _ _ _ cx => (cx.anc 5 rfl)) fun ρ β W X cx => ⟨_, _, run_callF (args := #[.agg #[.int .i64 5, .int .i64 0, .int .i64 (-1), .int .i64 0, .bool false, .slice none 0 0], .agg #[.int .i64 5, .slice none 0 0], .slice none 0 0, .iface 43 (.slice A16_2 4 4)]) rfl cx.sees rfl (by kernel_rfl) (map4 (cx.anc 6 rfl) (cx.anc 7 rfl) (cx.sees.const _) (cx.anc 9 rfl)), visible_any _ _ _ _ _ _ _ _ _ _ _ ([] : List Int) _ _ ([] : List Int) _ _ _ _ (At.nil _ _) (by first | omega | decide | (simp; done) | (simp; omega)) (At.nil _ _) (by first | omega | decide | (simp; done) | (simp; omega)) (stand_ok _ _ _ [1, 1, 2, 1] _ (rfl) (At.of_own (cx.row (cx.init 0 _ rfl) rfl)) (by decide))⟩
    · exact s1 rfl (fun cx => (cx.anc 5 rfl)) fun cx => run_not rfl (Eq.trans (cx.anc 10 rfl) (congrArg Value.bool hd14)) rfl
    · exact s0 rfl fun cx => run_pick_t rfl (cx.anc 5 rfl) (cx.anc 11 rfl)
    · exact s0 rfl fun cx => run_move' rfl (cx.anc 12 rfl)
    · exact s1 rfl (fun cx => (cx.anc 13 rfl)) fun cx => run_loadB (n := 6) rfl (by kernel_rfl) (by kernel_rfl) (cx.out 3 rfl) (cx.blk (cx.init 2 _ rfl) rfl) (Nat.le_of_ble_eq_true rfl) rfl
    · exact s1 rfl (fun cx => (cx.anc 13 rfl)) fun cx => by
        simp [go_sem, cx.sees.const] <;> rfl
    · exact s1 rfl (fun cx => (cx.anc 13 rfl)) fun cx => run_move' rfl (cx.out 1 rfl)
    · exact sv0_on rfl rfl rfl rfl rfl rfl (fun _ _ _ h => h) (fun _ _ _ _ cx => (cx.anc 13 rfl)) fun ρ β W X cx => by
        have fF71 : ρ (.tmp 71) = .slice A16_2 4 4 := (cx.anc 16 rfl)
        simp [go_sem, cx.sees.const, fF71]
    · exact sv_call_on rfl rfl rfl rfl rfl rfl (fun _ _ _ h => h) (fun _ _ _ _ cx => (cx.anc 13 rfl)) fun ρ β W X cx => ⟨_, _, run_callF (args := #[.agg #[.int .i64 2, .int .i64 7, .int .i64 1, .int .i64 2, .bool true, .slice none 0 0], .agg #[.int .i64 9, .slice none 0 0], .slice none 0 0, .iface 43 (.slice A16_2 4 4)]) rfl cx.sees rfl (by kernel_rfl) (map4 (cx.anc 14 rfl) (cx.anc 15 rfl) (cx.sees.const _) (cx.anc 17 rfl)), visible_any _ _ _ _ _ _ _ _ _ _ _ ([] : List Int) _ _ ([] : List Int) _ _ _ _ (At.nil _ _) (by first | omega | decide | (simp; done) | (simp; omega)) (At.nil _ _) (by first | omega | decide | (simp; done) | (simp; omega)) (stand_ok _ _ _ [1, 1, 2, 1] _ (rfl) (At.of_own (cx.row (cx.init 0 _ rfl) rfl)) (by decide))⟩
    · exact s0 rfl fun cx => run_pick_t rfl (cx.anc 13 rfl) (Eq.trans (cx.anc 18 rfl) (congrArg Value.bool hd15))
    · exact s0 rfl fun cx => run_move' rfl (cx.anc 19 rfl)
    · exact s1 rfl (fun cx => (cx.anc 20 rfl)) fun cx => run_loadB (n := 6) rfl (by kernel_rfl) (by kernel_rfl) (cx.out 3 rfl) (cx.blk (cx.init 2 _ rfl) rfl) (Nat.le_of_ble_eq_true rfl) rfl
    · exact s1 rfl (fun cx => (cx.anc 20 rfl)) fun cx => by
        simp [go_sem, cx.sees.const] <;> rfl
    · refine sv_any_on rfl rfl rfl (fun _ _ _ _ cx => (cx.anc 20 rfl)) fun ρ β W X cx => ?_
      exact dv_lit (e := 3) (xs := [.int .i64 7]) rfl (by simp [go_sem, cx.sees.const]) rfl (by decide) rfl rfl (fun σ β' X' hs hb hv hx => ⟨hv, hx⟩)
    · exact s1 rfl (fun cx => (cx.anc 20 rfl)) fun cx => run_move' rfl (cx.out 1 rfl)
    · exact sv0_on rfl rfl rfl rfl rfl rfl (fun _ _ _ h => h) (fun _ _ _ _ cx => (cx.anc 20 rfl)) fun ρ β W X cx => by
        have fF79 : ρ (.tmp 79) = .slice A16_2 4 4 := (cx.anc 24 rfl)
        simp [go_sem, cx.sees.const, fF79]
    · exact sv_call_on rfl rfl rfl rfl rfl rfl (fun _ _ _ h => h) (fun _ _ _ _ cx => (cx.anc 20 rfl)) fun ρ β W X cx => ⟨_, _, run_callF (args := #[.agg #[.int .i64 2, .int .i64 7, .int .i64 1, .int .i64 2, .bool true, .slice none 0 0], .agg #[.int .i64 9, .slice none 0 0], .slice (sA (β 78)) 1 1, .iface 43 (.slice A16_2 4 4)]) rfl cx.sees rfl (by kernel_rfl) (map4 (cx.anc 21 rfl) (cx.anc 22 rfl) (cx.anc 23 rfl).1 (cx.anc 25 rfl)), visible_any _ _ _ _ _ _ _ _ _ _ _ ([] : List Int) _ _ [7] _ _ _ _ (At.nil _ _) (by first | omega | decide | (simp; done) | (simp; omega)) (At.of_own (cx.row (cx.anc 23 rfl).2 rfl)) (by first | omega | decide | (simp; done) | (simp; omega)) (stand_ok _ _ _ [1, 1, 2, 1] _ (rfl) (At.of_own (cx.row (cx.init 0 _ rfl) rfl)) (by decide))⟩
    · exact s1 rfl (fun cx => (cx.anc 20 rfl)) fun cx => run_not rfl (Eq.trans (cx.anc 26 rfl) (congrArg Value.bool hd16)) rfl
    · exact s0 rfl fun cx => run_pick_t rfl (cx.anc 20 rfl) (cx.anc 27 rfl)
    · exact s0 rfl fun cx => run_assign' rfl (cx.anc 28 rfl)
  intro σ β X W12 hD hX hst12 fr hfr
  obtain ⟨A78_12, hu_A78_12⟩ : ∃ z, sA (β 78) = z := ⟨_, rfl⟩
  simp only [zM, exq 0 (hX 0 _ rfl), exq 1 (hX 1 _ rfl), exq 2 (hX 2 _ rfl), exq 3 (hX 3 _ rfl), exq 4 (hX 4 _ rfl), exq 5 (hX 5 _ rfl), exq 6 (hX 6 _ rfl), exq 7 (hX 7 _ rfl), exq 8 ((hD 23 lq).2), hu_A78_12] at hst12
  simp only [zP, ed 55 (hD 0 lq), ed 56 (hD 1 lq), ed 57 (hD 2 lq), ed 58 (hD 3 lq), ed 59 (hD 4 lq), ed 60 (hD 5 lq), ed 61 (hD 6 lq), ed 62 (hD 7 lq), ed 63 (hD 8 lq), ed 64 (hD 9 lq), ed 65 (hD 10 lq), ed 66 (hD 11 lq), ed 67 (hD 12 lq), ed 68 (hD 13 lq), ed 69 (hD 14 lq), ed 70 (hD 15 lq), ed 71 (hD 16 lq), ed 72 (hD 17 lq), ed 73 (hD 18 lq), ed 74 (hD 19 lq), ed 75 (hD 20 lq), ed 76 (hD 21 lq), ed 77 (hD 22 lq), ed 78 ((hD 23 lq).1), ed 79 (hD 24 lq), ed 80 (hD 25 lq), ed 81 (hD 26 lq), ed 82 (hD 27 lq), ed 83 (hD 28 lq), ed 15 (hD 29 lq), hu_A78_12] at hfr
  clear hX hD hu_A78_12; subst hfr; clear σ β X
  refine then_normal ?_
  refine wp_seq ?_
  have hd18 : ((bes1F 5 ([] : List Int) ([] : List Int) (standF [1, 1, 2, 1]) 5) == 5) = true := by decide
  have hd19 : ((bes2F 9 ([] : List Int) ([] : List Int) (standF [1, 1, 2, 1]) 7) == 7) = true := by decide
  have hd20 : ((busyF ([] : List Int) (standF [1, 1, 2, 1]) 7) == 7) = true := by decide
  have hd21 : ((busyF [7] (standF [1, 1, 2, 1]) 7) == 0) = true := by decide
  have hd22 : ((tbytesF 2 7 1 2 true ([] : List Val)).toList == ((⟨#[2, 7, 0, 2, 2, 1, 0, 1, 0]⟩ : ByteArray)).toList) = true := by rw [tb7]; exact beq_self_eq_true _
  have hd23 : (sameV 2 7 1 2 true ([] : List Val) 2 7 1 2 true ([] : List Val)) = true := by decide
  have hd24 : ((fzA 6 (standF [1, 1, 2, 1]) 5) == 2) = true := by decide
  have hd25 : (allF (standF [1, 1, 2, 1]) 6 5 0) = true := by decide
  have hd26 : (deadF (standF [1, 1, 2, 1]) 6 5 0) = false := by decide
  refine wp_region_X [0, 1, 3, 7, 15, 31, 63, 127, 255, 511, 1023, 1023, 3071, 8191, 16383, 32767, 65535, 131071, 131071, 131071, 655359, 2097151, 4194303, 8388607, 16777215, 33554431, 67108863, 33554431, 268435455, 536870911, 1073741823, 2147483647, 4294967295, 8589934591, 17179869183, 34359738367, 34359738367, 137438953471, 274877906943, 549755813887, 1099511627775, 2199023255551, 4398046511103, 8796093022207, 17592186044415, 35184372088831, 70368744177663, 140737488355327, 281474976710655, 562949953421311, 1125899906842623, 2251799813685247, 4503599627370495, 4503599627370495, 13510798882111487, 36028797018963967, 72057594037927935, 144115188075855871, 288230376151711743, 288230376151711743, 864691128455135231, 2305843009213693951, 4611686018427387903, 9223372036854775807, 18446744073709551615] [[], [], [], [], [], [], [], [], [], [], [2], [], [], [0], [], [], [], [2], [], [], [], [9, 0], [], [], [], [2], [], [], [], [], [], [], [], [], [], [4], [2], [3], [], [], [], [], [], [], [], [], [], [], [7], [], [], [], [1], [], [], [0], [], [], [1], [], [], [0]] [[], [], [], [], [], [], [], [], [], [], [], [], [], [], [], [], [], [], [9]] [] (fun ix σ β X => match ix with | 0 => σ 84 = .bool true | 1 => σ 85 = .bool true | 2 => σ 86 = .int .i64 (bes1F 5 ([] : List Int) ([] : List Int) (standF [1, 1, 2, 1]) 5) | 3 => σ 87 = .bool ((bes1F 5 ([] : List Int) ([] : List Int) (standF [1, 1, 2, 1]) 5) == 5) | 4 => σ 88 = .bool true | 5 => σ 89 = .bool true | 6 => σ 90 = .int .i64 (bes2F 9 ([] : List Int) ([] : List Int) (standF [1, 1, 2, 1]) 7) | 7 => σ 91 = .bool ((bes2F 9 ([] : List Int) ([] : List Int) (standF [1, 1, 2, 1]) 7) == 7) | 8 => σ 92 = .bool true | 9 => σ 93 = .bool true | 10 => σ 94 = .agg #[.int .i64 2, .int .i64 7, .int .i64 1, .int .i64 2, .bool true, .slice none 0 0] | 11 => σ 95 = .slice A16_2 4 4 | 12 => σ 96 = .iface 43 (.slice A16_2 4 4) | 13 => σ 97 = .int .i64 (busyF ([] : List Int) (standF [1, 1, 2, 1]) 7) | 14 => σ 98 = .bool ((busyF ([] : List Int) (standF [1, 1, 2, 1]) 7) == 7) | 15 => σ 99 = .bool true | 16 => σ 100 = .bool true | 17 => σ 101 = .agg #[.int .i64 2, .int .i64 7, .int .i64 1, .int .i64 2, .bool true, .slice none 0 0] | 18 => σ 102 = .slice (sA (β 102)) 1 1 ∧ X 9 = eO 3 1 (.slice (sA (β 102)) 1 1) 1 ([.int .i64 7]) | 19 => σ 103 = .slice A16_2 4 4 | 20 => σ 104 = .iface 43 (.slice A16_2 4 4) | 21 => σ 105 = .int .i64 (busyF [7] (standF [1, 1, 2, 1]) 7) | 22 => σ 106 = .bool ((busyF [7] (standF [1, 1, 2, 1]) 7) == 0) | 23 => σ 107 = .bool true | 24 => σ 108 = .bool true | 25 => σ 109 = .agg #[.int .i64 2, .int .i64 7, .int .i64 1, .int .i64 2, .bool true, .slice none 0 0] | 26 => σ 110 = .string (tbytesF 2 7 1 2 true ([] : List Val)) | 27 => σ 111 = .string ⟨#[2, 7, 0, 2, 2, 1, 0, 1, 0]⟩ | 28 => σ 112 = .bool ((tbytesF 2 7 1 2 true ([] : List Val)).toList == ((⟨#[2, 7, 0, 2, 2, 1, 0, 1, 0]⟩ : ByteArray)).toList) | 29 => σ 113 = .bool true | 30 => σ 114 = .bool true | 31 => σ 115 = .int .i64 0 | 32 => σ 116 = .bool true | 33 => σ 117 = .bool true | 34 => σ 118 = .bool true | 35 => σ 119 = .agg #[.int .i64 2, .int .i64 7, .int .i64 1, .int .i64 2, .bool true, .slice A39_8 0 c39_8] | 36 => σ 120 = .agg #[.int .i64 2, .int .i64 7, .int .i64 1, .int .i64 2, .bool true, .slice none 0 0] | 37 => σ 121 = .bool (sameV 2 7 1 2 true ([] : List Val) 2 7 1 2 true ([] : List Val)) | 38 => σ 122 = .bool true | 39 => σ 123 = .bool true | 40 => σ 124 = .int .i64 10 | 41 => σ 125 = .bool true | 42 => σ 126 = .bool true | 43 => σ 127 = .bool true | 44 => σ 128 = .bool true | 45 => σ 129 = .bool true | 46 => σ 130 = .bool true | 47 => σ 131 = .pointer (some ⟨B13_10, 0, none⟩) | 48 => σ 132 = .int .i64 (fzA 6 (standF [1, 1, 2, 1]) 5) | 49 => σ 133 = .bool ((fzA 6 (standF [1, 1, 2, 1]) 5) == 2) | 50 => σ 134 = .bool true | 51 => σ 135 = .bool true | 52 => σ 136 = .agg #[.int .i64 5, .int .i64 0, .int .i64 (-1), .int .i64 0, .bool false, .slice none 0 0] | 53 => σ 137 = .slice A16_2 4 4 | 54 => σ 138 = .iface 43 (.slice A16_2 4 4) | 55 => σ 139 = .bool (allF (standF [1, 1, 2, 1]) 6 5 0) | 56 => σ 140 = .bool true | 57 => σ 141 = .bool true | 58 => σ 142 = .agg #[.int .i64 5, .int .i64 0, .int .i64 (-1), .int .i64 0, .bool false, .slice none 0 0] | 59 => σ 143 = .slice A16_2 4 4 | 60 => σ 144 = .iface 43 (.slice A16_2 4 4) | 61 => σ 145 = .bool (deadF (standF [1, 1, 2, 1]) 6 5 0) | 62 => σ 146 = .bool true | 63 => σ 147 = .bool true | 64 => σ 0 = .bool true | _ => True) [0, 1, 2, 3, 4, 5, 6, 7, 8, 9] [84, 85, 86, 87, 88, 89, 90, 91, 92, 93, 94, 95, 96, 97, 98, 99, 100, 101, 102, 103, 104, 105, 106, 107, 108, 109, 110, 111, 112, 113, 114, 115, 116, 117, 118, 119, 120, 121, 122, 123, 124, 125, 126, 127, 128, 129, 130, 131, 132, 133, 134, 135, 136, 137, 138, 139, 140, 141, 142, 143, 144, 145, 146, 147, 0] hst12 ?_ ?_ ?_
  · exact fun ix _ _ _ _ _ _ hs hb hx h => match ix, h with
    | 0, h | 1, h | 2, h | 3, h | 4, h | 5, h | 6, h | 7, h | 8, h | 9, h | 10, h | 11, h | 12, h | 13, h | 14, h | 15, h | 16, h | 17, h | 19, h | 20, h | 21, h | 22, h | 23, h | 24, h | 25, h | 26, h | 27, h | 28, h | 29, h | 30, h | 31, h | 32, h | 33, h | 34, h | 35, h | 36, h | 37, h | 38, h | 39, h | 40, h | 41, h | 42, h | 43, h | 44, h | 45, h | 46, h | 47, h | 48, h | 49, h | 50, h | 51, h | 52, h | 53, h | 54, h | 55, h | 56, h | 57, h | 58, h | 59, h | 60, h | 61, h | 62, h | 63, h | 64, h => (hs _ rfl).symm.trans h
    | 18, h => by dsimp only at h ⊢; rw [← hs 102 rfl, ← hb 102 rfl, ← hx 9 rfl]; exact h
    | _ + 65, _ => trivial
  · refine ⟨⟨⟨⟨⟨⟨⟨⟨⟨⟨⟨⟨⟨⟨⟨⟨⟨⟨⟨⟨⟨⟨⟨⟨⟨⟨⟨⟨⟨⟨⟨⟨⟨⟨⟨⟨⟨⟨⟨⟨⟨⟨⟨⟨⟨⟨⟨⟨⟨⟨⟨⟨⟨⟨⟨⟨⟨⟨⟨⟨⟨⟨⟨⟨⟨trivial, ?_⟩, ?_⟩, ?_⟩, ?_⟩, ?_⟩, ?_⟩, ?_⟩, ?_⟩, ?_⟩, ?_⟩, ?_⟩, ?_⟩, ?_⟩, ?_⟩, ?_⟩, ?_⟩, ?_⟩, ?_⟩, ?_⟩, ?_⟩, ?_⟩, ?_⟩, ?_⟩, ?_⟩, ?_⟩, ?_⟩, ?_⟩, ?_⟩, ?_⟩, ?_⟩, ?_⟩, ?_⟩, ?_⟩, ?_⟩, ?_⟩, ?_⟩, ?_⟩, ?_⟩, ?_⟩, ?_⟩, ?_⟩, ?_⟩, ?_⟩, ?_⟩, ?_⟩, ?_⟩, ?_⟩, ?_⟩, ?_⟩, ?_⟩, ?_⟩, ?_⟩, ?_⟩, ?_⟩, ?_⟩, ?_⟩, ?_⟩, ?_⟩, ?_⟩, ?_⟩, ?_⟩, ?_⟩, ?_⟩, ?_⟩, ?_⟩
    · exact mo rfl
    · exact s0 rfl fun cx => run_move' rfl (cx.anc 0 rfl)
    · exact s1 rfl (fun cx => (cx.anc 1 rfl)) fun cx => run_move' rfl (cx.out 4 rfl)
    · exact s1 rfl (fun cx => (cx.anc 1 rfl)) fun cx => run_bin rfl (cx.anc 2 rfl) (cx.sees.const _) rfl
    · exact s0 rfl fun cx => run_pick_t rfl (cx.anc 1 rfl) (Eq.trans (cx.anc 3 rfl) (congrArg Value.bool hd18))
    · exact s0 rfl fun cx => run_move' rfl (cx.anc 4 rfl)
    · exact s1 rfl (fun cx => (cx.anc 5 rfl)) fun cx => run_move' rfl (cx.out 7 rfl)
    · exact s1 rfl (fun cx => (cx.anc 5 rfl)) fun cx => run_bin rfl (cx.anc 6 rfl) (cx.sees.const _) rfl
    · exact s0 rfl fun cx => run_pick_t rfl (cx.anc 5 rfl) (Eq.trans (cx.anc 7 rfl) (congrArg Value.bool hd19))
    · exact s0 rfl fun cx => run_move' rfl (cx.anc 8 rfl)
    · exact s1 rfl (fun cx => (cx.anc 9 rfl)) fun cx => run_loadB (n := 6) rfl (by kernel_rfl) (by kernel_rfl) (cx.out 3 rfl) (cx.blk (cx.init 2 _ rfl) rfl) (Nat.le_of_ble_eq_true rfl) rfl
    · exact s1 rfl (fun cx => (cx.anc 9 rfl)) fun cx => run_move' rfl (cx.out 1 rfl)
    · exact sv0_on rfl rfl rfl rfl rfl rfl (fun _ _ _ h => h) (fun _ _ _ _ cx => (cx.anc 9 rfl)) fun ρ β W X cx => by
        have fF95 : ρ (.tmp 95) = .slice A16_2 4 4 := (cx.anc 11 rfl)
        simp [go_sem, cx.sees.const, fF95]
    · exact sv_call_on rfl rfl rfl rfl rfl rfl (fun _ _ _ h => h) (fun _ _ _ _ cx => (cx.anc 9 rfl)) fun ρ β W X cx => ⟨_, _, run_callF (args := #[.agg #[.int .i64 2, .int .i64 7, .int .i64 1, .int .i64 2, .bool true, .slice none 0 0], .slice none 0 0, .iface 43 (.slice A16_2 4 4)]) rfl cx.sees rfl (by kernel_rfl) (map3 (cx.anc 10 rfl) (cx.sees.const _) (cx.anc 12 rfl)), busy_any _ _ _ _ _ _ _ _ _ _ ([] : List Int) _ _ _ _ (At.nil _ _) (by first | omega | decide | (simp; done) | (simp; omega)) (stand_ok _ _ _ [1, 1, 2, 1] _ (rfl) (At.of_own (cx.row (cx.init 0 _ rfl) rfl)) (by decide))⟩
    · exact s1 rfl (fun cx => (cx.anc 9 rfl)) fun cx => run_bin rfl (cx.anc 13 rfl) (cx.sees.const _) rfl
    · exact s0 rfl fun cx => run_pick_t rfl (cx.anc 9 rfl) (Eq.trans (cx.anc 14 rfl) (congrArg Value.bool hd20))
    · exact s0 rfl fun cx => run_move' rfl (cx.anc 15 rfl)
    · exact s1 rfl (fun cx => (cx.anc 16 rfl)) fun cx => run_loadB (n := 6) rfl (by kernel_rfl) (by kernel_rfl) (cx.out 3 rfl) (cx.blk (cx.init 2 _ rfl) rfl) (Nat.le_of_ble_eq_true rfl) rfl
    · refine sv_any_on rfl rfl rfl (fun _ _ _ _ cx => (cx.anc 16 rfl)) fun ρ β W X cx => ?_
      exact dv_lit (e := 3) (xs := [.int .i64 7]) rfl (by simp [go_sem, cx.sees.const]) rfl (by decide) rfl rfl (fun σ β' X' hs hb hv hx => ⟨hv, hx⟩)
    · exact s1 rfl (fun cx => (cx.anc 16 rfl)) fun cx => run_move' rfl (cx.out 1 rfl)
    · exact sv0_on rfl rfl rfl rfl rfl rfl (fun _ _ _ h => h) (fun _ _ _ _ cx => (cx.anc 16 rfl)) fun ρ β W X cx => by
        have fF103 : ρ (.tmp 103) = .slice A16_2 4 4 := (cx.anc 19 rfl)
        simp [go_sem, cx.sees.const, fF103]
    · exact sv_call_on rfl rfl rfl rfl rfl rfl (fun _ _ _ h => h) (fun _ _ _ _ cx => (cx.anc 16 rfl)) fun ρ β W X cx => ⟨_, _, run_callF (args := #[.agg #[.int .i64 2, .int .i64 7, .int .i64 1, .int .i64 2, .bool true, .slice none 0 0], .slice (sA (β 102)) 1 1, .iface 43 (.slice A16_2 4 4)]) rfl cx.sees rfl (by kernel_rfl) (map3 (cx.anc 17 rfl) (cx.anc 18 rfl).1 (cx.anc 20 rfl)), busy_any _ _ _ _ _ _ _ _ _ _ [7] _ _ _ _ (At.of_own (cx.row (cx.anc 18 rfl).2 rfl)) (by first | omega | decide | (simp; done) | (simp; omega)) (stand_ok _ _ _ [1, 1, 2, 1] _ (rfl) (At.of_own (cx.row (cx.init 0 _ rfl) rfl)) (by decide))⟩
    · exact s1 rfl (fun cx => (cx.anc 16 rfl)) fun cx => run_bin rfl (cx.anc 21 rfl) (cx.sees.const _) rfl
    · exact s0 rfl fun cx => run_pick_t rfl (cx.anc 16 rfl) (Eq.trans (cx.anc 22 rfl) (congrArg Value.bool hd21))
    · exact s0 rfl fun cx => run_move' rfl (cx.anc 23 rfl)
    · exact s1 rfl (fun cx => (cx.anc 24 rfl)) fun cx => run_loadB (n := 6) rfl (by kernel_rfl) (by kernel_rfl) (cx.out 3 rfl) (cx.blk (cx.init 2 _ rfl) rfl) (Nat.le_of_ble_eq_true rfl) rfl
    · exact sv_call_on rfl rfl rfl rfl rfl rfl (fun _ _ _ h => h) (fun _ _ _ _ cx => (cx.anc 24 rfl)) fun ρ β W X cx => ⟨_, _, run_callF (args := #[.agg #[.int .i64 2, .int .i64 7, .int .i64 1, .int .i64 2, .bool true, .slice none 0 0]]) rfl cx.sees rfl (by kernel_rfl) (map1 (cx.anc 25 rfl)), tbytes_any 2 7 1 2 true _ _ ([] : List Val) _ (At.nil _ _) (by first | omega | decide | (simp; done) | (simp; omega)) (hN.ext cx.upd.to_ext)⟩
    · exact s1 rfl (fun cx => (cx.anc 24 rfl)) fun cx => run_move' rfl (cx.out 8 rfl)
    · exact s1 rfl (fun cx => (cx.anc 24 rfl)) fun cx => run_streq rfl (cx.anc 26 rfl) (cx.anc 27 rfl)
    · exact s0 rfl fun cx => run_pick_t rfl (cx.anc 24 rfl) (Eq.trans (cx.anc 28 rfl) (congrArg Value.bool hd22))
    · exact s0 rfl fun cx => run_move' rfl (cx.anc 29 rfl)
    · exact s1 rfl (fun cx => (cx.anc 30 rfl)) fun cx => run_move' rfl (cx.out 10 rfl)
    · exact s1 rfl (fun cx => (cx.anc 30 rfl)) fun cx => run_bin rfl (cx.anc 31 rfl) (cx.sees.const _) rfl
    · exact s0 rfl fun cx => run_pick_t rfl (cx.anc 30 rfl) (cx.anc 32 rfl)
    · exact s0 rfl fun cx => run_move' rfl (cx.anc 33 rfl)
    · exact s1 rfl (fun cx => (cx.anc 34 rfl)) fun cx => run_loadB (n := 6) rfl (by kernel_rfl) (by kernel_rfl) (cx.out 9 rfl) (cx.blk (cx.init 4 _ rfl) rfl) (Nat.le_of_ble_eq_true rfl) rfl
    · exact s1 rfl (fun cx => (cx.anc 34 rfl)) fun cx => run_loadB (n := 6) rfl (by kernel_rfl) (by kernel_rfl) (cx.out 3 rfl) (cx.blk (cx.init 2 _ rfl) rfl) (Nat.le_of_ble_eq_true rfl) rfl
    · exact sv_call_on rfl rfl rfl rfl rfl rfl (fun _ _ _ h => h) (fun _ _ _ _ cx => (cx.anc 34 rfl)) fun ρ β W X cx => ⟨_, _, run_callF (args := #[.agg #[.int .i64 2, .int .i64 7, .int .i64 1, .int .i64 2, .bool true, .slice A39_8 0 c39_8], .agg #[.int .i64 2, .int .i64 7, .int .i64 1, .int .i64 2, .bool true, .slice none 0 0]]) rfl cx.sees rfl (by kernel_rfl) (map2 (cx.anc 35 rfl) (cx.anc 36 rfl)), vsame_any _ _ _ _ _ _ _ ([] : List Val) _ _ _ _ _ _ _ ([] : List Val) _ (At.of_ownN (cx.row (cx.init 3 _ rfl) rfl)) (At.nil _ _) (by first | omega | decide | (simp; done) | (simp; omega)) (by first | omega | decide | (simp; done) | (simp; omega))⟩
    · exact s0 rfl fun cx => run_pick_t rfl (cx.anc 34 rfl) (Eq.trans (cx.anc 37 rfl) (congrArg Value.bool hd23))
    · exact s0 rfl fun cx => run_move' rfl (cx.anc 38 rfl)
    · exact s1 rfl (fun cx => (cx.anc 39 rfl)) fun cx => run_move' rfl (cx.out 12 rfl)
    · exact s1 rfl (fun cx => (cx.anc 39 rfl)) fun cx => run_bin rfl (cx.anc 40 rfl) (cx.sees.const _) rfl
    · exact s0 rfl fun cx => run_pick_t rfl (cx.anc 39 rfl) (cx.anc 41 rfl)
    · exact s0 rfl fun cx => run_move' rfl (cx.anc 42 rfl)
    · exact s1 rfl (fun cx => (cx.anc 43 rfl)) fun cx => run_move' rfl (cx.out 14 rfl)
    · exact s0 rfl fun cx => run_pick_t rfl (cx.anc 43 rfl) (cx.anc 44 rfl)
    · exact s0 rfl fun cx => run_move' rfl (cx.anc 45 rfl)
    · exact s1 rfl (fun cx => (cx.anc 46 rfl)) fun cx => run_fieldAddr' (k := 0) (n := 0) rfl (by kernel_rfl) (cx.out 13 rfl) rfl
    · exact s1 rfl (fun cx => (cx.anc 46 rfl)) fun cx => run_load1 rfl (by kernel_rfl) (cx.anc 47 rfl) ((cx.blk (cx.init 7 _ rfl) rfl).cell 0)
    · exact s1 rfl (fun cx => (cx.anc 46 rfl)) fun cx => run_bin rfl (cx.anc 48 rfl) (cx.sees.const _) rfl
    · exact s0 rfl fun cx => run_pick_t rfl (cx.anc 46 rfl) (Eq.trans (cx.anc 49 rfl) (congrArg Value.bool hd24))
    · exact s0 rfl fun cx => run_move' rfl (cx.anc 50 rfl)
    · exact s1 rfl (fun cx => (cx.anc 51 rfl)) fun cx => run_loadB (n := 6) rfl (by kernel_rfl) (by kernel_rfl) (cx.out 2 rfl) (cx.blk (cx.init 1 _ rfl) rfl) (Nat.le_of_ble_eq_true rfl) rfl
    · exact s1 rfl (fun cx => (cx.anc 51 rfl)) fun cx => run_move' rfl (cx.out 1 rfl)
    · exact sv0_on rfl rfl rfl rfl rfl rfl (fun _ _ _ h => h) (fun _ _ _ _ cx => (cx.anc 51 rfl)) fun ρ β W X cx => by
        have fF137 : ρ (.tmp 137) = .slice A16_2 4 4 := (cx.anc 53 rfl)
        simp [go_sem, cx.sees.const, fF137]
    · exact sv_call_on rfl rfl rfl rfl rfl rfl (fun _ _ _ h => h) (fun _ _ _ _ cx => (cx.anc 51 rfl)) fun ρ β W X cx => ⟨_, _, run_callF (args := #[.agg #[.int .i64 5, .int .i64 0, .int .i64 (-1), .int .i64 0, .bool false, .slice none 0 0], .int .i64 6, .iface 43 (.slice A16_2 4 4)]) rfl cx.sees rfl (by kernel_rfl) (map3 (cx.anc 52 rfl) (cx.sees.const _) (cx.anc 54 rfl)), all_any _ _ _ _ _ _ _ _ _ _ _ _ _ (stand_ok _ _ _ [1, 1, 2, 1] _ (rfl) (At.of_own (cx.row (cx.init 0 _ rfl) rfl)) (by decide))⟩
    · exact s0 rfl fun cx => run_pick_t rfl (cx.anc 51 rfl) (Eq.trans (cx.anc 55 rfl) (congrArg Value.bool hd25))
    · exact s0 rfl fun cx => run_move' rfl (cx.anc 56 rfl)
    · exact s1 rfl (fun cx => (cx.anc 57 rfl)) fun cx => run_loadB (n := 6) rfl (by kernel_rfl) (by kernel_rfl) (cx.out 2 rfl) (cx.blk (cx.init 1 _ rfl) rfl) (Nat.le_of_ble_eq_true rfl) rfl
    · exact s1 rfl (fun cx => (cx.anc 57 rfl)) fun cx => run_move' rfl (cx.out 1 rfl)
    · exact sv0_on rfl rfl rfl rfl rfl rfl (fun _ _ _ h => h) (fun _ _ _ _ cx => (cx.anc 57 rfl)) fun ρ β W X cx => by
        have fF143 : ρ (.tmp 143) = .slice A16_2 4 4 := (cx.anc 59 rfl)
        simp [go_sem, cx.sees.const, fF143]
    · exact sv_call_on rfl rfl rfl rfl rfl rfl (fun _ _ _ h => h) (fun _ _ _ _ cx => (cx.anc 57 rfl)) fun ρ β W X cx => ⟨_, _, run_callF (args := #[.agg #[.int .i64 5, .int .i64 0, .int .i64 (-1), .int .i64 0, .bool false, .slice none 0 0], .int .i64 6, .iface 43 (.slice A16_2 4 4)]) rfl cx.sees rfl (by kernel_rfl) (map3 (cx.anc 58 rfl) (cx.sees.const _) (cx.anc 60 rfl)), dead_any _ _ _ _ _ _ _ _ _ _ _ _ _ (stand_ok _ _ _ [1, 1, 2, 1] _ (rfl) (At.of_own (cx.row (cx.init 0 _ rfl) rfl)) (by decide))⟩
    · exact s1 rfl (fun cx => (cx.anc 57 rfl)) fun cx => run_not rfl (Eq.trans (cx.anc 61 rfl) (congrArg Value.bool hd26)) rfl
    · exact s0 rfl fun cx => run_pick_t rfl (cx.anc 57 rfl) (cx.anc 62 rfl)
    · exact s0 rfl fun cx => run_assign' rfl (cx.anc 63 rfl)
  intro σ β X W17 hD hX hst17 fr hfr
  obtain ⟨A102_17, hu_A102_17⟩ : ∃ z, sA (β 102) = z := ⟨_, rfl⟩
  simp only [zM, exq 0 (hX 0 _ rfl), exq 1 (hX 1 _ rfl), exq 2 (hX 2 _ rfl), exq 3 (hX 3 _ rfl), exq 4 (hX 4 _ rfl), exq 5 (hX 5 _ rfl), exq 6 (hX 6 _ rfl), exq 7 (hX 7 _ rfl), exq 8 (hX 8 _ rfl), exq 9 ((hD 18 lq).2), hu_A102_17] at hst17
  simp only [zP, ed 84 (hD 0 lq), ed 85 (hD 1 lq), ed 86 (hD 2 lq), ed 87 (hD 3 lq), ed 88 (hD 4 lq), ed 89 (hD 5 lq), ed 90 (hD 6 lq), ed 91 (hD 7 lq), ed 92 (hD 8 lq), ed 93 (hD 9 lq), ed 94 (hD 10 lq), ed 95 (hD 11 lq), ed 96 (hD 12 lq), ed 97 (hD 13 lq), ed 98 (hD 14 lq), ed 99 (hD 15 lq), ed 100 (hD 16 lq), ed 101 (hD 17 lq), ed 102 ((hD 18 lq).1), ed 103 (hD 19 lq), ed 104 (hD 20 lq), ed 105 (hD 21 lq), ed 106 (hD 22 lq), ed 107 (hD 23 lq), ed 108 (hD 24 lq), ed 109 (hD 25 lq), ed 110 (hD 26 lq), ed 111 (hD 27 lq), ed 112 (hD 28 lq), ed 113 (hD 29 lq), ed 114 (hD 30 lq), ed 115 (hD 31 lq), ed 116 (hD 32 lq), ed 117 (hD 33 lq), ed 118 (hD 34 lq), ed 119 (hD 35 lq), ed 120 (hD 36 lq), ed 121 (hD 37 lq), ed 122 (hD 38 lq), ed 123 (hD 39 lq), ed 124 (hD 40 lq), ed 125 (hD 41 lq), ed 126 (hD 42 lq), ed 127 (hD 43 lq), ed 128 (hD 44 lq), ed 129 (hD 45 lq), ed 130 (hD 46 lq), ed 131 (hD 47 lq), ed 132 (hD 48 lq), ed 133 (hD 49 lq), ed 134 (hD 50 lq), ed 135 (hD 51 lq), ed 136 (hD 52 lq), ed 137 (hD 53 lq), ed 138 (hD 54 lq), ed 139 (hD 55 lq), ed 140 (hD 56 lq), ed 141 (hD 57 lq), ed 142 (hD 58 lq), ed 143 (hD 59 lq), ed 144 (hD 60 lq), ed 145 (hD 61 lq), ed 146 (hD 62 lq), ed 147 (hD 63 lq), ed 0 (hD 64 lq), hu_A102_17] at hfr
  clear hX hD hu_A102_17; subst hfr; clear σ β X
  refine then_normal ?_
  refine wp_ret ?_
  refine bodyPost_ret (v := .bool true) (by simp [results, Tryd.results12, go_sem]) rfl ?_
  exact Ret.of rfl hst17.ext

end Go.Proofs.YtfjpglohcppjeaaDoor

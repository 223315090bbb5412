/- What a snapshot sees, 2: Busy, Dead, All. -/
import Derived.Test.YtfjpglohcppjeaaDoorT2
namespace Go.Proofs.YtfjpglohcppjeaaDoor
open Go.RowKit
set_option linter.unusedVariables false

set_option maxRecDepth 100000 in
set_option maxHeartbeats 2000000 in
theorem busy_any (a b n1 n2 : Int) (ho : Bool) (RA : Option Addr) (rn rc : Nat) (OA : Option Addr) (oc : Nat) (own : List Int) (tt : TypeId) (tv : Value) (g : Int → Int) (w : World) (hO : At w OA (own.map (Value.int .i64))) (hol : own.length ≤ 100000) (hS : StOk w tt tv g) :
    Calls Tryd.prog 29 #[.agg #[.int .i64 a, .int .i64 b, .int .i64 n1, .int .i64 n2, .bool ho, .slice RA rn rc], .slice OA own.length oc, .iface tt (tv)] w (Ret (.int .i64 (busyF own g b)) w) := by
  obtain ⟨f0, rv, hM, hC, hG⟩ := hS.ex
  go_enter Tryd.func29, Tryd.ntmps29
  have hst0 := St.start w
  refine wp_seq ?_
  refine wp_region_X [0, 0] [] [[0]] [] (fun ix σ β X => match ix with | 0 => σ 3 = .pointer (some ⟨(pb (β 3)), 0, none⟩) ∧ X 0 = eB (pb (β 3)) 27 #[.int .i64 a, .int .i64 b, .int .i64 n1, .int .i64 n2, .bool ho, .slice RA rn rc] | 1 => σ 6 = .int .i64 0 | _ => True) [0] [3, 6] hst0 ?_ ?_ ?_
  · exact fun ix _ _ _ _ _ _ hs hb hx h => match ix, h with
    | 1, h => (hs _ rfl).symm.trans h
    | 0, h => by dsimp only at h ⊢; rw [← hs 3 rfl, ← hb 3 rfl, ← hx 0 rfl]; exact h
    | _ + 2, _ => trivial
  · refine ⟨⟨trivial, ?_⟩, ?_⟩
    · refine sv_any rfl rfl fun ρ β W X cx => ?_
      exact dv_box (cs := #[.int .i64 a, .int .i64 b, .int .i64 n1, .int .i64 n2, .bool ho, .slice RA rn rc]) rfl (cx.out 0 rfl) rfl rfl rfl (fun σ β' X' hs hb hv hx => ⟨hv, hx⟩)
    · exact s0 rfl fun cx => run_assign' rfl (cx.sees.const _)
  intro σ β X W1 hD hX hst1 fr hfr
  obtain ⟨B3_1, hu_B3_1⟩ : ∃ z, pb (β 3) = z := ⟨_, rfl⟩
  simp only [zM, exq 0 ((hD 0 lq).2), hu_B3_1] at hst1
  simp only [zP, ed 3 ((hD 0 lq).1), ed 6 (hD 1 lq), hu_B3_1] at hfr
  clear hX hD hu_B3_1; subst hfr; clear σ β X
  refine then_normal ?_
  refine wp_seq ?_
  refine wp_region_X [0, 0, 2, 7, 15] [[], [], [0]] [] [] (fun ix σ β X => match ix with | 0 => σ 8 = .iface tt (tv) | 1 => σ 9 = .pointer (some ⟨B3_1, 1, none⟩) | 2 => σ 10 = .int .i64 b | 3 => σ 11 = .int .i64 (g b) | 4 => σ 7 = .int .i64 (g b) | _ => True) [0] [8, 9, 10, 11, 7] hst1 ?_ ?_ ?_
  · exact fun ix _ _ _ _ _ _ hs hb hx h => match ix, h with
    | 0, h | 1, h | 2, h | 3, h | 4, h => (hs _ rfl).symm.trans h
    | _ + 5, _ => trivial
  · refine ⟨⟨⟨⟨⟨trivial, ?_⟩, ?_⟩, ?_⟩, ?_⟩, ?_⟩
    · exact mo rfl
    · exact s0 rfl fun cx => run_fieldAddr' (k := 1) (n := 1) rfl (by kernel_rfl) (cx.out 3 rfl) rfl
    · exact s0 rfl fun cx => run_load1 rfl (by kernel_rfl) (cx.anc 1 rfl) ((cx.blk (cx.init 0 _ rfl) rfl).cell 1)
    · exact sv_call rfl rfl rfl rfl rfl (fun _ _ _ h => h) fun ρ β W X cx => ⟨_, _, run_invoke (args := #[.int .i64 b]) (args' := #[rv, .int .i64 b]) rfl rfl (cx.anc 0 rfl) hM hC (map1 (cx.anc 2 rfl)) rfl, hG _ b cx.upd.to_ext⟩
    · exact s0 rfl fun cx => run_assign' rfl (cx.anc 3 rfl)
  intro σ β X W2 hD hX hst2 fr hfr
  simp only [zM, exq 0 (hX 0 _ rfl)] at hst2
  simp only [zP, ed 8 (hD 0 lq), ed 9 (hD 1 lq), ed 10 (hD 2 lq), ed 11 (hD 3 lq), ed 7 (hD 4 lq)] at hfr
  clear hX hD; subst hfr; clear σ β X
  refine then_normal ?_
  refine wp_seq ?_
  refine wp_seq ?_
  rcases Bool.eq_false_or_eq_true (own.contains b) with hs4 | hs4
  · skip
    refine wp_region_X [0, 0, 2, 7, 15, 31, 63, 127, 255, 511, 1023, 2047] [[], [], [0]] [] [] (fun ix σ β X => match ix with | 0 => σ 12 = .slice OA own.length oc | 1 => σ 13 = .pointer (some ⟨B3_1, 1, none⟩) | 2 => σ 14 = .int .i64 b | 3 => σ 15 = .bool (own.contains b) | 4 => σ 16 = .bool true | 5 => σ 17 = undef | 6 => σ 18 = undef | 7 => σ 19 = undef | 8 => σ 20 = undef | 9 => σ 21 = undef | 10 => σ 22 = undef | 11 => σ 23 = .bool true | _ => True) [0] [12, 13, 14, 15, 16, 17, 18, 19, 20, 21, 22, 23] hst2 ?_ ?_ ?_
    · exact fun ix _ _ _ _ _ _ hs hb hx h => match ix, h with
      | 0, h | 1, h | 2, h | 3, h | 4, h | 5, h | 6, h | 7, h | 8, h | 9, h | 10, h | 11, h => (hs _ rfl).symm.trans h
      | _ + 12, _ => trivial
    · refine ⟨⟨⟨⟨⟨⟨⟨⟨⟨⟨⟨⟨trivial, ?_⟩, ?_⟩, ?_⟩, ?_⟩, ?_⟩, ?_⟩, ?_⟩, ?_⟩, ?_⟩, ?_⟩, ?_⟩, ?_⟩
      · exact mo rfl
      · exact s0 rfl fun cx => run_fieldAddr' (k := 1) (n := 1) rfl (by kernel_rfl) (cx.out 3 rfl) rfl
      · exact s0 rfl fun cx => run_load1 rfl (by kernel_rfl) (cx.anc 1 rfl) ((cx.blk (cx.init 0 _ rfl) rfl).cell 1)
      · exact sv_call rfl rfl rfl rfl rfl (fun _ _ _ h => h) fun ρ β W X cx => ⟨_, _, run_callF (args := #[.slice OA own.length oc, .int .i64 b]) rfl cx.sees rfl (by kernel_rfl) (map2 (cx.anc 0 rfl) (cx.anc 2 rfl)), icontains_any _ _ own b _ (hO.ext cx.upd.to_ext) (by assumption)⟩
      · exact s0 rfl fun cx => run_move' rfl (Eq.trans (cx.anc 3 rfl) (congrArg Value.bool hs4))
      · exact s2 rfl fun cx => (cx.anc 4 rfl)
      · exact s2 rfl fun cx => (cx.anc 4 rfl)
      · exact s2 rfl fun cx => (cx.anc 4 rfl)
      · exact s3 rfl fun cx => cx.anc 7 rfl
      · exact s3 rfl fun cx => cx.anc 7 rfl
      · exact s2 rfl fun cx => (cx.anc 4 rfl)
      · exact s0 rfl fun cx => run_pick_t rfl (cx.anc 4 rfl) (cx.sees.const _)
    intro σ β X W5 hD hX hst5 fr hfr
    simp only [zM, exq 0 (hX 0 _ rfl)] at hst5
    simp only [zP, ed 12 (hD 0 lq), ed 13 (hD 1 lq), ed 14 (hD 2 lq), ed 15 (hD 3 lq), ed 16 (hD 4 lq), ed 17 (hD 5 lq), ed 18 (hD 6 lq), ed 19 (hD 7 lq), ed 20 (hD 8 lq), ed 21 (hD 9 lq), ed 22 (hD 10 lq), ed 23 (hD 11 lq)] at hfr
    clear hX hD; subst hfr; clear σ β X
    refine then_normal ?_
    refine wp_cond_true (show Act.eval _ _ = .bool true from rfl) ?_
    refine wp_seq ?_
    refine wp_region_X [0] [] [] [] (fun ix σ β X => match ix with | 0 => σ 6 = .int .i64 0 | _ => True) [0] [6] hst5 ?_ ?_ ?_
    · exact fun ix _ _ _ _ _ _ hs hb hx h => match ix, h with
      | 0, h => (hs _ rfl).symm.trans h
      | _ + 1, _ => trivial
    · refine ⟨trivial, ?_⟩
      · exact s0 rfl fun cx => run_assign' rfl (cx.sees.const _)
    intro σ β X W6 hD hX hst6 fr hfr
    simp only [zM, exq 0 (hX 0 _ rfl)] at hst6
    simp only [zP, ed 6 (hD 0 lq)] at hfr
    clear hX hD; subst hfr; clear σ β X
    refine then_normal ?_
    refine wp_ret ?_
    refine then_ret ?_
    refine bodyPost_ret (v := .int .i64 0) (by simp [results, Tryd.results29, go_sem]) rfl ?_
    exact Ret.int (by simp_all [busyF]) hst6.ext
  rcases Bool.eq_false_or_eq_true ((g b) != 1) with hs8 | hs8
  · skip
    have hs8p : (g b) ≠ 1 := by simpa using hs8
    refine wp_region_X [0, 0, 2, 7, 15, 31, 63, 127, 255, 511, 1023, 2047] [[], [], [0]] [] [] (fun ix σ β X => match ix with | 0 => σ 12 = .slice OA own.length oc | 1 => σ 13 = .pointer (some ⟨B3_1, 1, none⟩) | 2 => σ 14 = .int .i64 b | 3 => σ 15 = .bool (own.contains b) | 4 => σ 16 = .bool false | 5 => σ 17 = .int .i64 (g b) | 6 => σ 18 = .bool ((g b) != 1) | 7 => σ 19 = .bool true | 8 => σ 20 = .int .i64 (g b) | 9 => σ 21 = .bool ((g b) != 4) | 10 => σ 22 = .bool ((g b) != 4) | 11 => σ 23 = .bool ((g b) != 4) | _ => True) [0] [12, 13, 14, 15, 16, 17, 18, 19, 20, 21, 22, 23] hst2 ?_ ?_ ?_
    · exact fun ix _ _ _ _ _ _ hs hb hx h => match ix, h with
      | 0, h | 1, h | 2, h | 3, h | 4, h | 5, h | 6, h | 7, h | 8, h | 9, h | 10, h | 11, h => (hs _ rfl).symm.trans h
      | _ + 12, _ => trivial
    · refine ⟨⟨⟨⟨⟨⟨⟨⟨⟨⟨⟨⟨trivial, ?_⟩, ?_⟩, ?_⟩, ?_⟩, ?_⟩, ?_⟩, ?_⟩, ?_⟩, ?_⟩, ?_⟩, ?_⟩, ?_⟩
      · exact mo rfl
      · exact s0 rfl fun cx => run_fieldAddr' (k := 1) (n := 1) rfl (by kernel_rfl) (cx.out 3 rfl) rfl
      · exact s0 rfl fun cx => run_load1 rfl (by kernel_rfl) (cx.anc 1 rfl) ((cx.blk (cx.init 0 _ rfl) rfl).cell 1)
      · exact sv_call rfl rfl rfl rfl rfl (fun _ _ _ h => h) fun ρ β W X cx => ⟨_, _, run_callF (args := #[.slice OA own.length oc, .int .i64 b]) rfl cx.sees rfl (by kernel_rfl) (map2 (cx.anc 0 rfl) (cx.anc 2 rfl)), icontains_any _ _ own b _ (hO.ext cx.upd.to_ext) (by assumption)⟩
      · exact s0 rfl fun cx => run_move' rfl (Eq.trans (cx.anc 3 rfl) (congrArg Value.bool hs4))
      · exact s1 rfl (fun cx => (cx.anc 4 rfl)) fun cx => run_move' rfl (cx.out 7 rfl)
      · exact s1 rfl (fun cx => (cx.anc 4 rfl)) fun cx => run_bin rfl (cx.anc 5 rfl) (cx.sees.const _) rfl
      · exact s1 rfl (fun cx => (cx.anc 4 rfl)) fun cx => run_move' rfl (Eq.trans (cx.anc 6 rfl) (congrArg Value.bool hs8))
      · exact s1 rfl (fun cx => (cx.anc 7 rfl)) fun cx => run_move' rfl (cx.out 7 rfl)
      · exact s1 rfl (fun cx => (cx.anc 7 rfl)) fun cx => run_bin rfl (cx.anc 8 rfl) (cx.sees.const _) rfl
      · exact s1 rfl (fun cx => (cx.anc 4 rfl)) fun cx => run_pick_t rfl (cx.anc 7 rfl) (cx.anc 9 rfl)
      · exact s0 rfl fun cx => run_pick_f rfl (cx.anc 4 rfl) (cx.anc 10 rfl)
    intro σ β X W9 hD hX hst9 fr hfr
    simp only [zM, exq 0 (hX 0 _ rfl)] at hst9
    simp only [zP, ed 12 (hD 0 lq), ed 13 (hD 1 lq), ed 14 (hD 2 lq), ed 15 (hD 3 lq), ed 16 (hD 4 lq), ed 17 (hD 5 lq), ed 18 (hD 6 lq), ed 19 (hD 7 lq), ed 20 (hD 8 lq), ed 21 (hD 9 lq), ed 22 (hD 10 lq), ed 23 (hD 11 lq)] at hfr
    clear hX hD; subst hfr; clear σ β X
    refine then_normal ?_
    rcases Bool.eq_false_or_eq_true ((g b) != 4) with hs10 | hs10
    · skip
      have hs10p : (g b) ≠ 4 := by simpa using hs10
      refine wp_cond_true (show Act.eval _ _ = .bool true from (congrArg Value.bool hs10)) ?_
      refine wp_seq ?_
      refine wp_region_X [0] [] [] [] (fun ix σ β X => match ix with | 0 => σ 6 = .int .i64 0 | _ => True) [0] [6] hst9 ?_ ?_ ?_
      · exact fun ix _ _ _ _ _ _ hs hb hx h => match ix, h with
        | 0, h => (hs _ rfl).symm.trans h
        | _ + 1, _ => trivial
      · refine ⟨trivial, ?_⟩
        · exact s0 rfl fun cx => run_assign' rfl (cx.sees.const _)
      intro σ β X W11 hD hX hst11 fr hfr
      simp only [zM, exq 0 (hX 0 _ rfl)] at hst11
      simp only [zP, ed 6 (hD 0 lq)] at hfr
      clear hX hD; subst hfr; clear σ β X
      refine then_normal ?_
      refine wp_ret ?_
      refine then_ret ?_
      refine bodyPost_ret (v := .int .i64 0) (by simp [results, Tryd.results29, go_sem]) rfl ?_
      exact Ret.int (by simp_all [busyF]) hst11.ext
    have hs10p : (g b) = 4 := by simpa using hs10
    refine wp_cond_false (show Act.eval _ _ = .bool false from (congrArg Value.bool hs10)) ?_
    refine wp_skip ?_
    refine then_normal ?_
    refine wp_seq ?_
    refine wp_region_X [0, 1, 3] [[], [0]] [] [] (fun ix σ β X => match ix with | 0 => σ 24 = .pointer (some ⟨B3_1, 1, none⟩) | 1 => σ 25 = .int .i64 b | 2 => σ 6 = .int .i64 b | _ => True) [0] [24, 25, 6] hst9 ?_ ?_ ?_
    · exact fun ix _ _ _ _ _ _ hs hb hx h => match ix, h with
      | 0, h | 1, h | 2, h => (hs _ rfl).symm.trans h
      | _ + 3, _ => trivial
    · refine ⟨⟨⟨trivial, ?_⟩, ?_⟩, ?_⟩
      · exact s0 rfl fun cx => run_fieldAddr' (k := 1) (n := 1) rfl (by kernel_rfl) (cx.out 3 rfl) rfl
      · exact s0 rfl fun cx => run_load1 rfl (by kernel_rfl) (cx.anc 0 rfl) ((cx.blk (cx.init 0 _ rfl) rfl).cell 1)
      · exact s0 rfl fun cx => run_assign' rfl (cx.anc 1 rfl)
    intro σ β X W12 hD hX hst12 fr hfr
    simp only [zM, exq 0 (hX 0 _ rfl)] at hst12
    simp only [zP, ed 24 (hD 0 lq), ed 25 (hD 1 lq), ed 6 (hD 2 lq)] at hfr
    clear hX hD; subst hfr; clear σ β X
    refine then_normal ?_
    refine wp_ret ?_
    refine bodyPost_ret (v := .int .i64 b) (by simp [results, Tryd.results29, go_sem]) rfl ?_
    exact Ret.int (by simp_all [busyF]) hst12.ext
  have hs8p : (g b) = 1 := by simpa using hs8
  refine wp_region_X [0, 0, 2, 7, 15, 31, 63, 127, 255, 511, 1023, 2047] [[], [], [0]] [] [] (fun ix σ β X => match ix with | 0 => σ 12 = .slice OA own.length oc | 1 => σ 13 = .pointer (some ⟨B3_1, 1, none⟩) | 2 => σ 14 = .int .i64 b | 3 => σ 15 = .bool (own.contains b) | 4 => σ 16 = .bool false | 5 => σ 17 = .int .i64 (g b) | 6 => σ 18 = .bool ((g b) != 1) | 7 => σ 19 = .bool false | 8 => σ 20 = undef | 9 => σ 21 = undef | 10 => σ 22 = .bool false | 11 => σ 23 = .bool false | _ => True) [0] [12, 13, 14, 15, 16, 17, 18, 19, 20, 21, 22, 23] hst2 ?_ ?_ ?_
  · exact fun ix _ _ _ _ _ _ hs hb hx h => match ix, h with
    | 0, h | 1, h | 2, h | 3, h | 4, h | 5, h | 6, h | 7, h | 8, h | 9, h | 10, h | 11, h => (hs _ rfl).symm.trans h
    | _ + 12, _ => trivial
  · refine ⟨⟨⟨⟨⟨⟨⟨⟨⟨⟨⟨⟨trivial, ?_⟩, ?_⟩, ?_⟩, ?_⟩, ?_⟩, ?_⟩, ?_⟩, ?_⟩, ?_⟩, ?_⟩, ?_⟩, ?_⟩
    · exact mo rfl
    · exact s0 rfl fun cx => run_fieldAddr' (k := 1) (n := 1) rfl (by kernel_rfl) (cx.out 3 rfl) rfl
    · exact s0 rfl fun cx => run_load1 rfl (by kernel_rfl) (cx.anc 1 rfl) ((cx.blk (cx.init 0 _ rfl) rfl).cell 1)
    · exact sv_call rfl rfl rfl rfl rfl (fun _ _ _ h => h) fun ρ β W X cx => ⟨_, _, run_callF (args := #[.slice OA own.length oc, .int .i64 b]) rfl cx.sees rfl (by kernel_rfl) (map2 (cx.anc 0 rfl) (cx.anc 2 rfl)), icontains_any _ _ own b _ (hO.ext cx.upd.to_ext) (by assumption)⟩
    · exact s0 rfl fun cx => run_move' rfl (Eq.trans (cx.anc 3 rfl) (congrArg Value.bool hs4))
    · exact s1 rfl (fun cx => (cx.anc 4 rfl)) fun cx => run_move' rfl (cx.out 7 rfl)
    · exact s1 rfl (fun cx => (cx.anc 4 rfl)) fun cx => run_bin rfl (cx.anc 5 rfl) (cx.sees.const _) rfl
    · exact s1 rfl (fun cx => (cx.anc 4 rfl)) fun cx => run_move' rfl (Eq.trans (cx.anc 6 rfl) (congrArg Value.bool hs8))
    · exact s2 rfl fun cx => (cx.anc 7 rfl)
    · exact s2 rfl fun cx => (cx.anc 7 rfl)
    · exact s1 rfl (fun cx => (cx.anc 4 rfl)) fun cx => run_pick_f rfl (cx.anc 7 rfl) (cx.sees.const _)
    · exact s0 rfl fun cx => run_pick_f rfl (cx.anc 4 rfl) (cx.anc 10 rfl)
  intro σ β X W13 hD hX hst13 fr hfr
  simp only [zM, exq 0 (hX 0 _ rfl)] at hst13
  simp only [zP, ed 12 (hD 0 lq), ed 13 (hD 1 lq), ed 14 (hD 2 lq), ed 15 (hD 3 lq), ed 16 (hD 4 lq), ed 17 (hD 5 lq), ed 18 (hD 6 lq), ed 19 (hD 7 lq), ed 20 (hD 8 lq), ed 21 (hD 9 lq), ed 22 (hD 10 lq), ed 23 (hD 11 lq)] at hfr
  clear hX hD; subst hfr; clear σ β X
  refine then_normal ?_
  refine wp_cond_false (show Act.eval _ _ = .bool false from rfl) ?_
  refine wp_skip ?_
  refine then_normal ?_
  refine wp_seq ?_
  refine wp_region_X [0, 1, 3] [[], [0]] [] [] (fun ix σ β X => match ix with | 0 => σ 24 = .pointer (some ⟨B3_1, 1, none⟩) | 1 => σ 25 = .int .i64 b | 2 => σ 6 = .int .i64 b | _ => True) [0] [24, 25, 6] hst13 ?_ ?_ ?_
  · exact fun ix _ _ _ _ _ _ hs hb hx h => match ix, h with
    | 0, h | 1, h | 2, h => (hs _ rfl).symm.trans h
    | _ + 3, _ => trivial
  · refine ⟨⟨⟨trivial, ?_⟩, ?_⟩, ?_⟩
    · exact s0 rfl fun cx => run_fieldAddr' (k := 1) (n := 1) rfl (by kernel_rfl) (cx.out 3 rfl) rfl
    · exact s0 rfl fun cx => run_load1 rfl (by kernel_rfl) (cx.anc 0 rfl) ((cx.blk (cx.init 0 _ rfl) rfl).cell 1)
    · exact s0 rfl fun cx => run_assign' rfl (cx.anc 1 rfl)
  intro σ β X W14 hD hX hst14 fr hfr
  simp only [zM, exq 0 (hX 0 _ rfl)] at hst14
  simp only [zP, ed 24 (hD 0 lq), ed 25 (hD 1 lq), ed 6 (hD 2 lq)] at hfr
  clear hX hD; subst hfr; clear σ β X
  refine then_normal ?_
  refine wp_ret ?_
  refine bodyPost_ret (v := .int .i64 b) (by simp [results, Tryd.results29, go_sem]) rfl ?_
  exact Ret.int (by simp_all [busyF]) hst14.ext

set_option maxRecDepth 100000 in
set_option maxHeartbeats 2000000 in
theorem old_any (hz x : Int) (tt : TypeId) (tv : Value) (g : Int → Int) (w : World) (hS : StOk w tt tv g) :
    Calls Tryd.prog 69 #[.int .i64 x, .int .i64 hz, .iface tt (tv)] w (Ret (.bool (oldF g hz x)) w) := by
  obtain ⟨f0, rv, hM, hC, hG⟩ := hS.ex
  go_enter Tryd.func69, Tryd.ntmps69
  have hst0 := St.start w
  refine wp_seq ?_
  refine wp_region_X [0] [] [] [] (fun ix σ β X => match ix with | 0 => σ 6 = .bool false | _ => True) [] [6] hst0 ?_ ?_ ?_
  · exact fun ix _ _ _ _ _ _ hs hb hx h => match ix, h with
    | 0, h => (hs _ rfl).symm.trans h
    | _ + 1, _ => trivial
  · refine ⟨trivial, ?_⟩
    · exact s0 rfl fun cx => run_assign' rfl (cx.sees.const _)
  intro σ β X W1 hD hX hst1 fr hfr
  simp only [zM] at hst1
  simp only [zP, ed 6 (hD 0 lq)] at hfr
  clear hX hD; subst hfr; clear σ β X
  refine then_normal ?_
  refine wp_seq ?_
  rcases Bool.eq_false_or_eq_true (onF x) with hs3 | hs3
  · skip
    rcases Bool.eq_false_or_eq_true (beforeF x hz) with hs5 | hs5
    · skip
      refine wp_region_X [0, 1, 3, 7, 7, 31, 63, 127, 255, 255, 1023, 2047, 4095, 8191] [] [] [] (fun ix σ β X => match ix with | 0 => σ 7 = .int .i64 x | 1 => σ 8 = .bool (onF x) | 2 => σ 9 = .bool true | 3 => σ 10 = .int .i64 x | 4 => σ 11 = .int .i64 hz | 5 => σ 12 = .bool (beforeF x hz) | 6 => σ 13 = .bool true | 7 => σ 14 = .bool true | 8 => σ 15 = .iface tt (tv) | 9 => σ 16 = .int .i64 x | 10 => σ 17 = .int .i64 (g x) | 11 => σ 18 = .bool ((g x) == 2) | 12 => σ 19 = .bool ((g x) == 2) | 13 => σ 6 = .bool ((g x) == 2) | _ => True) [] [7, 8, 9, 10, 11, 12, 13, 14, 15, 16, 17, 18, 19, 6] hst1 ?_ ?_ ?_
      · exact fun ix _ _ _ _ _ _ hs hb hx h => match ix, h with
        | 0, h | 1, h | 2, h | 3, h | 4, h | 5, h | 6, h | 7, h | 8, h | 9, h | 10, h | 11, h | 12, h | 13, h => (hs _ rfl).symm.trans h
        | _ + 14, _ => trivial
      · refine ⟨⟨⟨⟨⟨⟨⟨⟨⟨⟨⟨⟨⟨⟨trivial, ?_⟩, ?_⟩, ?_⟩, ?_⟩, ?_⟩, ?_⟩, ?_⟩, ?_⟩, ?_⟩, ?_⟩, ?_⟩, ?_⟩, ?_⟩, ?_⟩
        · exact mo rfl
        · exact sv_call rfl rfl rfl rfl rfl (fun _ _ _ h => h) fun ρ β W X cx => ⟨_, _, run_callF (args := #[.int .i64 x]) rfl cx.sees rfl (by kernel_rfl) (map1 (cx.anc 0 rfl)), ton_any x _⟩
        · exact s0 rfl fun cx => run_move' rfl (Eq.trans (cx.anc 1 rfl) (congrArg Value.bool hs3))
        · exact s1 rfl (fun cx => (cx.anc 2 rfl)) fun cx => run_move' rfl (cx.out 0 rfl)
        · exact s1 rfl (fun cx => (cx.anc 2 rfl)) fun cx => run_move' rfl (cx.out 1 rfl)
        · exact sv_call_on rfl rfl rfl rfl rfl rfl (fun _ _ _ h => h) (fun _ _ _ _ cx => (cx.anc 2 rfl)) fun ρ β W X cx => ⟨_, _, run_callF (args := #[.int .i64 x, .int .i64 hz]) rfl cx.sees rfl (by kernel_rfl) (map2 (cx.anc 3 rfl) (cx.anc 4 rfl)), cbefore_any x hz _⟩
        · exact s0 rfl fun cx => run_pick_t rfl (cx.anc 2 rfl) (Eq.trans (cx.anc 5 rfl) (congrArg Value.bool hs5))
        · exact s0 rfl fun cx => run_move' rfl (cx.anc 6 rfl)
        · exact s1 rfl (fun cx => (cx.anc 7 rfl)) fun cx => run_move' rfl (cx.out 2 rfl)
        · exact s1 rfl (fun cx => (cx.anc 7 rfl)) fun cx => run_move' rfl (cx.out 0 rfl)
        · exact sv_call_on rfl rfl rfl rfl rfl rfl (fun _ _ _ h => h) (fun _ _ _ _ cx => (cx.anc 7 rfl)) fun ρ β W X cx => ⟨_, _, run_invoke (args := #[.int .i64 x]) (args' := #[rv, .int .i64 x]) rfl rfl (cx.anc 8 rfl) hM hC (map1 (cx.anc 9 rfl)) rfl, hG _ x cx.upd.to_ext⟩
        · exact s1 rfl (fun cx => (cx.anc 7 rfl)) fun cx => run_bin rfl (cx.anc 10 rfl) (cx.sees.const _) rfl
        · exact s0 rfl fun cx => run_pick_t rfl (cx.anc 7 rfl) (cx.anc 11 rfl)
        · exact s0 rfl fun cx => run_assign' rfl (cx.anc 12 rfl)
      intro σ β X W6 hD hX hst6 fr hfr
      simp only [zM] at hst6
      simp only [zP, ed 7 (hD 0 lq), ed 8 (hD 1 lq), ed 9 (hD 2 lq), ed 10 (hD 3 lq), ed 11 (hD 4 lq), ed 12 (hD 5 lq), ed 13 (hD 6 lq), ed 14 (hD 7 lq), ed 15 (hD 8 lq), ed 16 (hD 9 lq), ed 17 (hD 10 lq), ed 18 (hD 11 lq), ed 19 (hD 12 lq), ed 6 (hD 13 lq)] at hfr
      clear hX hD; subst hfr; clear σ β X
      refine then_normal ?_
      refine wp_ret ?_
      refine bodyPost_ret (v := .bool ((g x) == 2)) (by simp [results, Tryd.results69, go_sem]) rfl ?_
      exact Ret.bool (by simp_all [oldF]) hst6.ext
    refine wp_region_X [0, 1, 3, 7, 7, 31, 63, 127, 255, 255, 1023, 2047, 4095, 8191] [] [] [] (fun ix σ β X => match ix with | 0 => σ 7 = .int .i64 x | 1 => σ 8 = .bool (onF x) | 2 => σ 9 = .bool true | 3 => σ 10 = .int .i64 x | 4 => σ 11 = .int .i64 hz | 5 => σ 12 = .bool (beforeF x hz) | 6 => σ 13 = .bool false | 7 => σ 14 = .bool false | 8 => σ 15 = undef | 9 => σ 16 = undef | 10 => σ 17 = undef | 11 => σ 18 = undef | 12 => σ 19 = .bool false | 13 => σ 6 = .bool false | _ => True) [] [7, 8, 9, 10, 11, 12, 13, 14, 15, 16, 17, 18, 19, 6] hst1 ?_ ?_ ?_
    · exact fun ix _ _ _ _ _ _ hs hb hx h => match ix, h with
      | 0, h | 1, h | 2, h | 3, h | 4, h | 5, h | 6, h | 7, h | 8, h | 9, h | 10, h | 11, h | 12, h | 13, h => (hs _ rfl).symm.trans h
      | _ + 14, _ => trivial
    · refine ⟨⟨⟨⟨⟨⟨⟨⟨⟨⟨⟨⟨⟨⟨trivial, ?_⟩, ?_⟩, ?_⟩, ?_⟩, ?_⟩, ?_⟩, ?_⟩, ?_⟩, ?_⟩, ?_⟩, ?_⟩, ?_⟩, ?_⟩, ?_⟩
      · exact mo rfl
      · exact sv_call rfl rfl rfl rfl rfl (fun _ _ _ h => h) fun ρ β W X cx => ⟨_, _, run_callF (args := #[.int .i64 x]) rfl cx.sees rfl (by kernel_rfl) (map1 (cx.anc 0 rfl)), ton_any x _⟩
      · exact s0 rfl fun cx => run_move' rfl (Eq.trans (cx.anc 1 rfl) (congrArg Value.bool hs3))
      · exact s1 rfl (fun cx => (cx.anc 2 rfl)) fun cx => run_move' rfl (cx.out 0 rfl)
      · exact s1 rfl (fun cx => (cx.anc 2 rfl)) fun cx => run_move' rfl (cx.out 1 rfl)
      · exact sv_call_on rfl rfl rfl rfl rfl rfl (fun _ _ _ h => h) (fun _ _ _ _ cx => (cx.anc 2 rfl)) fun ρ β W X cx => ⟨_, _, run_callF (args := #[.int .i64 x, .int .i64 hz]) rfl cx.sees rfl (by kernel_rfl) (map2 (cx.anc 3 rfl) (cx.anc 4 rfl)), cbefore_any x hz _⟩
      · exact s0 rfl fun cx => run_pick_t rfl (cx.anc 2 rfl) (Eq.trans (cx.anc 5 rfl) (congrArg Value.bool hs5))
      · exact s0 rfl fun cx => run_move' rfl (cx.anc 6 rfl)
      · exact s2 rfl fun cx => (cx.anc 7 rfl)
      · exact s2 rfl fun cx => (cx.anc 7 rfl)
      · exact s2 rfl fun cx => (cx.anc 7 rfl)
      · exact s2 rfl fun cx => (cx.anc 7 rfl)
      · exact s0 rfl fun cx => run_pick_f rfl (cx.anc 7 rfl) (cx.sees.const _)
      · exact s0 rfl fun cx => run_assign' rfl (cx.anc 12 rfl)
    intro σ β X W7 hD hX hst7 fr hfr
    simp only [zM] at hst7
    simp only [zP, ed 7 (hD 0 lq), ed 8 (hD 1 lq), ed 9 (hD 2 lq), ed 10 (hD 3 lq), ed 11 (hD 4 lq), ed 12 (hD 5 lq), ed 13 (hD 6 lq), ed 14 (hD 7 lq), ed 15 (hD 8 lq), ed 16 (hD 9 lq), ed 17 (hD 10 lq), ed 18 (hD 11 lq), ed 19 (hD 12 lq), ed 6 (hD 13 lq)] at hfr
    clear hX hD; subst hfr; clear σ β X
    refine then_normal ?_
    refine wp_ret ?_
    refine bodyPost_ret (v := .bool false) (by simp [results, Tryd.results69, go_sem]) rfl ?_
    exact Ret.bool (by simp_all [oldF]) hst7.ext
  refine wp_region_X [0, 1, 3, 7, 7, 31, 63, 127, 255, 255, 1023, 2047, 4095, 8191] [] [] [] (fun ix σ β X => match ix with | 0 => σ 7 = .int .i64 x | 1 => σ 8 = .bool (onF x) | 2 => σ 9 = .bool false | 3 => σ 10 = undef | 4 => σ 11 = undef | 5 => σ 12 = undef | 6 => σ 13 = .bool false | 7 => σ 14 = .bool false | 8 => σ 15 = undef | 9 => σ 16 = undef | 10 => σ 17 = undef | 11 => σ 18 = undef | 12 => σ 19 = .bool false | 13 => σ 6 = .bool false | _ => True) [] [7, 8, 9, 10, 11, 12, 13, 14, 15, 16, 17, 18, 19, 6] hst1 ?_ ?_ ?_
  · exact fun ix _ _ _ _ _ _ hs hb hx h => match ix, h with
    | 0, h | 1, h | 2, h | 3, h | 4, h | 5, h | 6, h | 7, h | 8, h | 9, h | 10, h | 11, h | 12, h | 13, h => (hs _ rfl).symm.trans h
    | _ + 14, _ => trivial
  · refine ⟨⟨⟨⟨⟨⟨⟨⟨⟨⟨⟨⟨⟨⟨trivial, ?_⟩, ?_⟩, ?_⟩, ?_⟩, ?_⟩, ?_⟩, ?_⟩, ?_⟩, ?_⟩, ?_⟩, ?_⟩, ?_⟩, ?_⟩, ?_⟩
    · exact mo rfl
    · exact sv_call rfl rfl rfl rfl rfl (fun _ _ _ h => h) fun ρ β W X cx => ⟨_, _, run_callF (args := #[.int .i64 x]) rfl cx.sees rfl (by kernel_rfl) (map1 (cx.anc 0 rfl)), ton_any x _⟩
    · exact s0 rfl fun cx => run_move' rfl (Eq.trans (cx.anc 1 rfl) (congrArg Value.bool hs3))
    · exact s2 rfl fun cx => (cx.anc 2 rfl)
    · exact s2 rfl fun cx => (cx.anc 2 rfl)
    · exact s2 rfl fun cx => (cx.anc 2 rfl)
    · exact s0 rfl fun cx => run_pick_f rfl (cx.anc 2 rfl) (cx.sees.const _)
    · exact s0 rfl fun cx => run_move' rfl (cx.anc 6 rfl)
    · exact s2 rfl fun cx => (cx.anc 7 rfl)
    · exact s2 rfl fun cx => (cx.anc 7 rfl)
    · exact s2 rfl fun cx => (cx.anc 7 rfl)
    · exact s2 rfl fun cx => (cx.anc 7 rfl)
    · exact s0 rfl fun cx => run_pick_f rfl (cx.anc 7 rfl) (cx.sees.const _)
    · exact s0 rfl fun cx => run_assign' rfl (cx.anc 12 rfl)
  intro σ β X W8 hD hX hst8 fr hfr
  simp only [zM] at hst8
  simp only [zP, ed 7 (hD 0 lq), ed 8 (hD 1 lq), ed 9 (hD 2 lq), ed 10 (hD 3 lq), ed 11 (hD 4 lq), ed 12 (hD 5 lq), ed 13 (hD 6 lq), ed 14 (hD 7 lq), ed 15 (hD 8 lq), ed 16 (hD 9 lq), ed 17 (hD 10 lq), ed 18 (hD 11 lq), ed 19 (hD 12 lq), ed 6 (hD 13 lq)] at hfr
  clear hX hD; subst hfr; clear σ β X
  refine then_normal ?_
  refine wp_ret ?_
  refine bodyPost_ret (v := .bool false) (by simp [results, Tryd.results69, go_sem]) rfl ?_
  exact Ret.bool (by simp_all [oldF]) hst8.ext

set_option maxRecDepth 100000 in
set_option maxHeartbeats 2000000 in
theorem dead_any (a b n1 n2 : Int) (ho : Bool) (RA : Option Addr) (rn rc : Nat) (hz : Int) (tt : TypeId) (tv : Value) (g : Int → Int) (w : World) (hS : StOk w tt tv g) :
    Calls Tryd.prog 31 #[.agg #[.int .i64 a, .int .i64 b, .int .i64 n1, .int .i64 n2, .bool ho, .slice RA rn rc], .int .i64 hz, .iface tt (tv)] w (Ret (.bool (deadF g hz a b)) w) := by
  obtain ⟨f0, rv, hM, hC, hG⟩ := hS.ex
  go_enter Tryd.func31, Tryd.ntmps31
  have hst0 := St.start w
  refine wp_seq ?_
  refine wp_region_X [0, 0] [] [[0]] [] (fun ix σ β X => match ix with | 0 => σ 3 = .pointer (some ⟨(pb (β 3)), 0, none⟩) ∧ X 0 = eB (pb (β 3)) 27 #[.int .i64 a, .int .i64 b, .int .i64 n1, .int .i64 n2, .bool ho, .slice RA rn rc] | 1 => σ 6 = .bool false | _ => True) [0] [3, 6] hst0 ?_ ?_ ?_
  · exact fun ix _ _ _ _ _ _ hs hb hx h => match ix, h with
    | 1, h => (hs _ rfl).symm.trans h
    | 0, h => by dsimp only at h ⊢; rw [← hs 3 rfl, ← hb 3 rfl, ← hx 0 rfl]; exact h
    | _ + 2, _ => trivial
  · refine ⟨⟨trivial, ?_⟩, ?_⟩
    · refine sv_any rfl rfl fun ρ β W X cx => ?_
      exact dv_box (cs := #[.int .i64 a, .int .i64 b, .int .i64 n1, .int .i64 n2, .bool ho, .slice RA rn rc]) rfl (cx.out 0 rfl) rfl rfl rfl (fun σ β' X' hs hb hv hx => ⟨hv, hx⟩)
    · exact s0 rfl fun cx => run_assign' rfl (cx.sees.const _)
  intro σ β X W1 hD hX hst1 fr hfr
  obtain ⟨B3_1, hu_B3_1⟩ : ∃ z, pb (β 3) = z := ⟨_, rfl⟩
  simp only [zM, exq 0 ((hD 0 lq).2), hu_B3_1] at hst1
  simp only [zP, ed 3 ((hD 0 lq).1), ed 6 (hD 1 lq), hu_B3_1] at hfr
  clear hX hD hu_B3_1; subst hfr; clear σ β X
  refine then_normal ?_
  refine wp_seq ?_
  rcases Bool.eq_false_or_eq_true ((g a) == 3) with hs3 | hs3
  · skip
    have hs3p : (g a) = 3 := by simpa using hs3
    refine wp_region_X [0, 0, 2, 7, 15, 31, 63, 127, 63, 63, 1023, 2047, 4095] [[], [], [0]] [] [] (fun ix σ β X => match ix with | 0 => σ 7 = .iface tt (tv) | 1 => σ 8 = .pointer (some ⟨B3_1, 0, none⟩) | 2 => σ 9 = .int .i64 a | 3 => σ 10 = .int .i64 (g a) | 4 => σ 11 = .bool ((g a) == 3) | 5 => σ 12 = .bool true | 6 => σ 13 = undef | 7 => σ 14 = undef | 8 => σ 15 = undef | 9 => σ 16 = undef | 10 => σ 17 = undef | 11 => σ 18 = .bool true | 12 => σ 6 = .bool true | _ => True) [0] [7, 8, 9, 10, 11, 12, 13, 14, 15, 16, 17, 18, 6] hst1 ?_ ?_ ?_
    · exact fun ix _ _ _ _ _ _ hs hb hx h => match ix, h with
      | 0, h | 1, h | 2, h | 3, h | 4, h | 5, h | 6, h | 7, h | 8, h | 9, h | 10, h | 11, h | 12, h => (hs _ rfl).symm.trans h
      | _ + 13, _ => trivial
    · refine ⟨⟨⟨⟨⟨⟨⟨⟨⟨⟨⟨⟨⟨trivial, ?_⟩, ?_⟩, ?_⟩, ?_⟩, ?_⟩, ?_⟩, ?_⟩, ?_⟩, ?_⟩, ?_⟩, ?_⟩, ?_⟩, ?_⟩
      · exact mo rfl
      · exact s0 rfl fun cx => run_fieldAddr' (k := 0) (n := 0) rfl (by kernel_rfl) (cx.out 3 rfl) rfl
      · exact s0 rfl fun cx => run_load1 rfl (by kernel_rfl) (cx.anc 1 rfl) ((cx.blk (cx.init 0 _ rfl) rfl).cell 0)
      · exact sv_call rfl rfl rfl rfl rfl (fun _ _ _ h => h) fun ρ β W X cx => ⟨_, _, run_invoke (args := #[.int .i64 a]) (args' := #[rv, .int .i64 a]) rfl rfl (cx.anc 0 rfl) hM hC (map1 (cx.anc 2 rfl)) rfl, hG _ a cx.upd.to_ext⟩
      · exact s0 rfl fun cx => run_bin rfl (cx.anc 3 rfl) (cx.sees.const _) rfl
      · exact s0 rfl fun cx => run_move' rfl (Eq.trans (cx.anc 4 rfl) (congrArg Value.bool hs3))
      · exact s2 rfl fun cx => (cx.anc 5 rfl)
      · exact s2 rfl fun cx => (cx.anc 5 rfl)
      · exact s2 rfl fun cx => (cx.anc 5 rfl)
      · exact s2 rfl fun cx => (cx.anc 5 rfl)
      · exact s2 rfl fun cx => (cx.anc 5 rfl)
      · exact s0 rfl fun cx => run_pick_t rfl (cx.anc 5 rfl) (cx.sees.const _)
      · exact s0 rfl fun cx => run_assign' rfl (cx.anc 11 rfl)
    intro σ β X W4 hD hX hst4 fr hfr
    simp only [zM, exq 0 (hX 0 _ rfl)] at hst4
    simp only [zP, ed 7 (hD 0 lq), ed 8 (hD 1 lq), ed 9 (hD 2 lq), ed 10 (hD 3 lq), ed 11 (hD 4 lq), ed 12 (hD 5 lq), ed 13 (hD 6 lq), ed 14 (hD 7 lq), ed 15 (hD 8 lq), ed 16 (hD 9 lq), ed 17 (hD 10 lq), ed 18 (hD 11 lq), ed 6 (hD 12 lq)] at hfr
    clear hX hD; subst hfr; clear σ β X
    refine then_normal ?_
    refine wp_ret ?_
    refine bodyPost_ret (v := .bool true) (by simp [results, Tryd.results31, go_sem]) rfl ?_
    exact Ret.bool (by simp_all [deadF]) hst4.ext
  have hs3p : (g a) ≠ 3 := by simpa using hs3
  refine wp_region_X [0, 0, 2, 7, 15, 31, 63, 127, 63, 63, 1023, 2047, 4095] [[], [], [0], [], [], [], [], [0]] [] [] (fun ix σ β X => match ix with | 0 => σ 7 = .iface tt (tv) | 1 => σ 8 = .pointer (some ⟨B3_1, 0, none⟩) | 2 => σ 9 = .int .i64 a | 3 => σ 10 = .int .i64 (g a) | 4 => σ 11 = .bool ((g a) == 3) | 5 => σ 12 = .bool false | 6 => σ 13 = .pointer (some ⟨B3_1, 1, none⟩) | 7 => σ 14 = .int .i64 b | 8 => σ 15 = .int .i64 hz | 9 => σ 16 = .iface tt (tv) | 10 => σ 17 = .bool (oldF g hz b) | 11 => σ 18 = .bool (oldF g hz b) | 12 => σ 6 = .bool (oldF g hz b) | _ => True) [0] [7, 8, 9, 10, 11, 12, 13, 14, 15, 16, 17, 18, 6] hst1 ?_ ?_ ?_
  · exact fun ix _ _ _ _ _ _ hs hb hx h => match ix, h with
    | 0, h | 1, h | 2, h | 3, h | 4, h | 5, h | 6, h | 7, h | 8, h | 9, h | 10, h | 11, h | 12, h => (hs _ rfl).symm.trans h
    | _ + 13, _ => trivial
  · refine ⟨⟨⟨⟨⟨⟨⟨⟨⟨⟨⟨⟨⟨trivial, ?_⟩, ?_⟩, ?_⟩, ?_⟩, ?_⟩, ?_⟩, ?_⟩, ?_⟩, ?_⟩, ?_⟩, ?_⟩, ?_⟩, ?_⟩
    · exact mo rfl
    · exact s0 rfl fun cx => run_fieldAddr' (k := 0) (n := 0) rfl (by kernel_rfl) (cx.out 3 rfl) rfl
    · exact s0 rfl fun cx => run_load1 rfl (by kernel_rfl) (cx.anc 1 rfl) ((cx.blk (cx.init 0 _ rfl) rfl).cell 0)
    · exact sv_call rfl rfl rfl rfl rfl (fun _ _ _ h => h) fun ρ β W X cx => ⟨_, _, run_invoke (args := #[.int .i64 a]) (args' := #[rv, .int .i64 a]) rfl rfl (cx.anc 0 rfl) hM hC (map1 (cx.anc 2 rfl)) rfl, hG _ a cx.upd.to_ext⟩
    · exact s0 rfl fun cx => run_bin rfl (cx.anc 3 rfl) (cx.sees.const _) rfl
    · exact s0 rfl fun cx => run_move' rfl (Eq.trans (cx.anc 4 rfl) (congrArg Value.bool hs3))
    · exact s1 rfl (fun cx => (cx.anc 5 rfl)) fun cx => run_fieldAddr' (k := 1) (n := 1) rfl (by kernel_rfl) (cx.out 3 rfl) rfl
    · exact s1 rfl (fun cx => (cx.anc 5 rfl)) fun cx => run_load1 rfl (by kernel_rfl) (cx.anc 6 rfl) ((cx.blk (cx.init 0 _ rfl) rfl).cell 1)
    · exact s1 rfl (fun cx => (cx.anc 5 rfl)) fun cx => run_move' rfl (cx.out 1 rfl)
    · exact s1 rfl (fun cx => (cx.anc 5 rfl)) fun cx => run_move' rfl (cx.out 2 rfl)
    · exact sv_call_on rfl rfl rfl rfl rfl rfl (fun _ _ _ h => h) (fun _ _ _ _ cx => (cx.anc 5 rfl)) fun ρ β W X cx => ⟨_, _, run_callF (args := #[.int .i64 b, .int .i64 hz, .iface tt (tv)]) rfl cx.sees rfl (by kernel_rfl) (map3 (cx.anc 7 rfl) (cx.anc 8 rfl) (cx.anc 9 rfl)), old_any hz b _ _ _ _ (hS.ext cx.upd.to_ext)⟩
    · exact s0 rfl fun cx => run_pick_f rfl (cx.anc 5 rfl) (cx.anc 10 rfl)
    · exact s0 rfl fun cx => run_assign' rfl (cx.anc 11 rfl)
  intro σ β X W5 hD hX hst5 fr hfr
  simp only [zM, exq 0 (hX 0 _ rfl)] at hst5
  simp only [zP, ed 7 (hD 0 lq), ed 8 (hD 1 lq), ed 9 (hD 2 lq), ed 10 (hD 3 lq), ed 11 (hD 4 lq), ed 12 (hD 5 lq), ed 13 (hD 6 lq), ed 14 (hD 7 lq), ed 15 (hD 8 lq), ed 16 (hD 9 lq), ed 17 (hD 10 lq), ed 18 (hD 11 lq), ed 6 (hD 12 lq)] at hfr
  clear hX hD; subst hfr; clear σ β X
  refine then_normal ?_
  refine wp_ret ?_
  refine bodyPost_ret (v := .bool (oldF g hz b)) (by simp [results, Tryd.results31, go_sem]) rfl ?_
  exact Ret.bool (by simp_all [deadF]) hst5.ext

set_option maxRecDepth 100000 in
set_option maxHeartbeats 2000000 in
theorem all_any (a b n1 n2 : Int) (ho : Bool) (RA : Option Addr) (rn rc : Nat) (hz : Int) (tt : TypeId) (tv : Value) (g : Int → Int) (w : World) (hS : StOk w tt tv g) :
    Calls Tryd.prog 33 #[.agg #[.int .i64 a, .int .i64 b, .int .i64 n1, .int .i64 n2, .bool ho, .slice RA rn rc], .int .i64 hz, .iface tt (tv)] w (Ret (.bool (allF g hz a b)) w) := by
  obtain ⟨f0, rv, hM, hC, hG⟩ := hS.ex
  go_enter Tryd.func33, Tryd.ntmps33
  have hst0 := St.start w
  refine wp_seq ?_
  refine wp_region_X [0, 0] [] [[0]] [] (fun ix σ β X => match ix with | 0 => σ 3 = .pointer (some ⟨(pb (β 3)), 0, none⟩) ∧ X 0 = eB (pb (β 3)) 27 #[.int .i64 a, .int .i64 b, .int .i64 n1, .int .i64 n2, .bool ho, .slice RA rn rc] | 1 => σ 6 = .bool false | _ => True) [0] [3, 6] hst0 ?_ ?_ ?_
  · exact fun ix _ _ _ _ _ _ hs hb hx h => match ix, h with
    | 1, h => (hs _ rfl).symm.trans h
    | 0, h => by dsimp only at h ⊢; rw [← hs 3 rfl, ← hb 3 rfl, ← hx 0 rfl]; exact h
    | _ + 2, _ => trivial
  · refine ⟨⟨trivial, ?_⟩, ?_⟩
    · refine sv_any rfl rfl fun ρ β W X cx => ?_
      exact dv_box (cs := #[.int .i64 a, .int .i64 b, .int .i64 n1, .int .i64 n2, .bool ho, .slice RA rn rc]) rfl (cx.out 0 rfl) rfl rfl rfl (fun σ β' X' hs hb hv hx => ⟨hv, hx⟩)
    · exact s0 rfl fun cx => run_assign' rfl (cx.sees.const _)
  intro σ β X W1 hD hX hst1 fr hfr
  obtain ⟨B3_1, hu_B3_1⟩ : ∃ z, pb (β 3) = z := ⟨_, rfl⟩
  simp only [zM, exq 0 ((hD 0 lq).2), hu_B3_1] at hst1
  simp only [zP, ed 3 ((hD 0 lq).1), ed 6 (hD 1 lq), hu_B3_1] at hfr
  clear hX hD hu_B3_1; subst hfr; clear σ β X
  refine then_normal ?_
  refine wp_seq ?_
  rcases Bool.eq_false_or_eq_true (a == 2) with hs3 | hs3
  · skip
    have hs3p : a = 2 := by simpa using hs3
    rcases Bool.eq_false_or_eq_true (b == 0) with hs5 | hs5
    · skip
      have hs5p : b = 0 := by simpa using hs5
      refine wp_region_X [0, 1, 3, 7, 15, 31, 15, 15, 255, 511, 1023, 2047, 4095, 8191, 16383, 32767, 32767, 98303, 262143, 524287, 1048575, 2097151, 4194303] [[], [0], [], [], [], [], [], [], [], [], [], [], [0]] [] [] (fun ix σ β X => match ix with | 0 => σ 7 = .pointer (some ⟨B3_1, 0, none⟩) | 1 => σ 8 = .int .i64 a | 2 => σ 9 = .bool (a == 2) | 3 => σ 10 = .bool true | 4 => σ 11 = undef | 5 => σ 12 = undef | 6 => σ 13 = undef | 7 => σ 14 = undef | 8 => σ 15 = undef | 9 => σ 16 = .bool true | 10 => σ 17 = .bool true | 11 => σ 18 = .pointer (some ⟨B3_1, 1, none⟩) | 12 => σ 19 = .int .i64 b | 13 => σ 20 = .bool (b == 0) | 14 => σ 21 = .bool true | 15 => σ 22 = undef | 16 => σ 23 = undef | 17 => σ 24 = undef | 18 => σ 25 = undef | 19 => σ 26 = undef | 20 => σ 27 = .bool true | 21 => σ 28 = .bool true | 22 => σ 6 = .bool true | _ => True) [0] [7, 8, 9, 10, 11, 12, 13, 14, 15, 16, 17, 18, 19, 20, 21, 22, 23, 24, 25, 26, 27, 28, 6] hst1 ?_ ?_ ?_
      · exact fun ix _ _ _ _ _ _ hs hb hx h => match ix, h with
        | 0, h | 1, h | 2, h | 3, h | 4, h | 5, h | 6, h | 7, h | 8, h | 9, h | 10, h | 11, h | 12, h | 13, h | 14, h | 15, h | 16, h | 17, h | 18, h | 19, h | 20, h | 21, h | 22, h => (hs _ rfl).symm.trans h
        | _ + 23, _ => trivial
      · refine ⟨⟨⟨⟨⟨⟨⟨⟨⟨⟨⟨⟨⟨⟨⟨⟨⟨⟨⟨⟨⟨⟨⟨trivial, ?_⟩, ?_⟩, ?_⟩, ?_⟩, ?_⟩, ?_⟩, ?_⟩, ?_⟩, ?_⟩, ?_⟩, ?_⟩, ?_⟩, ?_⟩, ?_⟩, ?_⟩, ?_⟩, ?_⟩, ?_⟩, ?_⟩, ?_⟩, ?_⟩, ?_⟩, ?_⟩
        · exact s0 rfl fun cx => run_fieldAddr' (k := 0) (n := 0) rfl (by kernel_rfl) (cx.out 3 rfl) rfl
        · exact s0 rfl fun cx => run_load1 rfl (by kernel_rfl) (cx.anc 0 rfl) ((cx.blk (cx.init 0 _ rfl) rfl).cell 0)
        · exact s0 rfl fun cx => run_bin rfl (cx.anc 1 rfl) (cx.sees.const _) rfl
        · exact s0 rfl fun cx => run_move' rfl (Eq.trans (cx.anc 2 rfl) (congrArg Value.bool hs3))
        · exact s2 rfl fun cx => (cx.anc 3 rfl)
        · exact s2 rfl fun cx => (cx.anc 3 rfl)
        · exact s2 rfl fun cx => (cx.anc 3 rfl)
        · exact s2 rfl fun cx => (cx.anc 3 rfl)
        · exact s2 rfl fun cx => (cx.anc 3 rfl)
        · exact s0 rfl fun cx => run_pick_t rfl (cx.anc 3 rfl) (cx.sees.const _)
        · exact s0 rfl fun cx => run_move' rfl (cx.anc 9 rfl)
        · exact s1 rfl (fun cx => (cx.anc 10 rfl)) fun cx => run_fieldAddr' (k := 1) (n := 1) rfl (by kernel_rfl) (cx.out 3 rfl) rfl
        · exact s1 rfl (fun cx => (cx.anc 10 rfl)) fun cx => run_load1 rfl (by kernel_rfl) (cx.anc 11 rfl) ((cx.blk (cx.init 0 _ rfl) rfl).cell 1)
        · exact s1 rfl (fun cx => (cx.anc 10 rfl)) fun cx => run_bin rfl (cx.anc 12 rfl) (cx.sees.const _) rfl
        · exact s1 rfl (fun cx => (cx.anc 10 rfl)) fun cx => run_move' rfl (Eq.trans (cx.anc 13 rfl) (congrArg Value.bool hs5))
        · exact s2 rfl fun cx => (cx.anc 14 rfl)
        · exact s2 rfl fun cx => (cx.anc 14 rfl)
        · exact s2 rfl fun cx => (cx.anc 14 rfl)
        · exact s2 rfl fun cx => (cx.anc 14 rfl)
        · exact s2 rfl fun cx => (cx.anc 14 rfl)
        · exact s1 rfl (fun cx => (cx.anc 10 rfl)) fun cx => run_pick_t rfl (cx.anc 14 rfl) (cx.sees.const _)
        · exact s0 rfl fun cx => run_pick_t rfl (cx.anc 10 rfl) (cx.anc 20 rfl)
        · exact s0 rfl fun cx => run_assign' rfl (cx.anc 21 rfl)
      intro σ β X W6 hD hX hst6 fr hfr
      simp only [zM, exq 0 (hX 0 _ rfl)] at hst6
      simp only [zP, ed 7 (hD 0 lq), ed 8 (hD 1 lq), ed 9 (hD 2 lq), ed 10 (hD 3 lq), ed 11 (hD 4 lq), ed 12 (hD 5 lq), ed 13 (hD 6 lq), ed 14 (hD 7 lq), ed 15 (hD 8 lq), ed 16 (hD 9 lq), ed 17 (hD 10 lq), ed 18 (hD 11 lq), ed 19 (hD 12 lq), ed 20 (hD 13 lq), ed 21 (hD 14 lq), ed 22 (hD 15 lq), ed 23 (hD 16 lq), ed 24 (hD 17 lq), ed 25 (hD 18 lq), ed 26 (hD 19 lq), ed 27 (hD 20 lq), ed 28 (hD 21 lq), ed 6 (hD 22 lq)] at hfr
      clear hX hD; subst hfr; clear σ β X
      refine then_normal ?_
      refine wp_ret ?_
      refine bodyPost_ret (v := .bool true) (by simp [results, Tryd.results33, go_sem]) rfl ?_
      exact Ret.bool (by simp_all [allF]) hst6.ext
    have hs5p : b ≠ 0 := by simpa using hs5
    refine wp_region_X [0, 1, 3, 7, 15, 31, 15, 15, 255, 511, 1023, 2047, 4095, 8191, 16383, 32767, 32767, 98303, 262143, 524287, 1048575, 2097151, 4194303] [[], [0], [], [], [], [], [], [], [], [], [], [], [0], [], [], [], [], [0]] [] [] (fun ix σ β X => match ix with | 0 => σ 7 = .pointer (some ⟨B3_1, 0, none⟩) | 1 => σ 8 = .int .i64 a | 2 => σ 9 = .bool (a == 2) | 3 => σ 10 = .bool true | 4 => σ 11 = undef | 5 => σ 12 = undef | 6 => σ 13 = undef | 7 => σ 14 = undef | 8 => σ 15 = undef | 9 => σ 16 = .bool true | 10 => σ 17 = .bool true | 11 => σ 18 = .pointer (some ⟨B3_1, 1, none⟩) | 12 => σ 19 = .int .i64 b | 13 => σ 20 = .bool (b == 0) | 14 => σ 21 = .bool false | 15 => σ 22 = .iface tt (tv) | 16 => σ 23 = .pointer (some ⟨B3_1, 1, none⟩) | 17 => σ 24 = .int .i64 b | 18 => σ 25 = .int .i64 (g b) | 19 => σ 26 = .bool ((g b) == 3) | 20 => σ 27 = .bool ((g b) == 3) | 21 => σ 28 = .bool ((g b) == 3) | 22 => σ 6 = .bool ((g b) == 3) | _ => True) [0] [7, 8, 9, 10, 11, 12, 13, 14, 15, 16, 17, 18, 19, 20, 21, 22, 23, 24, 25, 26, 27, 28, 6] hst1 ?_ ?_ ?_
    · exact fun ix _ _ _ _ _ _ hs hb hx h => match ix, h with
      | 0, h | 1, h | 2, h | 3, h | 4, h | 5, h | 6, h | 7, h | 8, h | 9, h | 10, h | 11, h | 12, h | 13, h | 14, h | 15, h | 16, h | 17, h | 18, h | 19, h | 20, h | 21, h | 22, h => (hs _ rfl).symm.trans h
      | _ + 23, _ => trivial
    · refine ⟨⟨⟨⟨⟨⟨⟨⟨⟨⟨⟨⟨⟨⟨⟨⟨⟨⟨⟨⟨⟨⟨⟨trivial, ?_⟩, ?_⟩, ?_⟩, ?_⟩, ?_⟩, ?_⟩, ?_⟩, ?_⟩, ?_⟩, ?_⟩, ?_⟩, ?_⟩, ?_⟩, ?_⟩, ?_⟩, ?_⟩, ?_⟩, ?_⟩, ?_⟩, ?_⟩, ?_⟩, ?_⟩, ?_⟩
      · exact s0 rfl fun cx => run_fieldAddr' (k := 0) (n := 0) rfl (by kernel_rfl) (cx.out 3 rfl) rfl
      · exact s0 rfl fun cx => run_load1 rfl (by kernel_rfl) (cx.anc 0 rfl) ((cx.blk (cx.init 0 _ rfl) rfl).cell 0)
      · exact s0 rfl fun cx => run_bin rfl (cx.anc 1 rfl) (cx.sees.const _) rfl
      · exact s0 rfl fun cx => run_move' rfl (Eq.trans (cx.anc 2 rfl) (congrArg Value.bool hs3))
      · exact s2 rfl fun cx => (cx.anc 3 rfl)
      · exact s2 rfl fun cx => (cx.anc 3 rfl)
      · exact s2 rfl fun cx => (cx.anc 3 rfl)
      · exact s2 rfl fun cx => (cx.anc 3 rfl)
      · exact s2 rfl fun cx => (cx.anc 3 rfl)
      · exact s0 rfl fun cx => run_pick_t rfl (cx.anc 3 rfl) (cx.sees.const _)
      · exact s0 rfl fun cx => run_move' rfl (cx.anc 9 rfl)
      · exact s1 rfl (fun cx => (cx.anc 10 rfl)) fun cx => run_fieldAddr' (k := 1) (n := 1) rfl (by kernel_rfl) (cx.out 3 rfl) rfl
      · exact s1 rfl (fun cx => (cx.anc 10 rfl)) fun cx => run_load1 rfl (by kernel_rfl) (cx.anc 11 rfl) ((cx.blk (cx.init 0 _ rfl) rfl).cell 1)
      · exact s1 rfl (fun cx => (cx.anc 10 rfl)) fun cx => run_bin rfl (cx.anc 12 rfl) (cx.sees.const _) rfl
      · exact s1 rfl (fun cx => (cx.anc 10 rfl)) fun cx => run_move' rfl (Eq.trans (cx.anc 13 rfl) (congrArg Value.bool hs5))
      · exact s1 rfl (fun cx => (cx.anc 14 rfl)) fun cx => run_move' rfl (cx.out 2 rfl)
      · exact s1 rfl (fun cx => (cx.anc 14 rfl)) fun cx => run_fieldAddr' (k := 1) (n := 1) rfl (by kernel_rfl) (cx.out 3 rfl) rfl
      · exact s1 rfl (fun cx => (cx.anc 14 rfl)) fun cx => run_load1 rfl (by kernel_rfl) (cx.anc 16 rfl) ((cx.blk (cx.init 0 _ rfl) rfl).cell 1)
      · exact sv_call_on rfl rfl rfl rfl rfl rfl (fun _ _ _ h => h) (fun _ _ _ _ cx => (cx.anc 14 rfl)) fun ρ β W X cx => ⟨_, _, run_invoke (args := #[.int .i64 b]) (args' := #[rv, .int .i64 b]) rfl rfl (cx.anc 15 rfl) hM hC (map1 (cx.anc 17 rfl)) rfl, hG _ b cx.upd.to_ext⟩
      · exact s1 rfl (fun cx => (cx.anc 14 rfl)) fun cx => run_bin rfl (cx.anc 18 rfl) (cx.sees.const _) rfl
      · exact s1 rfl (fun cx => (cx.anc 10 rfl)) fun cx => run_pick_f rfl (cx.anc 14 rfl) (cx.anc 19 rfl)
      · exact s0 rfl fun cx => run_pick_t rfl (cx.anc 10 rfl) (cx.anc 20 rfl)
      · exact s0 rfl fun cx => run_assign' rfl (cx.anc 21 rfl)
    intro σ β X W7 hD hX hst7 fr hfr
    simp only [zM, exq 0 (hX 0 _ rfl)] at hst7
    simp only [zP, ed 7 (hD 0 lq), ed 8 (hD 1 lq), ed 9 (hD 2 lq), ed 10 (hD 3 lq), ed 11 (hD 4 lq), ed 12 (hD 5 lq), ed 13 (hD 6 lq), ed 14 (hD 7 lq), ed 15 (hD 8 lq), ed 16 (hD 9 lq), ed 17 (hD 10 lq), ed 18 (hD 11 lq), ed 19 (hD 12 lq), ed 20 (hD 13 lq), ed 21 (hD 14 lq), ed 22 (hD 15 lq), ed 23 (hD 16 lq), ed 24 (hD 17 lq), ed 25 (hD 18 lq), ed 26 (hD 19 lq), ed 27 (hD 20 lq), ed 28 (hD 21 lq), ed 6 (hD 22 lq)] at hfr
    clear hX hD; subst hfr; clear σ β X
    refine then_normal ?_
    refine wp_ret ?_
    refine bodyPost_ret (v := .bool ((g b) == 3)) (by simp [results, Tryd.results33, go_sem]) rfl ?_
    exact Ret.bool (by simp_all [allF]) hst7.ext
  have hs3p : a ≠ 2 := by simpa using hs3
  rcases Bool.eq_false_or_eq_true (oldF g hz a) with hs9 | hs9
  · skip
    rcases Bool.eq_false_or_eq_true (b == 0) with hs11 | hs11
    · skip
      have hs11p : b = 0 := by simpa using hs11
      refine wp_region_X [0, 1, 3, 7, 15, 31, 15, 15, 255, 511, 1023, 2047, 4095, 8191, 16383, 32767, 32767, 98303, 262143, 524287, 1048575, 2097151, 4194303] [[], [0], [], [], [], [0], [], [], [], [], [], [], [0]] [] [] (fun ix σ β X => match ix with | 0 => σ 7 = .pointer (some ⟨B3_1, 0, none⟩) | 1 => σ 8 = .int .i64 a | 2 => σ 9 = .bool (a == 2) | 3 => σ 10 = .bool false | 4 => σ 11 = .pointer (some ⟨B3_1, 0, none⟩) | 5 => σ 12 = .int .i64 a | 6 => σ 13 = .int .i64 hz | 7 => σ 14 = .iface tt (tv) | 8 => σ 15 = .bool (oldF g hz a) | 9 => σ 16 = .bool true | 10 => σ 17 = .bool true | 11 => σ 18 = .pointer (some ⟨B3_1, 1, none⟩) | 12 => σ 19 = .int .i64 b | 13 => σ 20 = .bool (b == 0) | 14 => σ 21 = .bool true | 15 => σ 22 = undef | 16 => σ 23 = undef | 17 => σ 24 = undef | 18 => σ 25 = undef | 19 => σ 26 = undef | 20 => σ 27 = .bool true | 21 => σ 28 = .bool true | 22 => σ 6 = .bool true | _ => True) [0] [7, 8, 9, 10, 11, 12, 13, 14, 15, 16, 17, 18, 19, 20, 21, 22, 23, 24, 25, 26, 27, 28, 6] hst1 ?_ ?_ ?_
      · exact fun ix _ _ _ _ _ _ hs hb hx h => match ix, h with
        | 0, h | 1, h | 2, h | 3, h | 4, h | 5, h | 6, h | 7, h | 8, h | 9, h | 10, h | 11, h | 12, h | 13, h | 14, h | 15, h | 16, h | 17, h | 18, h | 19, h | 20, h | 21, h | 22, h => (hs _ rfl).symm.trans h
        | _ + 23, _ => trivial
      · refine ⟨⟨⟨⟨⟨⟨⟨⟨⟨⟨⟨⟨⟨⟨⟨⟨⟨⟨⟨⟨⟨⟨⟨trivial, ?_⟩, ?_⟩, ?_⟩, ?_⟩, ?_⟩, ?_⟩, ?_⟩, ?_⟩, ?_⟩, ?_⟩, ?_⟩, ?_⟩, ?_⟩, ?_⟩, ?_⟩, ?_⟩, ?_⟩, ?_⟩, ?_⟩, ?_⟩, ?_⟩, ?_⟩, ?_⟩
        · exact s0 rfl fun cx => run_fieldAddr' (k := 0) (n := 0) rfl (by kernel_rfl) (cx.out 3 rfl) rfl
        · exact s0 rfl fun cx => run_load1 rfl (by kernel_rfl) (cx.anc 0 rfl) ((cx.blk (cx.init 0 _ rfl) rfl).cell 0)
        · exact s0 rfl fun cx => run_bin rfl (cx.anc 1 rfl) (cx.sees.const _) rfl
        · exact s0 rfl fun cx => run_move' rfl (Eq.trans (cx.anc 2 rfl) (congrArg Value.bool hs3))
        · exact s1 rfl (fun cx => (cx.anc 3 rfl)) fun cx => run_fieldAddr' (k := 0) (n := 0) rfl (by kernel_rfl) (cx.out 3 rfl) rfl
        · exact s1 rfl (fun cx => (cx.anc 3 rfl)) fun cx => run_load1 rfl (by kernel_rfl) (cx.anc 4 rfl) ((cx.blk (cx.init 0 _ rfl) rfl).cell 0)
        · exact s1 rfl (fun cx => (cx.anc 3 rfl)) fun cx => run_move' rfl (cx.out 1 rfl)
        · exact s1 rfl (fun cx => (cx.anc 3 rfl)) fun cx => run_move' rfl (cx.out 2 rfl)
        · exact sv_call_on rfl rfl rfl rfl rfl rfl (fun _ _ _ h => h) (fun _ _ _ _ cx => (cx.anc 3 rfl)) fun ρ β W X cx => ⟨_, _, run_callF (args := #[.int .i64 a, .int .i64 hz, .iface tt (tv)]) rfl cx.sees rfl (by kernel_rfl) (map3 (cx.anc 5 rfl) (cx.anc 6 rfl) (cx.anc 7 rfl)), old_any hz a _ _ _ _ (hS.ext cx.upd.to_ext)⟩
        · exact s0 rfl fun cx => run_pick_f rfl (cx.anc 3 rfl) (Eq.trans (cx.anc 8 rfl) (congrArg Value.bool hs9))
        · exact s0 rfl fun cx => run_move' rfl (cx.anc 9 rfl)
        · exact s1 rfl (fun cx => (cx.anc 10 rfl)) fun cx => run_fieldAddr' (k := 1) (n := 1) rfl (by kernel_rfl) (cx.out 3 rfl) rfl
        · exact s1 rfl (fun cx => (cx.anc 10 rfl)) fun cx => run_load1 rfl (by kernel_rfl) (cx.anc 11 rfl) ((cx.blk (cx.init 0 _ rfl) rfl).cell 1)
        · exact s1 rfl (fun cx => (cx.anc 10 rfl)) fun cx => run_bin rfl (cx.anc 12 rfl) (cx.sees.const _) rfl
        · exact s1 rfl (fun cx => (cx.anc 10 rfl)) fun cx => run_move' rfl (Eq.trans (cx.anc 13 rfl) (congrArg Value.bool hs11))
        · exact s2 rfl fun cx => (cx.anc 14 rfl)
        · exact s2 rfl fun cx => (cx.anc 14 rfl)
        · exact s2 rfl fun cx => (cx.anc 14 rfl)
        · exact s2 rfl fun cx => (cx.anc 14 rfl)
        · exact s2 rfl fun cx => (cx.anc 14 rfl)
        · exact s1 rfl (fun cx => (cx.anc 10 rfl)) fun cx => run_pick_t rfl (cx.anc 14 rfl) (cx.sees.const _)
        · exact s0 rfl fun cx => run_pick_t rfl (cx.anc 10 rfl) (cx.anc 20 rfl)
        · exact s0 rfl fun cx => run_assign' rfl (cx.anc 21 rfl)
      intro σ β X W12 hD hX hst12 fr hfr
      simp only [zM, exq 0 (hX 0 _ rfl)] at hst12
      simp only [zP, ed 7 (hD 0 lq), ed 8 (hD 1 lq), ed 9 (hD 2 lq), ed 10 (hD 3 lq), ed 11 (hD 4 lq), ed 12 (hD 5 lq), ed 13 (hD 6 lq), ed 14 (hD 7 lq), ed 15 (hD 8 lq), ed 16 (hD 9 lq), ed 17 (hD 10 lq), ed 18 (hD 11 lq), ed 19 (hD 12 lq), ed 20 (hD 13 lq), ed 21 (hD 14 lq), ed 22 (hD 15 lq), ed 23 (hD 16 lq), ed 24 (hD 17 lq), ed 25 (hD 18 lq), ed 26 (hD 19 lq), ed 27 (hD 20 lq), ed 28 (hD 21 lq), ed 6 (hD 22 lq)] at hfr
      clear hX hD; subst hfr; clear σ β X
      refine then_normal ?_
      refine wp_ret ?_
      refine bodyPost_ret (v := .bool true) (by simp [results, Tryd.results33, go_sem]) rfl ?_
      exact Ret.bool (by simp_all [allF]) hst12.ext
    have hs11p : b ≠ 0 := by simpa using hs11
    refine wp_region_X [0, 1, 3, 7, 15, 31, 15, 15, 255, 511, 1023, 2047, 4095, 8191, 16383, 32767, 32767, 98303, 262143, 524287, 1048575, 2097151, 4194303] [[], [0], [], [], [], [0], [], [], [], [], [], [], [0], [], [], [], [], [0]] [] [] (fun ix σ β X => match ix with | 0 => σ 7 = .pointer (some ⟨B3_1, 0, none⟩) | 1 => σ 8 = .int .i64 a | 2 => σ 9 = .bool (a == 2) | 3 => σ 10 = .bool false | 4 => σ 11 = .pointer (some ⟨B3_1, 0, none⟩) | 5 => σ 12 = .int .i64 a | 6 => σ 13 = .int .i64 hz | 7 => σ 14 = .iface tt (tv) | 8 => σ 15 = .bool (oldF g hz a) | 9 => σ 16 = .bool true | 10 => σ 17 = .bool true | 11 => σ 18 = .pointer (some ⟨B3_1, 1, none⟩) | 12 => σ 19 = .int .i64 b | 13 => σ 20 = .bool (b == 0) | 14 => σ 21 = .bool false | 15 => σ 22 = .iface tt (tv) | 16 => σ 23 = .pointer (some ⟨B3_1, 1, none⟩) | 17 => σ 24 = .int .i64 b | 18 => σ 25 = .int .i64 (g b) | 19 => σ 26 = .bool ((g b) == 3) | 20 => σ 27 = .bool ((g b) == 3) | 21 => σ 28 = .bool ((g b) == 3) | 22 => σ 6 = .bool ((g b) == 3) | _ => True) [0] [7, 8, 9, 10, 11, 12, 13, 14, 15, 16, 17, 18, 19, 20, 21, 22, 23, 24, 25, 26, 27, 28, 6] hst1 ?_ ?_ ?_
    · exact fun ix _ _ _ _ _ _ hs hb hx h => match ix, h with
      | 0, h | 1, h | 2, h | 3, h | 4, h | 5, h | 6, h | 7, h | 8, h | 9, h | 10, h | 11, h | 12, h | 13, h | 14, h | 15, h | 16, h | 17, h | 18, h | 19, h | 20, h | 21, h | 22, h => (hs _ rfl).symm.trans h
      | _ + 23, _ => trivial
    · refine ⟨⟨⟨⟨⟨⟨⟨⟨⟨⟨⟨⟨⟨⟨⟨⟨⟨⟨⟨⟨⟨⟨⟨trivial, ?_⟩, ?_⟩, ?_⟩, ?_⟩, ?_⟩, ?_⟩, ?_⟩, ?_⟩, ?_⟩, ?_⟩, ?_⟩, ?_⟩, ?_⟩, ?_⟩, ?_⟩, ?_⟩, ?_⟩, ?_⟩, ?_⟩, ?_⟩, ?_⟩, ?_⟩, ?_⟩
      · exact s0 rfl fun cx => run_fieldAddr' (k := 0) (n := 0) rfl (by kernel_rfl) (cx.out 3 rfl) rfl
      · exact s0 rfl fun cx => run_load1 rfl (by kernel_rfl) (cx.anc 0 rfl) ((cx.blk (cx.init 0 _ rfl) rfl).cell 0)
      · exact s0 rfl fun cx => run_bin rfl (cx.anc 1 rfl) (cx.sees.const _) rfl
      · exact s0 rfl fun cx => run_move' rfl (Eq.trans (cx.anc 2 rfl) (congrArg Value.bool hs3))
      · exact s1 rfl (fun cx => (cx.anc 3 rfl)) fun cx => run_fieldAddr' (k := 0) (n := 0) rfl (by kernel_rfl) (cx.out 3 rfl) rfl
      · exact s1 rfl (fun cx => (cx.anc 3 rfl)) fun cx => run_load1 rfl (by kernel_rfl) (cx.anc 4 rfl) ((cx.blk (cx.init 0 _ rfl) rfl).cell 0)
      · exact s1 rfl (fun cx => (cx.anc 3 rfl)) fun cx => run_move' rfl (cx.out 1 rfl)
      · exact s1 rfl (fun cx => (cx.anc 3 rfl)) fun cx => run_move' rfl (cx.out 2 rfl)
      · exact sv_call_on rfl rfl rfl rfl rfl rfl (fun _ _ _ h => h) (fun _ _ _ _ cx => (cx.anc 3 rfl)) fun ρ β W X cx => ⟨_, _, run_callF (args := #[.int .i64 a, .int .i64 hz, .iface tt (tv)]) rfl cx.sees rfl (by kernel_rfl) (map3 (cx.anc 5 rfl) (cx.anc 6 rfl) (cx.anc 7 rfl)), old_any hz a _ _ _ _ (hS.ext cx.upd.to_ext)⟩
      · exact s0 rfl fun cx => run_pick_f rfl (cx.anc 3 rfl) (Eq.trans (cx.anc 8 rfl) (congrArg Value.bool hs9))
      · exact s0 rfl fun cx => run_move' rfl (cx.anc 9 rfl)
      · exact s1 rfl (fun cx => (cx.anc 10 rfl)) fun cx => run_fieldAddr' (k := 1) (n := 1) rfl (by kernel_rfl) (cx.out 3 rfl) rfl
      · exact s1 rfl (fun cx => (cx.anc 10 rfl)) fun cx => run_load1 rfl (by kernel_rfl) (cx.anc 11 rfl) ((cx.blk (cx.init 0 _ rfl) rfl).cell 1)
      · exact s1 rfl (fun cx => (cx.anc 10 rfl)) fun cx => run_bin rfl (cx.anc 12 rfl) (cx.sees.const _) rfl
      · exact s1 rfl (fun cx => (cx.anc 10 rfl)) fun cx => run_move' rfl (Eq.trans (cx.anc 13 rfl) (congrArg Value.bool hs11))
      · exact s1 rfl (fun cx => (cx.anc 14 rfl)) fun cx => run_move' rfl (cx.out 2 rfl)
      · exact s1 rfl (fun cx => (cx.anc 14 rfl)) fun cx => run_fieldAddr' (k := 1) (n := 1) rfl (by kernel_rfl) (cx.out 3 rfl) rfl
      · exact s1 rfl (fun cx => (cx.anc 14 rfl)) fun cx => run_load1 rfl (by kernel_rfl) (cx.anc 16 rfl) ((cx.blk (cx.init 0 _ rfl) rfl).cell 1)
      · exact sv_call_on rfl rfl rfl rfl rfl rfl (fun _ _ _ h => h) (fun _ _ _ _ cx => (cx.anc 14 rfl)) fun ρ β W X cx => ⟨_, _, run_invoke (args := #[.int .i64 b]) (args' := #[rv, .int .i64 b]) rfl rfl (cx.anc 15 rfl) hM hC (map1 (cx.anc 17 rfl)) rfl, hG _ b cx.upd.to_ext⟩
      · exact s1 rfl (fun cx => (cx.anc 14 rfl)) fun cx => run_bin rfl (cx.anc 18 rfl) (cx.sees.const _) rfl
      · exact s1 rfl (fun cx => (cx.anc 10 rfl)) fun cx => run_pick_f rfl (cx.anc 14 rfl) (cx.anc 19 rfl)
      · exact s0 rfl fun cx => run_pick_t rfl (cx.anc 10 rfl) (cx.anc 20 rfl)
      · exact s0 rfl fun cx => run_assign' rfl (cx.anc 21 rfl)
    intro σ β X W13 hD hX hst13 fr hfr
    simp only [zM, exq 0 (hX 0 _ rfl)] at hst13
    simp only [zP, ed 7 (hD 0 lq), ed 8 (hD 1 lq), ed 9 (hD 2 lq), ed 10 (hD 3 lq), ed 11 (hD 4 lq), ed 12 (hD 5 lq), ed 13 (hD 6 lq), ed 14 (hD 7 lq), ed 15 (hD 8 lq), ed 16 (hD 9 lq), ed 17 (hD 10 lq), ed 18 (hD 11 lq), ed 19 (hD 12 lq), ed 20 (hD 13 lq), ed 21 (hD 14 lq), ed 22 (hD 15 lq), ed 23 (hD 16 lq), ed 24 (hD 17 lq), ed 25 (hD 18 lq), ed 26 (hD 19 lq), ed 27 (hD 20 lq), ed 28 (hD 21 lq), ed 6 (hD 22 lq)] at hfr
    clear hX hD; subst hfr; clear σ β X
    refine then_normal ?_
    refine wp_ret ?_
    refine bodyPost_ret (v := .bool ((g b) == 3)) (by simp [results, Tryd.results33, go_sem]) rfl ?_
    exact Ret.bool (by simp_all [allF]) hst13.ext
  refine wp_region_X [0, 1, 3, 7, 15, 31, 15, 15, 255, 511, 1023, 2047, 4095, 8191, 16383, 32767, 32767, 98303, 262143, 524287, 1048575, 2097151, 4194303] [[], [0], [], [], [], [0]] [] [] (fun ix σ β X => match ix with | 0 => σ 7 = .pointer (some ⟨B3_1, 0, none⟩) | 1 => σ 8 = .int .i64 a | 2 => σ 9 = .bool (a == 2) | 3 => σ 10 = .bool false | 4 => σ 11 = .pointer (some ⟨B3_1, 0, none⟩) | 5 => σ 12 = .int .i64 a | 6 => σ 13 = .int .i64 hz | 7 => σ 14 = .iface tt (tv) | 8 => σ 15 = .bool (oldF g hz a) | 9 => σ 16 = .bool false | 10 => σ 17 = .bool false | 11 => σ 18 = undef | 12 => σ 19 = undef | 13 => σ 20 = undef | 14 => σ 21 = undef | 15 => σ 22 = undef | 16 => σ 23 = undef | 17 => σ 24 = undef | 18 => σ 25 = undef | 19 => σ 26 = undef | 20 => σ 27 = undef | 21 => σ 28 = .bool false | 22 => σ 6 = .bool false | _ => True) [0] [7, 8, 9, 10, 11, 12, 13, 14, 15, 16, 17, 18, 19, 20, 21, 22, 23, 24, 25, 26, 27, 28, 6] hst1 ?_ ?_ ?_
  · exact fun ix _ _ _ _ _ _ hs hb hx h => match ix, h with
    | 0, h | 1, h | 2, h | 3, h | 4, h | 5, h | 6, h | 7, h | 8, h | 9, h | 10, h | 11, h | 12, h | 13, h | 14, h | 15, h | 16, h | 17, h | 18, h | 19, h | 20, h | 21, h | 22, h => (hs _ rfl).symm.trans h
    | _ + 23, _ => trivial
  · refine ⟨⟨⟨⟨⟨⟨⟨⟨⟨⟨⟨⟨⟨⟨⟨⟨⟨⟨⟨⟨⟨⟨⟨trivial, ?_⟩, ?_⟩, ?_⟩, ?_⟩, ?_⟩, ?_⟩, ?_⟩, ?_⟩, ?_⟩, ?_⟩, ?_⟩, ?_⟩, ?_⟩, ?_⟩, ?_⟩, ?_⟩, ?_⟩, ?_⟩, ?_⟩, ?_⟩, ?_⟩, ?_⟩, ?_⟩
    · exact s0 rfl fun cx => run_fieldAddr' (k := 0) (n := 0) rfl (by kernel_rfl) (cx.out 3 rfl) rfl
    · exact s0 rfl fun cx => run_load1 rfl (by kernel_rfl) (cx.anc 0 rfl) ((cx.blk (cx.init 0 _ rfl) rfl).cell 0)
    · exact s0 rfl fun cx => run_bin rfl (cx.anc 1 rfl) (cx.sees.const _) rfl
    · exact s0 rfl fun cx => run_move' rfl (Eq.trans (cx.anc 2 rfl) (congrArg Value.bool hs3))
    · exact s1 rfl (fun cx => (cx.anc 3 rfl)) fun cx => run_fieldAddr' (k := 0) (n := 0) rfl (by kernel_rfl) (cx.out 3 rfl) rfl
    · exact s1 rfl (fun cx => (cx.anc 3 rfl)) fun cx => run_load1 rfl (by kernel_rfl) (cx.anc 4 rfl) ((cx.blk (cx.init 0 _ rfl) rfl).cell 0)
    · exact s1 rfl (fun cx => (cx.anc 3 rfl)) fun cx => run_move' rfl (cx.out 1 rfl)
    · exact s1 rfl (fun cx => (cx.anc 3 rfl)) fun cx => run_move' rfl (cx.out 2 rfl)
    · exact sv_call_on rfl rfl rfl rfl rfl rfl (fun _ _ _ h => h) (fun _ _ _ _ cx => (cx.anc 3 rfl)) fun ρ β W X cx => ⟨_, _, run_callF (args := #[.int .i64 a, .int .i64 hz, .iface tt (tv)]) rfl cx.sees rfl (by kernel_rfl) (map3 (cx.anc 5 rfl) (cx.anc 6 rfl) (cx.anc 7 rfl)), old_any hz a _ _ _ _ (hS.ext cx.upd.to_ext)⟩
    · exact s0 rfl fun cx => run_pick_f rfl (cx.anc 3 rfl) (Eq.trans (cx.anc 8 rfl) (congrArg Value.bool hs9))
    · exact s0 rfl fun cx => run_move' rfl (cx.anc 9 rfl)
    · exact s2 rfl fun cx => (cx.anc 10 rfl)
    · exact s2 rfl fun cx => (cx.anc 10 rfl)
    · exact s2 rfl fun cx => (cx.anc 10 rfl)
    · exact s2 rfl fun cx => (cx.anc 10 rfl)
    · exact s3 rfl fun cx => cx.anc 14 rfl
    · exact s3 rfl fun cx => cx.anc 14 rfl
    · exact s3 rfl fun cx => cx.anc 14 rfl
    · exact s3 rfl fun cx => cx.anc 14 rfl
    · exact s3 rfl fun cx => cx.anc 14 rfl
    · exact s2 rfl fun cx => (cx.anc 10 rfl)
    · exact s0 rfl fun cx => run_pick_f rfl (cx.anc 10 rfl) (cx.sees.const _)
    · exact s0 rfl fun cx => run_assign' rfl (cx.anc 21 rfl)
  intro σ β X W14 hD hX hst14 fr hfr
  simp only [zM, exq 0 (hX 0 _ rfl)] at hst14
  simp only [zP, ed 7 (hD 0 lq), ed 8 (hD 1 lq), ed 9 (hD 2 lq), ed 10 (hD 3 lq), ed 11 (hD 4 lq), ed 12 (hD 5 lq), ed 13 (hD 6 lq), ed 14 (hD 7 lq), ed 15 (hD 8 lq), ed 16 (hD 9 lq), ed 17 (hD 10 lq), ed 18 (hD 11 lq), ed 19 (hD 12 lq), ed 20 (hD 13 lq), ed 21 (hD 14 lq), ed 22 (hD 15 lq), ed 23 (hD 16 lq), ed 24 (hD 17 lq), ed 25 (hD 18 lq), ed 26 (hD 19 lq), ed 27 (hD 20 lq), ed 28 (hD 21 lq), ed 6 (hD 22 lq)] at hfr
  clear hX hD; subst hfr; clear σ β X
  refine then_normal ?_
  refine wp_ret ?_
  refine bodyPost_ret (v := .bool false) (by simp [results, Tryd.results33, go_sem]) rfl ?_
  exact Ret.bool (by simp_all [allF]) hst14.ext

end Go.Proofs.YtfjpglohcppjeaaDoor

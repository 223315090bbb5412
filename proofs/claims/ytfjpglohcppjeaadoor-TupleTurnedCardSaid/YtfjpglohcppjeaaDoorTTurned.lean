/- the walk of TupleTurned. -/
import Derived.Test.YtfjpglohcppjeaaDoorTTurnP
namespace Go.Proofs.YtfjpglohcppjeaaDoor
open Go.RowKit
set_option linter.unusedVariables false
set_option linter.unusedSimpArgs false

abbrev trn (k : Nat) (l : List Int) : List Int := l.map fun y => turnF y (k : Int)
theorem trn_len (k : Nat) (l : List Int) : (trn k l).length = l.length := by simp [trn]
theorem trn_0 (k : Nat) (l : List Int) : trn k (l.take 0) = [] := rfl
theorem trn_cat {k i : Nat} {l : List Int} (h : i < l.length) : (trn k (l.take i)).map (Value.int .i64) ++ [.int .i64 (turnF (l.getD i 0) (k : Int))] = (trn k (l.take (i + 1))).map (Value.int .i64) := by
  rw [List.take_add_one, List.getElem?_eq_getElem h, trn, trn, List.map_append, List.map_append, List.getD_eq_getElem?_getD, List.getElem?_eq_getElem h]
  rfl
theorem trn_succ {k i : Nat} {l : List Int} (h : i < l.length) : (trn k (l.take i)).length + 1 = (trn k (l.take (i + 1))).length := by
  rw [trn_len, trn_len, List.length_take, List.length_take]; omega
set_option maxRecDepth 100000 in
set_option maxHeartbeats 16000000 in
theorem tupleturned_any (LA0 : Option Addr) (c0 : Nat) (l : List Int) (hi hz : Int) (LA : Option Addr) (lc : Nat) (ls : List Int) (OA : Option Addr) (oc : Nat) (own : List Int) (SA : Option Addr) (sc : Nat) (bs : List Int) (xa : Int) (w : World) (hA0 : At w LA0 (l.map (Value.int .i64))) (hl0 : l.length ≤ 9223372036854775807) (hL : At w LA (ls.map (Value.int .i64))) (hO : At w OA (own.map (Value.int .i64))) (hlc : ls.length ≤ lc) (hoc : own.length ≤ oc) (hSA : At w SA (bs.map (Value.int .u8))) (hbs : ∀ b ∈ bs, 0 ≤ b ∧ b ≤ 255) (hN : NoneAt w) :
    Calls Tryd.prog 8 #[.slice LA0 l.length c0, .agg #[.int .i64 hi, .slice LA ls.length lc, .slice OA own.length oc, .int .i64 hz, .slice SA bs.length sc], .int .i64 xa] w (Ret (.bool true) w) := by
  have hvr : (vrowF l).length ≤ 3 := by rw [vrowF, madeR_len]; omega
  have hl1 : (ls.take 60).length ≤ 60 := by rw [List.length_take]; omega
  have hl2 : (own.take 20).length ≤ 20 := by rw [List.length_take]; omega
  go_enter Tryd.func8, Tryd.ntmps8
  have hst0 := St.start w
  refine wp_seq ?_
  refine wp_region_T [0, 0] [] [[0]] [] [.a 4, .k 6 (.bool false)] (fun ix σ β X => match ix with | 0 => σ 4 = .pointer (some ⟨(pb (β 4)), 0, none⟩) ∧ X 0 = eB (pb (β 4)) 45 #[.int .i64 hi, .slice LA ls.length lc, .slice OA own.length oc, .int .i64 hz, .slice SA bs.length sc] | _ => True) [0] [0] [(4, 0, 1, 5), (1, 1, 1, 2)] hst0 ?_ ?_ ?_
  · exact fun ix _ _ _ _ _ _ hs hb hx h => match ix, h with
    | 0, h => by dsimp only at h ⊢; rw [← hs 4 rfl, ← hb 4 rfl, ← hx 0 rfl]; exact h
    | _ + 1, _ => trivial
  · refine ⟨?_, trivial⟩
    · refine sv_any rfl rfl fun ρ β W X cx => ?_
      exact dv_box (cs := #[.int .i64 hi, .slice LA ls.length lc, .slice OA own.length oc, .int .i64 hz, .slice SA bs.length sc]) rfl (cx.out 1 rfl) rfl rfl rfl (fun σ β' X' hs hb hv hx => ⟨hv, hx⟩)
  intro σ β X W1 hD hX hst1 fr hfr
  obtain ⟨B4_1, hu_B4_1⟩ : ∃ z, pb (β 4) = z := ⟨_, rfl⟩
  simp only [zM, exq 0 ((dTn (hD 0 lq)).2), hu_B4_1] at hst1
  dsimp only [mgT, vals, List.take, List.drop, List.cons_append, List.nil_append] at hfr
  simp only [ed 4 ((dTn (hD 0 lq)).1), hu_B4_1] at hfr
  clear hX hD hu_B4_1; subst hfr; clear σ β X
  refine then_normal ?_
  refine wp_seq ?_
  refine wp_region_T [0, 1] [] [] [] [.c 23 (.bool true), .k 7 (.bool true)] (fun _ _ _ _ => True) [0] [0] [(7, 1, 1, 8), (15, 0, 1, 16)] hst1 ?_ ?_ ?_
  · exact fun _ _ _ _ _ _ _ _ _ _ h => h
  · refine ⟨?_, trivial⟩
    · exact sv_call rfl rfl rfl rfl rfl (fun _ _ _ h => h) fun ρ β W X cx => ⟨_, _, run_callF (args := #[]) rfl cx.sees rfl (by kernel_rfl) map0, sanity_any _ (hN.ext cx.upd.to_ext)⟩
  intro σ β X W2 hD hX hst2 fr hfr
  simp only [zM, exq 0 (hX 0 _ rfl)] at hst2
  dsimp only [mgT, vals, List.take, List.drop, List.cons_append, List.nil_append] at hfr
  clear hX hD; subst hfr; clear σ β X
  refine then_normal ?_
  refine wp_seq ?_
  refine wp_region_T [0, 1, 3] [[0], [], [0]] [[], [1, 2], [3]] [[], [], [0]] [.c 24 (.agg #[.int .i64 hi, .slice LA ls.length lc, .slice OA own.length oc, .int .i64 hz, .slice SA bs.length sc]), .a 25, .n] (fun ix σ β X => match ix with | 0 => True | 1 => σ 25 = .agg #[.int .i64 hi, .slice (sA (tg (β 25) 1)) ((ls.take 60).length) (sC (tg (β 25) 1)), .slice (sA (tg (β 25) 2)) ((own.take 20).length) (sC (tg (β 25) 2)), .int .i64 hz, .slice SA bs.length sc] ∧ X 1 = eO 3 1 (.slice (sA (tg (β 25) 1)) ((ls.take 60).length) (sC (tg (β 25) 1))) ((ls.take 60).length) ((ls.take 60).map (Value.int .i64)) ∧ X 2 = eO 3 1 (.slice (sA (tg (β 25) 2)) ((own.take 20).length) (sC (tg (β 25) 2))) ((own.take 20).length) ((own.take 20).map (Value.int .i64)) | 2 => X 3 = eB B4_1 45 #[.int .i64 hi, .slice (sA (tg (β 25) 1)) ((ls.take 60).length) (sC (tg (β 25) 1)), .slice (sA (tg (β 25) 2)) ((own.take 20).length) (sC (tg (β 25) 2)), .int .i64 hz, .slice SA bs.length sc] | _ => True) [1, 2, 3] [0, 1, 2] [(24, 0, 2, 26)] hst2 ?_ ?_ ?_
  · exact fun ix _ _ _ _ _ _ hs hb hx h => match ix, h with
    | 1, h => by dsimp only at h ⊢; rw [← hs 25 rfl, ← hb 25 rfl, ← hx 1 rfl, ← hx 2 rfl]; exact h
    | 2, h => by dsimp only at h ⊢; rw [← hb 25 rfl, ← hx 3 rfl]; exact h
    | 0, _ | _ + 3, _ => trivial
  · refine ⟨?_, ?_, ?_, trivial⟩
    · exact s4 rfl (fun _ _ _ h => h) fun cx => run_loadB (n := 5) rfl (by kernel_rfl) (by kernel_rfl) (cx.out 4 rfl) (cx.blk (cx.init 0 _ rfl) rfl) (Nat.le_of_ble_eq_true rfl) rfl
    · refine sv_any rfl rfl fun ρ β W X cx => ?_
      refine DoesU.call (run_callF (args := #[.agg #[.int .i64 hi, .slice LA ls.length lc, .slice OA own.length oc, .int .i64 hz, .slice SA bs.length sc]]) rfl cx.sees rfl (by kernel_rfl) (map1 (cx.anc 0 rfl))) ?_
      refine (cut_any hi hz _ _ ls _ _ own _ _ _ _ (hL.ext cx.upd.to_ext) (hO.ext cx.upd.to_ext) hlc hoc).mono ?_
      rintro e W1 ⟨A4, c4, B4, d4, rfl, hc⟩
      refine ⟨_, rfl, post_st [eO 3 1 (.slice A4 (ls.take 60).length c4) (ls.take 60).length ((ls.take 60).map (Value.int .i64)), eO 3 1 (.slice B4 (own.take 20).length d4) (own.take 20).length ((own.take 20).map (Value.int .i64))] rfl rfl hc (fun σ β' X' hs hb hv hN => ?_)⟩
      have hv1 := (hv 25 rfl).1; have hv2 := (hv 25 rfl).2
      exact ⟨hv1.trans (by rw [hv2]; rfl), (by rw [hv2]; exact (List.cons.inj hN).1), (by rw [hv2]; exact (List.cons.inj (List.cons.inj hN).2).1)⟩
    · refine sv_any rfl rfl fun ρ β W X cx => ?_
      exact dv_store (n := 5) rfl (cx.out 4 rfl) (dTn (cx.anc 1 rfl)).1 (by kernel_rfl) rfl rfl cx (cx.init 0 _ rfl) rfl (Nat.le_of_ble_eq_true rfl) rfl rfl rfl rfl (fun σ β' X' hs hb hx => by rw [hb 25]; exact hx)
  intro σ β X W3 hD hX hst3 fr hfr
  obtain ⟨A25_3, hu_A25_3⟩ : ∃ z, sA (tg (β 25) 1) = z := ⟨_, rfl⟩
  obtain ⟨c25_3, hu_c25_3⟩ : ∃ z, sC (tg (β 25) 1) = z := ⟨_, rfl⟩
  obtain ⟨A25q_3, hu_A25q_3⟩ : ∃ z, sA (tg (β 25) 2) = z := ⟨_, rfl⟩
  obtain ⟨c25q_3, hu_c25q_3⟩ : ∃ z, sC (tg (β 25) 2) = z := ⟨_, rfl⟩
  simp only [zM, exq 1 ((dTn (hD 1 lq)).2.1), exq 2 ((dTn (hD 1 lq)).2.2), exq 3 ((dTn (hD 2 lq))), hu_A25_3, hu_c25_3, hu_A25q_3, hu_c25q_3] at hst3
  dsimp only [mgT, vals, List.take, List.drop, List.cons_append, List.nil_append] at hfr
  simp only [ed 25 ((dTn (hD 1 lq)).1), hu_A25_3, hu_c25_3, hu_A25q_3, hu_c25q_3] at hfr
  clear hX hD hu_A25_3 hu_c25_3 hu_A25q_3 hu_c25q_3; subst hfr; clear σ β X
  refine then_normal ?_
  refine wp_seq ?_
  obtain ⟨kk, hkk, hk125⟩ : ∃ z : Nat, xa % 65536 % 125 = (z : Int) ∧ z < 125 := ⟨(xa % 65536 % 125).toNat, by omega, by omega⟩
  have hk0 : (0 : Int) ≤ (kk : Int) := by omega
  refine wp_region_P [0, 1, 3, 7] [.k 26 (.int .i64 xa), tAn 27 .i64 xa 65535 (xa % 65536) (bits_mask xa 16 (by decide)), tRe 28 .i64 (xa % 65536) 125 (kk : Int) ((Int.tmod_eq_emod_of_nonneg (by omega)).trans hkk), .k 2 (.int .i64 ((kk : Int)))] [(2, 3, 1, 3), (23, 0, 3, 26)] hst3 fun W4 hst4 => ?_
  refine then_normal ?_
  refine wp_seq ?_
  refine wp_region_T [0, 1, 0, 7] [[], [], [], [4]] [[], [3], [4], [5]] [[], [], [], [4]] [.k 29 (.slice LA0 l.length c0), .a 30, .a 8, .n] (fun ix σ β X => match ix with | 0 => True | 1 => σ 30 = .agg #[.int .i64 (vminF l), .int .i64 (vmaxF l), .int .i64 (vpgF l), .int .i64 (vslF l), .bool (vhotF l), .slice (sA (tg (β 30) 5)) ((vrowF l).length) (sC (tg (β 30) 5))] ∧ X 3 = eO 103 3 (.slice (sA (tg (β 30) 5)) ((vrowF l).length) (sC (tg (β 30) 5))) ((vrowF l).length) (flatR (vrowF l)) | 2 => σ 8 = .pointer (some ⟨(pb (β 8)), 0, none⟩) ∧ X 4 = eB (pb (β 8)) 27 #[.int .i64 0, .int .i64 0, .int .i64 0, .int .i64 0, .bool false, .slice none 0 0] | 3 => X 5 = eB (pb (β 8)) 27 #[.int .i64 (vminF l), .int .i64 (vmaxF l), .int .i64 (vpgF l), .int .i64 (vslF l), .bool (vhotF l), .slice (sA (tg (β 30) 5)) ((vrowF l).length) (sC (tg (β 30) 5))] | _ => True) [0, 1, 2, 3, 5] [1, 2, 3] [(8, 2, 1, 9), (20, 0, 2, 22)] hst4 ?_ ?_ ?_
  · exact fun ix _ _ _ _ _ _ hs hb hx h => match ix, h with
    | 1, h => by dsimp only at h ⊢; rw [← hs 30 rfl, ← hb 30 rfl, ← hx 3 rfl]; exact h
    | 2, h => by dsimp only at h ⊢; rw [← hs 8 rfl, ← hb 8 rfl, ← hx 4 rfl]; exact h
    | 3, h => by dsimp only at h ⊢; rw [← hb 8 rfl, ← hb 30 rfl, ← hx 5 rfl]; exact h
    | 0, _ | _ + 4, _ => trivial
  · refine ⟨?_, ?_, ?_, trivial⟩
    · refine sv_any rfl rfl fun ρ β W X cx => ?_
      refine DoesU.call (run_callF (args := #[.slice LA0 l.length c0]) rfl cx.sees rfl (by kernel_rfl) (map1 (cx.anc 0 rfl))) ?_
      refine (made08_any _ _ l _ (hA0.ext cx.upd.to_ext) (by omega)).mono ?_
      rintro e W1 ⟨A4, c4, rfl, ho, hx⟩
      refine ⟨_, rfl, post_call [eO 103 3 (.slice A4 ((vrowF l).length) c4) ((vrowF l).length) (flatR (vrowF l))] rfl rfl hx (one_new (eO_new ho)) (List.pairwise_singleton _ _) (fun σ β' X' hs hb hv hN => ?_)⟩
      have hv1 := (hv 30 rfl).1; have hv2 := (hv 30 rfl).2
      exact ⟨hv1.trans (by rw [hv2]; rfl), (by rw [hv2]; exact (List.cons.inj hN).1)⟩
    · refine sv_any rfl rfl fun ρ β W X cx => ?_
      exact dv_alloc (cs := #[.int .i64 0, .int .i64 0, .int .i64 0, .int .i64 0, .bool false, .slice none 0 0]) rfl (by kernel_rfl) rfl rfl (fun σ β' X' hs hb hv hx => ⟨hv, hx⟩)
    · refine sv_any rfl rfl fun ρ β W X cx => ?_
      exact dv_store (n := 6) rfl (dTn (cx.anc 2 rfl)).1 (dTn (cx.anc 1 rfl)).1 (by kernel_rfl) rfl rfl cx (dTn (cx.anc 2 rfl)).2 rfl (Nat.le_of_ble_eq_true rfl) rfl rfl rfl rfl (fun σ β' X' hs hb hx => by rw [hb 8, hb 30]; exact hx)
  intro σ β X W5 hD hX hst5 fr hfr
  obtain ⟨A30_5, hu_A30_5⟩ : ∃ z, sA (tg (β 30) 5) = z := ⟨_, rfl⟩
  obtain ⟨c30_5, hu_c30_5⟩ : ∃ z, sC (tg (β 30) 5) = z := ⟨_, rfl⟩
  obtain ⟨B8_5, hu_B8_5⟩ : ∃ z, pb (β 8) = z := ⟨_, rfl⟩
  simp only [zM, exq 0 (hX 0 _ rfl), exq 1 (hX 1 _ rfl), exq 2 (hX 2 _ rfl), exq 3 ((dTn (hD 1 lq)).2), exq 5 ((dTn (hD 3 lq))), hu_A30_5, hu_c30_5, hu_B8_5] at hst5
  dsimp only [mgT, vals, List.take, List.drop, List.cons_append, List.nil_append] at hfr
  simp only [ed 30 ((dTn (hD 1 lq)).1), ed 8 ((dTn (hD 2 lq)).1), hu_A30_5, hu_c30_5, hu_B8_5] at hfr
  clear hX hD hu_A30_5 hu_c30_5 hu_B8_5; subst hfr; clear σ β X
  refine then_normal ?_
  refine wp_seq ?_
  refine wp_region_T [0, 0, 3] [[4], [], [5]] [[], [5], [6]] [[], [], [5]] [.c 31 (.agg #[.int .i64 (vminF l), .int .i64 (vmaxF l), .int .i64 (vpgF l), .int .i64 (vslF l), .bool (vhotF l), .slice A30_5 ((vrowF l).length) c30_5]), .a 9, .n] (fun ix σ β X => match ix with | 0 => True | 1 => σ 9 = .pointer (some ⟨(pb (β 9)), 0, none⟩) ∧ X 5 = eB (pb (β 9)) 27 #[.int .i64 0, .int .i64 0, .int .i64 0, .int .i64 0, .bool false, .slice none 0 0] | 2 => X 6 = eB (pb (β 9)) 27 #[.int .i64 (vminF l), .int .i64 (vmaxF l), .int .i64 (vpgF l), .int .i64 (vslF l), .bool (vhotF l), .slice A30_5 ((vrowF l).length) c30_5] | _ => True) [0, 1, 2, 3, 4, 6] [0, 1, 2] [(9, 1, 1, 10), (21, 0, 1, 22)] hst5 ?_ ?_ ?_
  · exact fun ix _ _ _ _ _ _ hs hb hx h => match ix, h with
    | 1, h => by dsimp only at h ⊢; rw [← hs 9 rfl, ← hb 9 rfl, ← hx 5 rfl]; exact h
    | 2, h => by dsimp only at h ⊢; rw [← hb 9 rfl, ← hx 6 rfl]; exact h
    | 0, _ | _ + 3, _ => trivial
  · refine ⟨?_, ?_, ?_, trivial⟩
    · exact s4 rfl (fun _ _ _ h => h) fun cx => run_loadB (n := 6) rfl (by kernel_rfl) (by kernel_rfl) (cx.out 8 rfl) (cx.blk (cx.init 4 _ rfl) rfl) (Nat.le_of_ble_eq_true rfl) rfl
    · refine sv_any rfl rfl fun ρ β W X cx => ?_
      exact dv_alloc (cs := #[.int .i64 0, .int .i64 0, .int .i64 0, .int .i64 0, .bool false, .slice none 0 0]) rfl (by kernel_rfl) rfl rfl (fun σ β' X' hs hb hv hx => ⟨hv, hx⟩)
    · refine sv_any rfl rfl fun ρ β W X cx => ?_
      exact dv_store (n := 6) rfl (dTn (cx.anc 1 rfl)).1 (cx.anc 0 rfl) (by kernel_rfl) rfl rfl cx (dTn (cx.anc 1 rfl)).2 rfl (Nat.le_of_ble_eq_true rfl) rfl rfl rfl rfl (fun σ β' X' hs hb hx => by rw [hb 9]; exact hx)
  intro σ β X W6 hD hX hst6 fr hfr
  obtain ⟨B9_6, hu_B9_6⟩ : ∃ z, pb (β 9) = z := ⟨_, rfl⟩
  simp only [zM, exq 0 (hX 0 _ rfl), exq 1 (hX 1 _ rfl), exq 2 (hX 2 _ rfl), exq 3 (hX 3 _ rfl), exq 4 (hX 4 _ rfl), exq 6 ((dTn (hD 2 lq))), hu_B9_6] at hst6
  dsimp only [mgT, vals, List.take, List.drop, List.cons_append, List.nil_append] at hfr
  simp only [ed 9 ((dTn (hD 1 lq)).1), hu_B9_6] at hfr
  clear hX hD hu_B9_6; subst hfr; clear σ β X
  refine then_normal ?_
  refine wp_seq ?_
  refine wp_region_T [0, 1, 0, 7, 15, 31] [[], [4], [], [], [], [5]] [[], [], [], [], [], [6]] [[], [], [], [], [], [5]] [.k 32 (.pointer (some ⟨B8_5, 0, none⟩)), .c 33 (.int .i64 (vminF l)), .k 34 (.int .i64 ((kk : Int))), .c 35 (.int .i64 (turnF (vminF l) (kk : Int))), .k 36 (.pointer (some ⟨B9_6, 0, none⟩)), .n] (fun ix σ β X => match ix with | 0 => True | 1 => True | 2 => True | 3 => True | 4 => True | 5 => X 6 = eB B9_6 27 #[.int .i64 (turnF (vminF l) (kk : Int)), .int .i64 (vmaxF l), .int .i64 (vpgF l), .int .i64 (vslF l), .bool (vhotF l), .slice A30_5 ((vrowF l).length) c30_5] | _ => True) [0, 1, 2, 3, 4, 6] [1, 3, 5] [(32, 0, 5, 37)] hst6 ?_ ?_ ?_
  · exact fun ix _ _ _ _ _ _ hs hb hx h => match ix, h with
    | 5, h => by dsimp only at h ⊢; rw [← hx 6 rfl]; exact h
    | 0, _ | 1, _ | 2, _ | 3, _ | 4, _ | _ + 6, _ => trivial
  · refine ⟨?_, ?_, ?_, trivial⟩
    · exact s4 rfl (fun _ _ _ h => h) fun cx => run_load1 rfl (by kernel_rfl) (cx.anc 0 rfl) ((cx.blk (cx.init 4 _ rfl) rfl).cell 0)
    · exact sv_call rfl rfl rfl rfl rfl (fun _ _ _ h => h) fun ρ β W X cx => ⟨_, _, run_callF (args := #[.int .i64 (vminF l), .int .i64 ((kk : Int))]) rfl cx.sees rfl (by kernel_rfl) (map2 (cx.anc 1 rfl) (cx.anc 2 rfl)), turn_any (vminF l) (kk : Int) _ ⟨by omega, by omega⟩⟩
    · refine sv_any rfl rfl fun ρ β W X cx => ?_
      exact dv_store (n := 1) rfl (cx.anc 4 rfl) (cx.anc 3 rfl) (by kernel_rfl) rfl rfl cx (cx.init 5 _ rfl) rfl (Nat.le_of_ble_eq_true rfl) rfl rfl rfl rfl (fun σ β' X' hs hb hx => hx)
  intro σ β X W7 hD hX hst7 fr hfr
  simp only [zM, exq 0 (hX 0 _ rfl), exq 1 (hX 1 _ rfl), exq 2 (hX 2 _ rfl), exq 3 (hX 3 _ rfl), exq 4 (hX 4 _ rfl), exq 6 ((dTn (hD 5 lq)))] at hst7
  dsimp only [mgT, vals, List.take, List.drop, List.cons_append, List.nil_append] at hfr
  clear hX hD; subst hfr; clear σ β X
  refine then_normal ?_
  refine wp_seq ?_
  refine wp_region_T [0, 1, 0, 7, 15, 31] [[], [4], [], [], [], [5]] [[], [], [], [], [], [6]] [[], [], [], [], [], [5]] [.k 37 (.pointer (some ⟨B8_5, 1, none⟩)), .c 38 (.int .i64 (vmaxF l)), .k 39 (.int .i64 ((kk : Int))), .c 40 (.int .i64 (turnF (vmaxF l) (kk : Int))), .k 41 (.pointer (some ⟨B9_6, 1, none⟩)), .n] (fun ix σ β X => match ix with | 0 => True | 1 => True | 2 => True | 3 => True | 4 => True | 5 => X 6 = eB B9_6 27 #[.int .i64 (turnF (vminF l) (kk : Int)), .int .i64 (turnF (vmaxF l) (kk : Int)), .int .i64 (vpgF l), .int .i64 (vslF l), .bool (vhotF l), .slice A30_5 ((vrowF l).length) c30_5] | _ => True) [0, 1, 2, 3, 4, 6] [1, 3, 5] [(37, 0, 5, 42)] hst7 ?_ ?_ ?_
  · exact fun ix _ _ _ _ _ _ hs hb hx h => match ix, h with
    | 5, h => by dsimp only at h ⊢; rw [← hx 6 rfl]; exact h
    | 0, _ | 1, _ | 2, _ | 3, _ | 4, _ | _ + 6, _ => trivial
  · refine ⟨?_, ?_, ?_, trivial⟩
    · exact s4 rfl (fun _ _ _ h => h) fun cx => run_load1 rfl (by kernel_rfl) (cx.anc 0 rfl) ((cx.blk (cx.init 4 _ rfl) rfl).cell 1)
    · exact sv_call rfl rfl rfl rfl rfl (fun _ _ _ h => h) fun ρ β W X cx => ⟨_, _, run_callF (args := #[.int .i64 (vmaxF l), .int .i64 ((kk : Int))]) rfl cx.sees rfl (by kernel_rfl) (map2 (cx.anc 1 rfl) (cx.anc 2 rfl)), turn_any (vmaxF l) (kk : Int) _ ⟨by omega, by omega⟩⟩
    · refine sv_any rfl rfl fun ρ β W X cx => ?_
      exact dv_store (n := 1) rfl (cx.anc 4 rfl) (cx.anc 3 rfl) (by kernel_rfl) rfl rfl cx (cx.init 5 _ rfl) rfl (Nat.le_of_ble_eq_true rfl) rfl rfl rfl rfl (fun σ β' X' hs hb hx => hx)
  intro σ β X W8 hD hX hst8 fr hfr
  simp only [zM, exq 0 (hX 0 _ rfl), exq 1 (hX 1 _ rfl), exq 2 (hX 2 _ rfl), exq 3 (hX 3 _ rfl), exq 4 (hX 4 _ rfl), exq 6 ((dTn (hD 5 lq)))] at hst8
  dsimp only [mgT, vals, List.take, List.drop, List.cons_append, List.nil_append] at hfr
  clear hX hD; subst hfr; clear σ β X
  refine then_normal ?_
  refine wp_seq ?_
  refine wp_region_T [0, 1, 3, 0, 15, 31, 0, 64, 0, 479, 1023, 0, 4095] [[], [], [2], [], [], [], [], [2], [], [], [], [], [6]] [[], [], [], [], [], [], [], [], [], [], [], [6], [7]] [[], [], [], [], [], [], [], [], [], [], [], [], [6]] [.k 42 (.pointer (some ⟨B4_1, 0, none⟩)), .k 43 (.pointer (some ⟨B4_1, 0, none⟩)), .c 44 (.int .i64 hi), .k 45 (.int .i64 ((kk : Int))), .c 46 (.int .i64 (turnF hi (kk : Int))), .c 47 (.agg #[.int .i64 (turnF hi (kk : Int)), .slice none 0 0]), .k 48 (.pointer (some ⟨B4_1, 3, none⟩)), .c 49 (.int .i64 hz), .k 50 (.int .i64 ((kk : Int))), .c 51 (.int .i64 (turnF hz (kk : Int))), .c 52 (.agg #[.int .i64 (turnF hi (kk : Int)), .slice none 0 0, .slice none 0 0, .int .i64 (turnF hz (kk : Int)), .slice none 0 0]), .a 10, .n] (fun ix σ β X => match ix with | 0 => True | 1 => True | 2 => True | 3 => True | 4 => True | 5 => True | 6 => True | 7 => True | 8 => True | 9 => True | 10 => True | 11 => σ 10 = .pointer (some ⟨(pb (β 10)), 0, none⟩) ∧ X 6 = eB (pb (β 10)) 45 #[.int .i64 0, .slice none 0 0, .slice none 0 0, .int .i64 0, .slice none 0 0] | 12 => X 7 = eB (pb (β 10)) 45 #[.int .i64 (turnF hi (kk : Int)), .slice none 0 0, .slice none 0 0, .int .i64 (turnF hz (kk : Int)), .slice none 0 0] | _ => True) [0, 1, 2, 3, 4, 5, 7] [2, 4, 5, 7, 9, 10, 11, 12] [(10, 11, 1, 11), (31, 0, 11, 42)] hst8 ?_ ?_ ?_
  · exact fun ix _ _ _ _ _ _ hs hb hx h => match ix, h with
    | 11, h => by dsimp only at h ⊢; rw [← hs 10 rfl, ← hb 10 rfl, ← hx 6 rfl]; exact h
    | 12, h => by dsimp only at h ⊢; rw [← hb 10 rfl, ← hx 7 rfl]; exact h
    | 0, _ | 1, _ | 2, _ | 3, _ | 4, _ | 5, _ | 6, _ | 7, _ | 8, _ | 9, _ | 10, _ | _ + 13, _ => trivial
  · refine ⟨?_, ?_, ?_, ?_, ?_, ?_, ?_, ?_, trivial⟩
    · exact s4 rfl (fun _ _ _ h => h) fun cx => run_load1 rfl (by kernel_rfl) (cx.anc 1 rfl) ((cx.blk (cx.init 2 _ rfl) rfl).cell 0)
    · exact sv_call rfl rfl rfl rfl rfl (fun _ _ _ h => h) fun ρ β W X cx => ⟨_, _, run_callF (args := #[.int .i64 hi, .int .i64 ((kk : Int))]) rfl cx.sees rfl (by kernel_rfl) (map2 (cx.anc 2 rfl) (cx.anc 3 rfl)), turn_any hi (kk : Int) _ ⟨by omega, by omega⟩⟩
    · exact sv0 rfl rfl rfl rfl rfl (fun _ _ _ h => h) fun ρ β W X cx => by
        have fF46 : ρ (.tmp 46) = .int .i64 (turnF hi (kk : Int)) := (cx.anc 4 rfl)
        simp [go_sem, fF46] <;> rfl
    · exact s4 rfl (fun _ _ _ h => h) fun cx => run_load1 rfl (by kernel_rfl) (cx.anc 6 rfl) ((cx.blk (cx.init 2 _ rfl) rfl).cell 3)
    · exact sv_call rfl rfl rfl rfl rfl (fun _ _ _ h => h) fun ρ β W X cx => ⟨_, _, run_callF (args := #[.int .i64 hz, .int .i64 ((kk : Int))]) rfl cx.sees rfl (by kernel_rfl) (map2 (cx.anc 7 rfl) (cx.anc 8 rfl)), turn_any hz (kk : Int) _ ⟨by omega, by omega⟩⟩
    · exact sv0 rfl rfl rfl rfl rfl (fun _ _ _ h => h) fun ρ β W X cx => by
        have fF47 : ρ (.tmp 47) = .agg #[.int .i64 (turnF hi (kk : Int)), .slice none 0 0] := (cx.anc 5 rfl)
        have fF51 : ρ (.tmp 51) = .int .i64 (turnF hz (kk : Int)) := (cx.anc 9 rfl)
        simp [go_sem, fF47, fF51] <;> rfl
    · refine sv_any rfl rfl fun ρ β W X cx => ?_
      exact dv_alloc (cs := #[.int .i64 0, .slice none 0 0, .slice none 0 0, .int .i64 0, .slice none 0 0]) rfl (by kernel_rfl) rfl rfl (fun σ β' X' hs hb hv hx => ⟨hv, hx⟩)
    · refine sv_any rfl rfl fun ρ β W X cx => ?_
      exact dv_store (n := 5) rfl (dTn (cx.anc 11 rfl)).1 (cx.anc 10 rfl) (by kernel_rfl) rfl rfl cx (dTn (cx.anc 11 rfl)).2 rfl (Nat.le_of_ble_eq_true rfl) rfl rfl rfl rfl (fun σ β' X' hs hb hx => by rw [hb 10]; exact hx)
  intro σ β X W9 hD hX hst9 fr hfr
  obtain ⟨B10_9, hu_B10_9⟩ : ∃ z, pb (β 10) = z := ⟨_, rfl⟩
  simp only [zM, exq 0 (hX 0 _ rfl), exq 1 (hX 1 _ rfl), exq 2 (hX 2 _ rfl), exq 3 (hX 3 _ rfl), exq 4 (hX 4 _ rfl), exq 5 (hX 5 _ rfl), exq 7 ((dTn (hD 12 lq))), hu_B10_9] at hst9
  dsimp only [mgT, vals, List.take, List.drop, List.cons_append, List.nil_append] at hfr
  simp only [ed 10 ((dTn (hD 11 lq)).1), hu_B10_9] at hfr
  clear hX hD hu_B10_9; subst hfr; clear σ β X
  refine then_normal ?_
  refine wp_seq ?_
  refine wp_seq ?_
  refine wp_region_P [0] [.k 11 (.int .i64 0)] [(11, 0, 1, 12)] hst9 fun W10 hst10 => ?_
  refine then_normal ?_
  refine wp_block ?_
  have hn11 := St.nilrow hst10 3
  refine wp_loopN (fun mz az W => ∃ i : Nat, ∃ Ai : Option Addr, ∃ Ci : Nat, ∃ u12_ : List Value, i ≤ (ls.take 60).length ∧ mz = (ls.take 60).length - i ∧ az = ⟨#[.slice LA0 l.length c0, .agg #[.int .i64 hi, .slice LA ls.length lc, .slice OA own.length oc, .int .i64 hz, .slice SA bs.length sc], .int .i64 ((kk : Int)), undef, .pointer (some ⟨B4_1, 0, none⟩), undef, .bool false, .bool true, .pointer (some ⟨B8_5, 0, none⟩), .pointer (some ⟨B9_6, 0, none⟩), .pointer (some ⟨B10_9, 0, none⟩), .int .i64 ((i : Int)), undef, undef, undef, undef, undef, undef, undef, undef, undef, undef, undef, .bool true, .agg #[.int .i64 hi, .slice LA ls.length lc, .slice OA own.length oc, .int .i64 hz, .slice SA bs.length sc], .agg #[.int .i64 hi, .slice A25_3 ((ls.take 60).length) c25_3, .slice A25q_3 ((own.take 20).length) c25q_3, .int .i64 hz, .slice SA bs.length sc], .int .i64 xa, .int .i64 (xa % 65536), .int .i64 ((kk : Int)), .slice LA0 l.length c0, .agg #[.int .i64 (vminF l), .int .i64 (vmaxF l), .int .i64 (vpgF l), .int .i64 (vslF l), .bool (vhotF l), .slice A30_5 ((vrowF l).length) c30_5], .agg #[.int .i64 (vminF l), .int .i64 (vmaxF l), .int .i64 (vpgF l), .int .i64 (vslF l), .bool (vhotF l), .slice A30_5 ((vrowF l).length) c30_5], .pointer (some ⟨B8_5, 0, none⟩), .int .i64 (vminF l), .int .i64 ((kk : Int)), .int .i64 (turnF (vminF l) (kk : Int)), .pointer (some ⟨B9_6, 0, none⟩), .pointer (some ⟨B8_5, 1, none⟩), .int .i64 (vmaxF l), .int .i64 ((kk : Int)), .int .i64 (turnF (vmaxF l) (kk : Int)), .pointer (some ⟨B9_6, 1, none⟩), .pointer (some ⟨B4_1, 0, none⟩), .pointer (some ⟨B4_1, 0, none⟩), .int .i64 hi, .int .i64 ((kk : Int)), .int .i64 (turnF hi (kk : Int)), .agg #[.int .i64 (turnF hi (kk : Int)), .slice none 0 0], .pointer (some ⟨B4_1, 3, none⟩), .int .i64 hz, .int .i64 ((kk : Int)), .int .i64 (turnF hz (kk : Int)), .agg #[.int .i64 (turnF hi (kk : Int)), .slice none 0 0, .slice none 0 0, .int .i64 (turnF hz (kk : Int)), .slice none 0 0], (u12_.getD 0 undef), (u12_.getD 1 undef), (u12_.getD 2 undef), (u12_.getD 3 undef), (u12_.getD 4 undef), (u12_.getD 5 undef), (u12_.getD 6 undef), (u12_.getD 7 undef), (u12_.getD 8 undef), (u12_.getD 9 undef), (u12_.getD 10 undef), (u12_.getD 11 undef), (u12_.getD 12 undef), (u12_.getD 13 undef), (u12_.getD 14 undef), (u12_.getD 15 undef), (u12_.getD 16 undef), (u12_.getD 17 undef), (u12_.getD 18 undef), (u12_.getD 19 undef), (u12_.getD 20 undef), (u12_.getD 21 undef), (u12_.getD 22 undef), undef, undef, undef, undef, undef, undef, undef, undef, undef, undef, undef, undef, undef, undef, undef, undef, undef, undef, undef, undef, undef, undef, undef, undef, undef, undef, undef, undef, undef, undef, undef, undef, undef, undef, undef, undef, undef, undef, undef, undef, undef, undef, undef, undef, undef, undef, undef, undef, undef, undef, undef, undef, undef, undef, undef, undef, undef, undef, undef, undef, undef, undef, undef, undef, undef, undef, undef, undef, undef, undef, undef, undef, undef, undef, undef, undef, undef, undef, undef, undef, undef, undef, undef, undef, undef, undef, undef, undef, undef, undef, undef, undef, undef, undef, undef, undef, undef, undef, undef, undef, undef, undef, undef, undef, undef, undef, undef, undef, undef, undef, undef, undef, undef, undef, undef, undef, undef, undef, undef, undef, undef, undef, undef, undef, undef, undef, undef, undef, undef, undef, undef, undef, undef, undef, undef, undef, undef, undef, undef, undef, undef, undef, undef, undef, undef, undef, undef, undef, undef, undef, undef, undef, undef, undef, undef, undef, undef, undef, undef, undef, undef, undef, undef, undef, undef, undef, undef, undef, undef, undef, undef, undef, undef, undef, undef, undef, undef, undef], []⟩ ∧ St w [] [eO 3 1 (.slice A25_3 ((ls.take 60).length) c25_3) ((ls.take 60).length) ((ls.take 60).map (Value.int .i64)), eO 3 1 (.slice A25q_3 ((own.take 20).length) c25q_3) ((own.take 20).length) ((own.take 20).map (Value.int .i64)), eB B4_1 45 #[.int .i64 hi, .slice A25_3 ((ls.take 60).length) c25_3, .slice A25q_3 ((own.take 20).length) c25q_3, .int .i64 hz, .slice SA bs.length sc], eO 103 3 (.slice A30_5 ((vrowF l).length) c30_5) ((vrowF l).length) (flatR (vrowF l)), eB B8_5 27 #[.int .i64 (vminF l), .int .i64 (vmaxF l), .int .i64 (vpgF l), .int .i64 (vslF l), .bool (vhotF l), .slice A30_5 ((vrowF l).length) c30_5], eB B9_6 27 #[.int .i64 (turnF (vminF l) (kk : Int)), .int .i64 (turnF (vmaxF l) (kk : Int)), .int .i64 (vpgF l), .int .i64 (vslF l), .bool (vhotF l), .slice A30_5 ((vrowF l).length) c30_5], eB B10_9 45 #[.int .i64 (turnF hi (kk : Int)), .slice Ai ((trn kk ((ls.take 60).take i)).length) Ci, .slice none 0 0, .int .i64 (turnF hz (kk : Int)), .slice none 0 0], eO 3 1 (.slice Ai ((trn kk ((ls.take 60).take i)).length) Ci) ((trn kk ((ls.take 60).take i)).length) ((trn kk ((ls.take 60).take i)).map (Value.int .i64))] W) ((ls.take 60).length - 0) ?_ ?_
  · -- the loop begins
    have hp13 := hn11.pick [0, 1, 2, 3, 4, 5, 6, 7] (by decide) rfl
    exact ⟨0, none, 0, [undef, undef, undef, undef, undef, undef, undef, undef, undef, undef, undef, undef, undef, undef, undef, undef, undef, undef, undef, undef, undef, undef, undef], by omega, rfl, rfl, hp13⟩
  rintro n12 a12 W12 ⟨i, Ai, Ci, u12_, hvi, rfl, rfl, hst12⟩
  have hTi : (trn kk ((ls.take 60).take i)).length ≤ 60 := by rw [trn_len, List.length_take]; omega
  refine wp_seq ?_
  refine wp_seq ?_
  refine wp_region_T [0, 0, 2, 6, 14, 31] [[], [], [], [2]] [] [] [.k 53 (.int .i64 ((i : Int))), .k 54 (.pointer (some ⟨B4_1, 0, none⟩)), .k 55 (.pointer (some ⟨B4_1, 1, none⟩)), .c 56 (.slice A25_3 ((ls.take 60).length) c25_3), .k 57 (.int .i64 (((ls.take 60).length : Int))), .k 58 (.bool (decide ((i : Int) < ((ls.take 60).length : Int))))] (fun _ _ _ _ => True) [0, 1, 2, 3, 4, 5, 6, 7] [3] [(53, 0, 6, 59)] hst12 ?_ ?_ ?_
  · exact fun _ _ _ _ _ _ _ _ _ _ h => h
  · refine ⟨?_, trivial⟩
    · exact s4 rfl (fun _ _ _ h => h) fun cx => run_load1 rfl (by kernel_rfl) (cx.anc 2 rfl) ((cx.blk (cx.init 2 _ rfl) rfl).cell 1)
  intro σ β X W14 hD hX hst14 fr hfr
  simp only [zM, exq 0 (hX 0 _ rfl), exq 1 (hX 1 _ rfl), exq 2 (hX 2 _ rfl), exq 3 (hX 3 _ rfl), exq 4 (hX 4 _ rfl), exq 5 (hX 5 _ rfl), exq 6 (hX 6 _ rfl), exq 7 (hX 7 _ rfl)] at hst14
  dsimp only [mgT, vals, List.take, List.drop, List.cons_append, List.nil_append] at hfr
  clear hX hD; subst hfr; clear σ β X
  refine then_normal ?_
  rcases Bool.eq_false_or_eq_true (decide ((i : Int) < ((ls.take 60).length : Int))) with hs15 | hs15
  · skip
    have hs15p : (i : Int) < ((ls.take 60).length : Int) := by simpa using hs15
    refine wp_cond_true (show Act.eval _ _ = .bool true from (congrArg Value.bool hs15)) ?_
    refine wp_skip ?_
    refine then_normal ?_
    refine wp_seq ?_
    refine wp_block ?_
    refine wp_region_T [0, 1, 3, 0, 8, 24, 0, 120, 248, 0, 1016, 2040, 4095, 8191, 16383, 32767] [[], [], [6], [], [], [2], [], [0], [0], [], [], [], [8, 7], [], [], [6]] [[], [], [], [], [], [], [], [], [], [], [], [8], [9], [], [], [10]] [[], [], [], [], [], [], [], [], [], [], [], [], [7], [], [], [6]] [.k 61 (.pointer (some ⟨B10_9, 0, none⟩)), .k 62 (.pointer (some ⟨B10_9, 1, none⟩)), .c 63 (.slice Ai ((trn kk ((ls.take 60).take i)).length) Ci), .k 64 (.pointer (some ⟨B4_1, 0, none⟩)), .k 65 (.pointer (some ⟨B4_1, 1, none⟩)), .c 66 (.slice A25_3 ((ls.take 60).length) c25_3), .k 67 (.int .i64 ((i : Int))), .c 68 (.pointer (some ((ad A25_3).add i))), .c 69 (.int .i64 (((ls.take 60)).getD i 0)), .k 70 (.int .i64 ((kk : Int))), .c 71 (.int .i64 (turnF (((ls.take 60)).getD i 0) (kk : Int))), .a 72, .a 73, .k 74 (.pointer (some ⟨B10_9, 0, none⟩)), .k 75 (.pointer (some ⟨B10_9, 1, none⟩)), .n] (fun ix σ β X => match ix with | 0 => True | 1 => True | 2 => True | 3 => True | 4 => True | 5 => True | 6 => True | 7 => True | 8 => True | 9 => True | 10 => True | 11 => σ 72 = .slice (sA (β 72)) 1 1 ∧ X 8 = eO 3 1 (.slice (sA (β 72)) 1 1) 1 ([.int .i64 (turnF (((ls.take 60)).getD i 0) (kk : Int))]) | 12 => σ 73 = .slice (sA (β 73)) ((trn kk ((ls.take 60).take (i + 1))).length) (sC (β 73)) ∧ X 9 = eO 3 1 (.slice (sA (β 73)) ((trn kk ((ls.take 60).take (i + 1))).length) (sC (β 73))) ((trn kk ((ls.take 60).take (i + 1))).length) ((trn kk ((ls.take 60).take (i + 1))).map (Value.int .i64)) | 13 => True | 14 => True | 15 => X 10 = eB B10_9 45 #[.int .i64 (turnF hi (kk : Int)), .slice (sA (β 73)) ((trn kk ((ls.take 60).take (i + 1))).length) (sC (β 73)), .slice none 0 0, .int .i64 (turnF hz (kk : Int)), .slice none 0 0] | _ => True) [0, 1, 2, 3, 4, 5, 8, 9, 10] [2, 5, 7, 8, 10, 11, 12, 15] [(61, 0, 15, 76)] hst14 ?_ ?_ ?_
    · exact fun ix _ _ _ _ _ _ hs hb hx h => match ix, h with
      | 11, h => by dsimp only at h ⊢; rw [← hs 72 rfl, ← hb 72 rfl, ← hx 8 rfl]; exact h
      | 12, h => by dsimp only at h ⊢; rw [← hs 73 rfl, ← hb 73 rfl, ← hx 9 rfl]; exact h
      | 15, h => by dsimp only at h ⊢; rw [← hb 73 rfl, ← hx 10 rfl]; exact h
      | 0, _ | 1, _ | 2, _ | 3, _ | 4, _ | 5, _ | 6, _ | 7, _ | 8, _ | 9, _ | 10, _ | 13, _ | 14, _ | _ + 16, _ => trivial
    · refine ⟨?_, ?_, ?_, ?_, ?_, ?_, ?_, ?_, trivial⟩
      · exact s4 rfl (fun _ _ _ h => h) fun cx => run_load1 rfl (by kernel_rfl) (cx.anc 1 rfl) ((cx.blk (cx.init 6 _ rfl) rfl).cell 1)
      · exact s4 rfl (fun _ _ _ h => h) fun cx => run_load1 rfl (by kernel_rfl) (cx.anc 4 rfl) ((cx.blk (cx.init 2 _ rfl) rfl).cell 1)
      · exact s4 rfl (fun _ _ _ h => h) fun cx => run_indexSl (e := 3) (m := i) rfl (by kernel_rfl) (by kernel_rfl) (cx.anc 5 rfl) (cx.anc 6 rfl) (by omega) (by omega) (At.of_own (cx.row (cx.init 0 _ rfl) rfl)) ((by simp))
      · exact s4 rfl (fun _ _ _ h => h) fun cx => run_load1 rfl (by kernel_rfl) (cx.anc 7 rfl) (At.cellAd (At.of_own (cx.row (cx.init 0 _ rfl) rfl)) (getD_int (by omega)))
      · exact sv_call rfl rfl rfl rfl rfl (fun _ _ _ h => h) fun ρ β W X cx => ⟨_, _, run_callF (args := #[.int .i64 (((ls.take 60)).getD i 0), .int .i64 ((kk : Int))]) rfl cx.sees rfl (by kernel_rfl) (map2 (cx.anc 8 rfl) (cx.anc 9 rfl)), turn_any (((ls.take 60)).getD i 0) (kk : Int) _ ⟨by omega, by omega⟩⟩
      · refine sv_any rfl rfl fun ρ β W X cx => ?_
        have fF71 : ρ (.tmp 71) = .int .i64 (turnF (((ls.take 60)).getD i 0) (kk : Int)) := (cx.anc 10 rfl)
        exact dv_lit (e := 3) (xs := [.int .i64 (turnF (((ls.take 60)).getD i 0) (kk : Int))]) rfl (by simp [go_sem, fF71]) rfl (by decide) rfl rfl (fun σ β' X' hs hb hv hx => ⟨hv, hx⟩)
      · refine sv_any rfl rfl fun ρ β W X cx => ?_
        obtain ⟨i0, hi0, hz0, hz1, hz2⟩ := info_parts Tryd.infoInt
        refine dv_append (n := (trn kk ((ls.take 60).take i)).length) (m := 1) (nm := (trn kk ((ls.take 60).take (i + 1))).length) (xs := (trn kk ((ls.take 60).take i)).map (Value.int .i64)) (news := [.int .i64 (turnF (((ls.take 60)).getD i 0) (kk : Int))]) (xs' := (trn kk ((ls.take 60).take (i + 1))).map (Value.int .i64)) rfl (ty := 28) rfl (by kernel_rfl) hi0 hz0 hz1 hz2 rfl (cx.anc 2 rfl) cx (cx.init 7 _ rfl) rfl (dTn (cx.anc 11 rfl)).1 (by first | (simp; done) | (simp; omega)) (At.of_own (cx.row (dTn (cx.anc 11 rfl)).2 rfl)) (by simp [Value.oneCell']) (by simp only [maxLen]; omega) (by omega) rfl rfl rfl ((trn_succ (by omega))) (trn_cat (by omega)) (fun σ β' X' hs hb hv hx => ?_)
        exact ⟨hv, hx⟩
      · refine sv_any rfl rfl fun ρ β W X cx => ?_
        exact dv_store (n := 1) rfl (cx.anc 14 rfl) (dTn (cx.anc 12 rfl)).1 (by kernel_rfl) rfl rfl cx (cx.init 6 _ rfl) rfl (Nat.le_of_ble_eq_true rfl) rfl rfl rfl rfl (fun σ β' X' hs hb hx => by rw [hb 73]; exact hx)
    intro σ β X W16 hD hX hst16 fr hfr
    obtain ⟨A72_16, hu_A72_16⟩ : ∃ z, sA (β 72) = z := ⟨_, rfl⟩
    obtain ⟨A73_16, hu_A73_16⟩ : ∃ z, sA (β 73) = z := ⟨_, rfl⟩
    obtain ⟨c73_16, hu_c73_16⟩ : ∃ z, sC (β 73) = z := ⟨_, rfl⟩
    simp only [zM, exq 0 (hX 0 _ rfl), exq 1 (hX 1 _ rfl), exq 2 (hX 2 _ rfl), exq 3 (hX 3 _ rfl), exq 4 (hX 4 _ rfl), exq 5 (hX 5 _ rfl), exq 8 ((dTn (hD 11 lq)).2), exq 9 ((dTn (hD 12 lq)).2), exq 10 ((dTn (hD 15 lq))), hu_A72_16, hu_A73_16, hu_c73_16] at hst16
    dsimp only [mgT, vals, List.take, List.drop, List.cons_append, List.nil_append] at hfr
    simp only [ed 72 ((dTn (hD 11 lq)).1), ed 73 ((dTn (hD 12 lq)).1), hu_A72_16, hu_A73_16, hu_c73_16] at hfr
    clear hX hD hu_A72_16 hu_A73_16 hu_c73_16; subst hfr; clear σ β X
    refine blk_normal ?_
    refine then_normal ?_
    refine wp_region_P [0, 1, 3] [.k 59 (.int .i64 ((i : Int))), tI 60 ((i : Int) + 1) (by omega), .k 11 (.int .i64 ((i : Int) + 1))] [(11, 2, 1, 12), (47, 0, 2, 49)] hst16 fun W17 hst17 => ?_
    refine then_normal ?_
    refine ⟨(ls.take 60).length - ((i + 1)), by omega, ?_⟩
    have hp18 := hst17.pick [0, 1, 2, 3, 4, 5, 8, 7] (by decide) rfl
    exact ⟨(i + 1), A73_16, c73_16, [.int .i64 ((i : Int)), .pointer (some ⟨B4_1, 0, none⟩), .pointer (some ⟨B4_1, 1, none⟩), .slice A25_3 ((ls.take 60).length) c25_3, .int .i64 (((ls.take 60).length : Int)), .bool (decide ((i : Int) < ((ls.take 60).length : Int))), .int .i64 ((i : Int)), .int .i64 ((i : Int) + 1), .pointer (some ⟨B10_9, 0, none⟩), .pointer (some ⟨B10_9, 1, none⟩), .slice Ai ((trn kk ((ls.take 60).take i)).length) Ci, .pointer (some ⟨B4_1, 0, none⟩), .pointer (some ⟨B4_1, 1, none⟩), .slice A25_3 ((ls.take 60).length) c25_3, .int .i64 ((i : Int)), .pointer (some ((ad A25_3).add i)), .int .i64 (((ls.take 60)).getD i 0), .int .i64 ((kk : Int)), .int .i64 (turnF (((ls.take 60)).getD i 0) (kk : Int)), .slice A72_16 1 1, .slice A73_16 ((trn kk ((ls.take 60).take (i + 1))).length) c73_16, .pointer (some ⟨B10_9, 0, none⟩), .pointer (some ⟨B10_9, 1, none⟩)], by omega, rfl, rfl, hp18⟩
  have hs15p : ¬ ((i : Int) < ((ls.take 60).length : Int)) := by simpa using hs15
  refine wp_cond_false (show Act.eval _ _ = .bool false from (congrArg Value.bool hs15)) ?_
  refine wp_exit ?_
  refine then_exit ?_
  refine then_exit ?_
  refine blk_eq ?_
  refine then_normal ?_
  refine wp_seq ?_
  refine wp_seq ?_
  have hti1 : (ls.take 60).take i = (ls.take 60) := List.take_of_length_le (by omega)
  rw [hti1] at hst14
  refine wp_region_P [0] [.k 12 (.int .i64 0)] [(12, 0, 1, 13)] hst14 fun W19 hst19 => ?_
  refine then_normal ?_
  refine wp_block ?_
  have hn20 := St.nilrow hst19 3
  refine wp_loopN (fun mz az W => ∃ j : Nat, ∃ Aj : Option Addr, ∃ Cj : Nat, ∃ u21_ : List Value, j ≤ (own.take 20).length ∧ mz = (own.take 20).length - j ∧ az = ⟨#[.slice LA0 l.length c0, .agg #[.int .i64 hi, .slice LA ls.length lc, .slice OA own.length oc, .int .i64 hz, .slice SA bs.length sc], .int .i64 ((kk : Int)), undef, .pointer (some ⟨B4_1, 0, none⟩), undef, .bool false, .bool true, .pointer (some ⟨B8_5, 0, none⟩), .pointer (some ⟨B9_6, 0, none⟩), .pointer (some ⟨B10_9, 0, none⟩), .int .i64 ((i : Int)), .int .i64 ((j : Int)), undef, undef, undef, undef, undef, undef, undef, undef, undef, undef, .bool true, .agg #[.int .i64 hi, .slice LA ls.length lc, .slice OA own.length oc, .int .i64 hz, .slice SA bs.length sc], .agg #[.int .i64 hi, .slice A25_3 ((ls.take 60).length) c25_3, .slice A25q_3 ((own.take 20).length) c25q_3, .int .i64 hz, .slice SA bs.length sc], .int .i64 xa, .int .i64 (xa % 65536), .int .i64 ((kk : Int)), .slice LA0 l.length c0, .agg #[.int .i64 (vminF l), .int .i64 (vmaxF l), .int .i64 (vpgF l), .int .i64 (vslF l), .bool (vhotF l), .slice A30_5 ((vrowF l).length) c30_5], .agg #[.int .i64 (vminF l), .int .i64 (vmaxF l), .int .i64 (vpgF l), .int .i64 (vslF l), .bool (vhotF l), .slice A30_5 ((vrowF l).length) c30_5], .pointer (some ⟨B8_5, 0, none⟩), .int .i64 (vminF l), .int .i64 ((kk : Int)), .int .i64 (turnF (vminF l) (kk : Int)), .pointer (some ⟨B9_6, 0, none⟩), .pointer (some ⟨B8_5, 1, none⟩), .int .i64 (vmaxF l), .int .i64 ((kk : Int)), .int .i64 (turnF (vmaxF l) (kk : Int)), .pointer (some ⟨B9_6, 1, none⟩), .pointer (some ⟨B4_1, 0, none⟩), .pointer (some ⟨B4_1, 0, none⟩), .int .i64 hi, .int .i64 ((kk : Int)), .int .i64 (turnF hi (kk : Int)), .agg #[.int .i64 (turnF hi (kk : Int)), .slice none 0 0], .pointer (some ⟨B4_1, 3, none⟩), .int .i64 hz, .int .i64 ((kk : Int)), .int .i64 (turnF hz (kk : Int)), .agg #[.int .i64 (turnF hi (kk : Int)), .slice none 0 0, .slice none 0 0, .int .i64 (turnF hz (kk : Int)), .slice none 0 0], .int .i64 ((i : Int)), .pointer (some ⟨B4_1, 0, none⟩), .pointer (some ⟨B4_1, 1, none⟩), .slice A25_3 ((ls.take 60).length) c25_3, .int .i64 (((ls.take 60).length : Int)), .bool (decide ((i : Int) < ((ls.take 60).length : Int))), (u12_.getD 6 undef), (u12_.getD 7 undef), (u12_.getD 8 undef), (u12_.getD 9 undef), (u12_.getD 10 undef), (u12_.getD 11 undef), (u12_.getD 12 undef), (u12_.getD 13 undef), (u12_.getD 14 undef), (u12_.getD 15 undef), (u12_.getD 16 undef), (u12_.getD 17 undef), (u12_.getD 18 undef), (u12_.getD 19 undef), (u12_.getD 20 undef), (u12_.getD 21 undef), (u12_.getD 22 undef), (u21_.getD 0 undef), (u21_.getD 1 undef), (u21_.getD 2 undef), (u21_.getD 3 undef), (u21_.getD 4 undef), (u21_.getD 5 undef), (u21_.getD 6 undef), (u21_.getD 7 undef), (u21_.getD 8 undef), (u21_.getD 9 undef), (u21_.getD 10 undef), (u21_.getD 11 undef), (u21_.getD 12 undef), (u21_.getD 13 undef), (u21_.getD 14 undef), (u21_.getD 15 undef), (u21_.getD 16 undef), (u21_.getD 17 undef), (u21_.getD 18 undef), undef, undef, undef, undef, undef, undef, undef, undef, undef, undef, undef, undef, undef, undef, undef, undef, undef, undef, undef, undef, undef, undef, undef, undef, undef, undef, undef, undef, undef, undef, undef, undef, undef, undef, undef, undef, undef, undef, undef, undef, undef, undef, undef, undef, undef, undef, undef, undef, undef, undef, undef, undef, undef, undef, undef, undef, undef, undef, undef, undef, undef, undef, undef, undef, undef, undef, undef, undef, undef, undef, undef, undef, undef, undef, undef, undef, undef, undef, undef, undef, undef, undef, undef, undef, undef, undef, undef, undef, undef, undef, undef, undef, undef, undef, undef, undef, undef, undef, undef, undef, undef, undef, undef, undef, undef, undef, undef, undef, undef, undef, undef, undef, undef, undef, undef, undef, undef, undef, undef, undef, undef, undef, undef, undef, undef, undef, undef, undef, undef, undef, undef, undef, undef, undef, undef, undef, undef, undef, undef, undef, undef, undef, undef, undef, undef, undef, undef, undef, undef, undef, undef, undef, undef, undef, undef, undef, undef, undef, undef], []⟩ ∧ St w [] [eO 3 1 (.slice A25_3 ((ls.take 60).length) c25_3) ((ls.take 60).length) ((ls.take 60).map (Value.int .i64)), eO 3 1 (.slice A25q_3 ((own.take 20).length) c25q_3) ((own.take 20).length) ((own.take 20).map (Value.int .i64)), eB B4_1 45 #[.int .i64 hi, .slice A25_3 ((ls.take 60).length) c25_3, .slice A25q_3 ((own.take 20).length) c25q_3, .int .i64 hz, .slice SA bs.length sc], eO 103 3 (.slice A30_5 ((vrowF l).length) c30_5) ((vrowF l).length) (flatR (vrowF l)), eB B8_5 27 #[.int .i64 (vminF l), .int .i64 (vmaxF l), .int .i64 (vpgF l), .int .i64 (vslF l), .bool (vhotF l), .slice A30_5 ((vrowF l).length) c30_5], eB B9_6 27 #[.int .i64 (turnF (vminF l) (kk : Int)), .int .i64 (turnF (vmaxF l) (kk : Int)), .int .i64 (vpgF l), .int .i64 (vslF l), .bool (vhotF l), .slice A30_5 ((vrowF l).length) c30_5], eO 3 1 (.slice Ai ((trn kk (ls.take 60)).length) Ci) ((trn kk (ls.take 60)).length) ((trn kk (ls.take 60)).map (Value.int .i64)), eB B10_9 45 #[.int .i64 (turnF hi (kk : Int)), .slice Ai ((trn kk (ls.take 60)).length) Ci, .slice Aj ((trn kk ((own.take 20).take j)).length) Cj, .int .i64 (turnF hz (kk : Int)), .slice none 0 0], eO 3 1 (.slice Aj ((trn kk ((own.take 20).take j)).length) Cj) ((trn kk ((own.take 20).take j)).length) ((trn kk ((own.take 20).take j)).map (Value.int .i64))] W) ((own.take 20).length - 0) ?_ ?_
  · -- the loop begins
    have hp22 := hn20.pick [0, 1, 2, 3, 4, 5, 7, 6, 8] (by decide) rfl
    exact ⟨0, none, 0, [undef, undef, undef, undef, undef, undef, undef, undef, undef, undef, undef, undef, undef, undef, undef, undef, undef, undef, undef], by omega, rfl, rfl, hp22⟩
  rintro n21 a21 W21 ⟨j, Aj, Cj, u21_, hvj, rfl, rfl, hst21⟩
  have hTj : (trn kk ((own.take 20).take j)).length ≤ 60 := by rw [trn_len, List.length_take]; omega
  refine wp_seq ?_
  refine wp_seq ?_
  refine wp_region_T [0, 0, 2, 6, 15] [[], [], [2]] [] [] [.k 76 (.int .i64 ((j : Int))), .k 77 (.pointer (some ⟨B4_1, 2, none⟩)), .c 78 (.slice A25q_3 ((own.take 20).length) c25q_3), .k 79 (.int .i64 (((own.take 20).length : Int))), .k 80 (.bool (decide ((j : Int) < ((own.take 20).length : Int))))] (fun _ _ _ _ => True) [0, 1, 2, 3, 4, 5, 6, 7, 8] [2] [(76, 0, 5, 81)] hst21 ?_ ?_ ?_
  · exact fun _ _ _ _ _ _ _ _ _ _ h => h
  · refine ⟨?_, trivial⟩
    · exact s4 rfl (fun _ _ _ h => h) fun cx => run_load1 rfl (by kernel_rfl) (cx.anc 1 rfl) ((cx.blk (cx.init 2 _ rfl) rfl).cell 2)
  intro σ β X W23 hD hX hst23 fr hfr
  simp only [zM, exq 0 (hX 0 _ rfl), exq 1 (hX 1 _ rfl), exq 2 (hX 2 _ rfl), exq 3 (hX 3 _ rfl), exq 4 (hX 4 _ rfl), exq 5 (hX 5 _ rfl), exq 6 (hX 6 _ rfl), exq 7 (hX 7 _ rfl), exq 8 (hX 8 _ rfl)] at hst23
  dsimp only [mgT, vals, List.take, List.drop, List.cons_append, List.nil_append] at hfr
  clear hX hD; subst hfr; clear σ β X
  refine then_normal ?_
  rcases Bool.eq_false_or_eq_true (decide ((j : Int) < ((own.take 20).length : Int))) with hs24 | hs24
  · skip
    have hs24p : (j : Int) < ((own.take 20).length : Int) := by simpa using hs24
    refine wp_cond_true (show Act.eval _ _ = .bool true from (congrArg Value.bool hs24)) ?_
    refine wp_skip ?_
    refine then_normal ?_
    refine wp_seq ?_
    refine wp_block ?_
    refine wp_region_T [0, 1, 0, 4, 0, 28, 60, 0, 252, 508, 1023, 2047, 4095] [[], [7], [], [2], [], [1], [1], [], [], [], [9, 8], [], [7]] [[], [], [], [], [], [], [], [], [], [9], [10], [], [11]] [[], [], [], [], [], [], [], [], [], [], [8], [], [7]] [.k 83 (.pointer (some ⟨B10_9, 2, none⟩)), .c 84 (.slice Aj ((trn kk ((own.take 20).take j)).length) Cj), .k 85 (.pointer (some ⟨B4_1, 2, none⟩)), .c 86 (.slice A25q_3 ((own.take 20).length) c25q_3), .k 87 (.int .i64 ((j : Int))), .c 88 (.pointer (some ((ad A25q_3).add j))), .c 89 (.int .i64 (((own.take 20)).getD j 0)), .k 90 (.int .i64 ((kk : Int))), .c 91 (.int .i64 (turnF (((own.take 20)).getD j 0) (kk : Int))), .a 92, .a 93, .k 94 (.pointer (some ⟨B10_9, 2, none⟩)), .n] (fun ix σ β X => match ix with | 0 => True | 1 => True | 2 => True | 3 => True | 4 => True | 5 => True | 6 => True | 7 => True | 8 => True | 9 => σ 92 = .slice (sA (β 92)) 1 1 ∧ X 9 = eO 3 1 (.slice (sA (β 92)) 1 1) 1 ([.int .i64 (turnF (((own.take 20)).getD j 0) (kk : Int))]) | 10 => σ 93 = .slice (sA (β 93)) ((trn kk ((own.take 20).take (j + 1))).length) (sC (β 93)) ∧ X 10 = eO 3 1 (.slice (sA (β 93)) ((trn kk ((own.take 20).take (j + 1))).length) (sC (β 93))) ((trn kk ((own.take 20).take (j + 1))).length) ((trn kk ((own.take 20).take (j + 1))).map (Value.int .i64)) | 11 => True | 12 => X 11 = eB B10_9 45 #[.int .i64 (turnF hi (kk : Int)), .slice Ai ((trn kk (ls.take 60)).length) Ci, .slice (sA (β 93)) ((trn kk ((own.take 20).take (j + 1))).length) (sC (β 93)), .int .i64 (turnF hz (kk : Int)), .slice none 0 0] | _ => True) [0, 1, 2, 3, 4, 5, 6, 9, 10, 11] [1, 3, 5, 6, 8, 9, 10, 12] [(83, 0, 12, 95)] hst23 ?_ ?_ ?_
    · exact fun ix _ _ _ _ _ _ hs hb hx h => match ix, h with
      | 9, h => by dsimp only at h ⊢; rw [← hs 92 rfl, ← hb 92 rfl, ← hx 9 rfl]; exact h
      | 10, h => by dsimp only at h ⊢; rw [← hs 93 rfl, ← hb 93 rfl, ← hx 10 rfl]; exact h
      | 12, h => by dsimp only at h ⊢; rw [← hb 93 rfl, ← hx 11 rfl]; exact h
      | 0, _ | 1, _ | 2, _ | 3, _ | 4, _ | 5, _ | 6, _ | 7, _ | 8, _ | 11, _ | _ + 13, _ => trivial
    · refine ⟨?_, ?_, ?_, ?_, ?_, ?_, ?_, ?_, trivial⟩
      · exact s4 rfl (fun _ _ _ h => h) fun cx => run_load1 rfl (by kernel_rfl) (cx.anc 0 rfl) ((cx.blk (cx.init 7 _ rfl) rfl).cell 2)
      · exact s4 rfl (fun _ _ _ h => h) fun cx => run_load1 rfl (by kernel_rfl) (cx.anc 2 rfl) ((cx.blk (cx.init 2 _ rfl) rfl).cell 2)
      · exact s4 rfl (fun _ _ _ h => h) fun cx => run_indexSl (e := 3) (m := j) rfl (by kernel_rfl) (by kernel_rfl) (cx.anc 3 rfl) (cx.anc 4 rfl) (by omega) (by omega) (At.of_own (cx.row (cx.init 1 _ rfl) rfl)) ((by simp))
      · exact s4 rfl (fun _ _ _ h => h) fun cx => run_load1 rfl (by kernel_rfl) (cx.anc 5 rfl) (At.cellAd (At.of_own (cx.row (cx.init 1 _ rfl) rfl)) (getD_int (by omega)))
      · exact sv_call rfl rfl rfl rfl rfl (fun _ _ _ h => h) fun ρ β W X cx => ⟨_, _, run_callF (args := #[.int .i64 (((own.take 20)).getD j 0), .int .i64 ((kk : Int))]) rfl cx.sees rfl (by kernel_rfl) (map2 (cx.anc 6 rfl) (cx.anc 7 rfl)), turn_any (((own.take 20)).getD j 0) (kk : Int) _ ⟨by omega, by omega⟩⟩
      · refine sv_any rfl rfl fun ρ β W X cx => ?_
        have fF91 : ρ (.tmp 91) = .int .i64 (turnF (((own.take 20)).getD j 0) (kk : Int)) := (cx.anc 8 rfl)
        exact dv_lit (e := 3) (xs := [.int .i64 (turnF (((own.take 20)).getD j 0) (kk : Int))]) rfl (by simp [go_sem, fF91]) rfl (by decide) rfl rfl (fun σ β' X' hs hb hv hx => ⟨hv, hx⟩)
      · refine sv_any rfl rfl fun ρ β W X cx => ?_
        obtain ⟨i0, hi0, hz0, hz1, hz2⟩ := info_parts Tryd.infoInt
        refine dv_append (n := (trn kk ((own.take 20).take j)).length) (m := 1) (nm := (trn kk ((own.take 20).take (j + 1))).length) (xs := (trn kk ((own.take 20).take j)).map (Value.int .i64)) (news := [.int .i64 (turnF (((own.take 20)).getD j 0) (kk : Int))]) (xs' := (trn kk ((own.take 20).take (j + 1))).map (Value.int .i64)) rfl (ty := 28) rfl (by kernel_rfl) hi0 hz0 hz1 hz2 rfl (cx.anc 1 rfl) cx (cx.init 8 _ rfl) rfl (dTn (cx.anc 9 rfl)).1 (by first | (simp; done) | (simp; omega)) (At.of_own (cx.row (dTn (cx.anc 9 rfl)).2 rfl)) (by simp [Value.oneCell']) (by simp only [maxLen]; omega) (by omega) rfl rfl rfl ((trn_succ (by omega))) (trn_cat (by omega)) (fun σ β' X' hs hb hv hx => ?_)
        exact ⟨hv, hx⟩
      · refine sv_any rfl rfl fun ρ β W X cx => ?_
        exact dv_store (n := 1) rfl (cx.anc 11 rfl) (dTn (cx.anc 10 rfl)).1 (by kernel_rfl) rfl rfl cx (cx.init 7 _ rfl) rfl (Nat.le_of_ble_eq_true rfl) rfl rfl rfl rfl (fun σ β' X' hs hb hx => by rw [hb 93]; exact hx)
    intro σ β X W25 hD hX hst25 fr hfr
    obtain ⟨A92_25, hu_A92_25⟩ : ∃ z, sA (β 92) = z := ⟨_, rfl⟩
    obtain ⟨A93_25, hu_A93_25⟩ : ∃ z, sA (β 93) = z := ⟨_, rfl⟩
    obtain ⟨c93_25, hu_c93_25⟩ : ∃ z, sC (β 93) = z := ⟨_, rfl⟩
    simp only [zM, exq 0 (hX 0 _ rfl), exq 1 (hX 1 _ rfl), exq 2 (hX 2 _ rfl), exq 3 (hX 3 _ rfl), exq 4 (hX 4 _ rfl), exq 5 (hX 5 _ rfl), exq 6 (hX 6 _ rfl), exq 9 ((dTn (hD 9 lq)).2), exq 10 ((dTn (hD 10 lq)).2), exq 11 ((dTn (hD 12 lq))), hu_A92_25, hu_A93_25, hu_c93_25] at hst25
    dsimp only [mgT, vals, List.take, List.drop, List.cons_append, List.nil_append] at hfr
    simp only [ed 92 ((dTn (hD 9 lq)).1), ed 93 ((dTn (hD 10 lq)).1), hu_A92_25, hu_A93_25, hu_c93_25] at hfr
    clear hX hD hu_A92_25 hu_A93_25 hu_c93_25; subst hfr; clear σ β X
    refine blk_normal ?_
    refine then_normal ?_
    refine wp_region_P [0, 1, 3] [.k 81 (.int .i64 ((j : Int))), tI 82 ((j : Int) + 1) (by omega), .k 12 (.int .i64 ((j : Int) + 1))] [(12, 2, 1, 13), (68, 0, 2, 70)] hst25 fun W26 hst26 => ?_
    refine then_normal ?_
    refine ⟨(own.take 20).length - ((j + 1)), by omega, ?_⟩
    have hp27 := hst26.pick [0, 1, 2, 3, 4, 5, 6, 9, 8] (by decide) rfl
    exact ⟨(j + 1), A93_25, c93_25, [.int .i64 ((j : Int)), .pointer (some ⟨B4_1, 2, none⟩), .slice A25q_3 ((own.take 20).length) c25q_3, .int .i64 (((own.take 20).length : Int)), .bool (decide ((j : Int) < ((own.take 20).length : Int))), .int .i64 ((j : Int)), .int .i64 ((j : Int) + 1), .pointer (some ⟨B10_9, 2, none⟩), .slice Aj ((trn kk ((own.take 20).take j)).length) Cj, .pointer (some ⟨B4_1, 2, none⟩), .slice A25q_3 ((own.take 20).length) c25q_3, .int .i64 ((j : Int)), .pointer (some ((ad A25q_3).add j)), .int .i64 (((own.take 20)).getD j 0), .int .i64 ((kk : Int)), .int .i64 (turnF (((own.take 20)).getD j 0) (kk : Int)), .slice A92_25 1 1, .slice A93_25 ((trn kk ((own.take 20).take (j + 1))).length) c93_25, .pointer (some ⟨B10_9, 2, none⟩)], by omega, rfl, rfl, hp27⟩
  have hs24p : ¬ ((j : Int) < ((own.take 20).length : Int)) := by simpa using hs24
  refine wp_cond_false (show Act.eval _ _ = .bool false from (congrArg Value.bool hs24)) ?_
  refine wp_exit ?_
  refine then_exit ?_
  refine then_exit ?_
  refine blk_eq ?_
  refine then_normal ?_
  refine wp_seq ?_
  have hti2 : (own.take 20).take j = (own.take 20) := List.take_of_length_le (by omega)
  rw [hti2] at hst23
  refine wp_region_T [0, 1, 3] [[], [], [7]] [[9], [], [10]] [[], [], [7]] [.a 95, .k 96 (.pointer (some ⟨B10_9, 4, none⟩)), .n] (fun ix σ β X => match ix with | 0 => σ 95 = .slice (sA (β 95)) 125 125 ∧ X 9 = eO 5 1 (.slice (sA (β 95)) 125 125) 125 ((List.replicate 125 (0 : Int)).map (Value.int .u8)) | 1 => True | 2 => X 10 = eB B10_9 45 #[.int .i64 (turnF hi (kk : Int)), .slice Ai ((trn kk (ls.take 60)).length) Ci, .slice Aj ((trn kk (own.take 20)).length) Cj, .int .i64 (turnF hz (kk : Int)), .slice (sA (β 95)) 125 125] | _ => True) [0, 1, 2, 3, 4, 5, 6, 8, 9, 10] [0, 2] [(95, 0, 2, 97)] hst23 ?_ ?_ ?_
  · exact fun ix _ _ _ _ _ _ hs hb hx h => match ix, h with
    | 0, h => by dsimp only at h ⊢; rw [← hs 95 rfl, ← hb 95 rfl, ← hx 9 rfl]; exact h
    | 2, h => by dsimp only at h ⊢; rw [← hb 95 rfl, ← hx 10 rfl]; exact h
    | 1, _ | _ + 3, _ => trivial
  · refine ⟨?_, ?_, trivial⟩
    · refine sv_any rfl rfl fun ρ β W X cx => ?_
      obtain ⟨i0, hi0, hz0, hz1, hz2⟩ := info_parts Tryd.infoU8
      exact dv_make (n := 125) rfl (by kernel_rfl) hi0 hz0 hz1 hz2 rfl (cx.sees.const _) (cx.sees.const _) (by omega) (by omega) (by omega) (by omega) rfl rfl (fun σ β' X' hs hb hv hx => ⟨hv, by rw [List.map_replicate]; exact hx⟩)
    · refine sv_any rfl rfl fun ρ β W X cx => ?_
      exact dv_store (n := 1) rfl (cx.anc 1 rfl) (dTn (cx.anc 0 rfl)).1 (by kernel_rfl) rfl rfl cx (cx.init 7 _ rfl) rfl (Nat.le_of_ble_eq_true rfl) rfl rfl rfl rfl (fun σ β' X' hs hb hx => by rw [hb 95]; exact hx)
  intro σ β X W28 hD hX hst28 fr hfr
  obtain ⟨A95_28, hu_A95_28⟩ : ∃ z, sA (β 95) = z := ⟨_, rfl⟩
  simp only [zM, exq 0 (hX 0 _ rfl), exq 1 (hX 1 _ rfl), exq 2 (hX 2 _ rfl), exq 3 (hX 3 _ rfl), exq 4 (hX 4 _ rfl), exq 5 (hX 5 _ rfl), exq 6 (hX 6 _ rfl), exq 8 (hX 8 _ rfl), exq 9 ((dTn (hD 0 lq)).2), exq 10 ((dTn (hD 2 lq))), hu_A95_28] at hst28
  dsimp only [mgT, vals, List.take, List.drop, List.cons_append, List.nil_append] at hfr
  simp only [ed 95 ((dTn (hD 0 lq)).1), hu_A95_28] at hfr
  clear hX hD hu_A95_28; subst hfr; clear σ β X
  refine then_normal ?_
  refine wp_seq ?_
  refine wp_seq ?_
  rw [← rwT_0 bs kk] at hst28
  refine wp_region_P [0] [.k 13 (.int .i64 0)] [(13, 0, 1, 14)] hst28 fun W29 hst29 => ?_
  refine then_normal ?_
  refine wp_block ?_
  refine wp_loopN (fun mz az W => ∃ k : Nat, ∃ u30_ : List Value, k ≤ 125 ∧ mz = 125 - k ∧ az = ⟨#[.slice LA0 l.length c0, .agg #[.int .i64 hi, .slice LA ls.length lc, .slice OA own.length oc, .int .i64 hz, .slice SA bs.length sc], .int .i64 ((kk : Int)), undef, .pointer (some ⟨B4_1, 0, none⟩), undef, .bool false, .bool true, .pointer (some ⟨B8_5, 0, none⟩), .pointer (some ⟨B9_6, 0, none⟩), .pointer (some ⟨B10_9, 0, none⟩), .int .i64 ((i : Int)), .int .i64 ((j : Int)), .int .i64 ((k : Int)), undef, undef, undef, undef, undef, undef, undef, undef, undef, .bool true, .agg #[.int .i64 hi, .slice LA ls.length lc, .slice OA own.length oc, .int .i64 hz, .slice SA bs.length sc], .agg #[.int .i64 hi, .slice A25_3 ((ls.take 60).length) c25_3, .slice A25q_3 ((own.take 20).length) c25q_3, .int .i64 hz, .slice SA bs.length sc], .int .i64 xa, .int .i64 (xa % 65536), .int .i64 ((kk : Int)), .slice LA0 l.length c0, .agg #[.int .i64 (vminF l), .int .i64 (vmaxF l), .int .i64 (vpgF l), .int .i64 (vslF l), .bool (vhotF l), .slice A30_5 ((vrowF l).length) c30_5], .agg #[.int .i64 (vminF l), .int .i64 (vmaxF l), .int .i64 (vpgF l), .int .i64 (vslF l), .bool (vhotF l), .slice A30_5 ((vrowF l).length) c30_5], .pointer (some ⟨B8_5, 0, none⟩), .int .i64 (vminF l), .int .i64 ((kk : Int)), .int .i64 (turnF (vminF l) (kk : Int)), .pointer (some ⟨B9_6, 0, none⟩), .pointer (some ⟨B8_5, 1, none⟩), .int .i64 (vmaxF l), .int .i64 ((kk : Int)), .int .i64 (turnF (vmaxF l) (kk : Int)), .pointer (some ⟨B9_6, 1, none⟩), .pointer (some ⟨B4_1, 0, none⟩), .pointer (some ⟨B4_1, 0, none⟩), .int .i64 hi, .int .i64 ((kk : Int)), .int .i64 (turnF hi (kk : Int)), .agg #[.int .i64 (turnF hi (kk : Int)), .slice none 0 0], .pointer (some ⟨B4_1, 3, none⟩), .int .i64 hz, .int .i64 ((kk : Int)), .int .i64 (turnF hz (kk : Int)), .agg #[.int .i64 (turnF hi (kk : Int)), .slice none 0 0, .slice none 0 0, .int .i64 (turnF hz (kk : Int)), .slice none 0 0], .int .i64 ((i : Int)), .pointer (some ⟨B4_1, 0, none⟩), .pointer (some ⟨B4_1, 1, none⟩), .slice A25_3 ((ls.take 60).length) c25_3, .int .i64 (((ls.take 60).length : Int)), .bool (decide ((i : Int) < ((ls.take 60).length : Int))), (u12_.getD 6 undef), (u12_.getD 7 undef), (u12_.getD 8 undef), (u12_.getD 9 undef), (u12_.getD 10 undef), (u12_.getD 11 undef), (u12_.getD 12 undef), (u12_.getD 13 undef), (u12_.getD 14 undef), (u12_.getD 15 undef), (u12_.getD 16 undef), (u12_.getD 17 undef), (u12_.getD 18 undef), (u12_.getD 19 undef), (u12_.getD 20 undef), (u12_.getD 21 undef), (u12_.getD 22 undef), .int .i64 ((j : Int)), .pointer (some ⟨B4_1, 2, none⟩), .slice A25q_3 ((own.take 20).length) c25q_3, .int .i64 (((own.take 20).length : Int)), .bool (decide ((j : Int) < ((own.take 20).length : Int))), (u21_.getD 5 undef), (u21_.getD 6 undef), (u21_.getD 7 undef), (u21_.getD 8 undef), (u21_.getD 9 undef), (u21_.getD 10 undef), (u21_.getD 11 undef), (u21_.getD 12 undef), (u21_.getD 13 undef), (u21_.getD 14 undef), (u21_.getD 15 undef), (u21_.getD 16 undef), (u21_.getD 17 undef), (u21_.getD 18 undef), .slice A95_28 125 125, .pointer (some ⟨B10_9, 4, none⟩), (u30_.getD 0 undef), (u30_.getD 1 undef), (u30_.getD 2 undef), (u30_.getD 3 undef), (u30_.getD 4 undef), (u30_.getD 5 undef), (u30_.getD 6 undef), (u30_.getD 7 undef), (u30_.getD 8 undef), (u30_.getD 9 undef), (u30_.getD 10 undef), (u30_.getD 11 undef), (u30_.getD 12 undef), (u30_.getD 13 undef), (u30_.getD 14 undef), (u30_.getD 15 undef), (u30_.getD 16 undef), (u30_.getD 17 undef), undef, undef, undef, undef, undef, undef, undef, undef, undef, undef, undef, undef, undef, undef, undef, undef, undef, undef, undef, undef, undef, undef, undef, undef, undef, undef, undef, undef, undef, undef, undef, undef, undef, undef, undef, undef, undef, undef, undef, undef, undef, undef, undef, undef, undef, undef, undef, undef, undef, undef, undef, undef, undef, undef, undef, undef, undef, undef, undef, undef, undef, undef, undef, undef, undef, undef, undef, undef, undef, undef, undef, undef, undef, undef, undef, undef, undef, undef, undef, undef, undef, undef, undef, undef, undef, undef, undef, undef, undef, undef, undef, undef, undef, undef, undef, undef, undef, undef, undef, undef, undef, undef, undef, undef, undef, undef, undef, undef, undef, undef, undef, undef, undef, undef, undef, undef, undef, undef, undef, undef, undef, undef, undef, undef, undef, undef, undef, undef, undef, undef, undef, undef, undef, undef, undef, undef, undef, undef, undef], []⟩ ∧ St w [] [eO 3 1 (.slice A25_3 ((ls.take 60).length) c25_3) ((ls.take 60).length) ((ls.take 60).map (Value.int .i64)), eO 3 1 (.slice A25q_3 ((own.take 20).length) c25q_3) ((own.take 20).length) ((own.take 20).map (Value.int .i64)), eB B4_1 45 #[.int .i64 hi, .slice A25_3 ((ls.take 60).length) c25_3, .slice A25q_3 ((own.take 20).length) c25q_3, .int .i64 hz, .slice SA bs.length sc], eO 103 3 (.slice A30_5 ((vrowF l).length) c30_5) ((vrowF l).length) (flatR (vrowF l)), eB B8_5 27 #[.int .i64 (vminF l), .int .i64 (vmaxF l), .int .i64 (vpgF l), .int .i64 (vslF l), .bool (vhotF l), .slice A30_5 ((vrowF l).length) c30_5], eB B9_6 27 #[.int .i64 (turnF (vminF l) (kk : Int)), .int .i64 (turnF (vmaxF l) (kk : Int)), .int .i64 (vpgF l), .int .i64 (vslF l), .bool (vhotF l), .slice A30_5 ((vrowF l).length) c30_5], eO 3 1 (.slice Ai ((trn kk (ls.take 60)).length) Ci) ((trn kk (ls.take 60)).length) ((trn kk (ls.take 60)).map (Value.int .i64)), eO 3 1 (.slice Aj ((trn kk (own.take 20)).length) Cj) ((trn kk (own.take 20)).length) ((trn kk (own.take 20)).map (Value.int .i64)), eB B10_9 45 #[.int .i64 (turnF hi (kk : Int)), .slice Ai ((trn kk (ls.take 60)).length) Ci, .slice Aj ((trn kk (own.take 20)).length) Cj, .int .i64 (turnF hz (kk : Int)), .slice A95_28 125 125], eO 5 1 (.slice A95_28 125 125) 125 ((rwT bs kk k).map (Value.int .u8))] W) (125 - 0) ?_ ?_
  · -- the loop begins
    have hp31 := hst29.pick [0, 1, 2, 3, 4, 5, 6, 7, 9, 8] (by decide) rfl
    exact ⟨0, [undef, undef, undef, undef, undef, undef, undef, undef, undef, undef, undef, undef, undef, undef, undef, undef, undef, undef], by omega, rfl, rfl, hp31⟩
  rintro n30 a30 W30 ⟨k, u30_, hk, rfl, rfl, hst30⟩
  have hsb := standF_bd bs (3 + (k : Int))
  refine wp_seq ?_
  refine wp_seq ?_
  refine wp_region_P [0, 1] [.k 97 (.int .i64 ((k : Int))), .k 98 (.bool (decide ((k : Int) < 125)))] [(97, 0, 2, 99)] hst30 fun W32 hst32 => ?_
  refine then_normal ?_
  rcases Bool.eq_false_or_eq_true (decide ((k : Int) < 125)) with hs33 | hs33
  · skip
    have hs33p : (k : Int) < 125 := by simpa using hs33
    refine wp_cond_true (show Act.eval _ _ = .bool true from (congrArg Value.bool hs33)) ?_
    refine wp_skip ?_
    refine then_normal ?_
    refine wp_seq ?_
    refine wp_block ?_
    have hti := turnF_range (x := 3 + (k : Int)) (k := (kk : Int)) (onF_iff.2 ⟨by omega, by omega⟩) hk0
    have htx : (turnF (3 + (k : Int)) (kk : Int) - 3).toNat = (k + kk) % 125 := by rw [rwT_idx ⟨by omega, by omega⟩ hk125]; congr 2; omega
    refine wp_region_T [0, 1, 0, 4, 0, 28, 60, 0, 128, 0, 512, 1980, 4028, 8191, 16383] [[], [8], [], [], [], [], [], [], [2], [], [], [], [], [9], [9]] [[], [], [], [], [], [], [], [], [], [], [], [], [], [], [10]] [[], [], [], [], [], [], [], [], [], [], [], [], [], [], [9]] [.k 101 (.pointer (some ⟨B10_9, 4, none⟩)), .c 102 (.slice A95_28 125 125), .k 103 (.int .i64 ((k : Int))), tI 104 (3 + (k : Int)) (by omega), .k 105 (.int .i64 ((kk : Int))), .c 106 (.int .i64 (turnF (3 + (k : Int)) (kk : Int))), tI 107 ((turnF (3 + (k : Int)) (kk : Int)) - 3) (by omega), .k 108 (.pointer (some ⟨B4_1, 4, none⟩)), .c 109 (.slice SA bs.length sc), .k 110 (.int .i64 ((k : Int))), tI 111 (3 + (k : Int)) (by omega), .c 112 (.int .i64 (standF bs (3 + (k : Int)))), tW 113 .u8 (standF bs (3 + (k : Int))) (standF bs (3 + (k : Int))) (IntWalk.u8_in _ (by omega)), .c 114 (.pointer (some ((ad A95_28).add ((turnF (3 + (k : Int)) (kk : Int) - 3).toNat)))), .n] (fun ix σ β X => match ix with | 0 => True | 1 => True | 2 => True | 3 => True | 4 => True | 5 => True | 6 => True | 7 => True | 8 => True | 9 => True | 10 => True | 11 => True | 12 => True | 13 => True | 14 => X 10 = eO 5 1 (.slice A95_28 125 125) 125 ((rwT bs kk (k + 1)).map (Value.int .u8)) | _ => True) [0, 1, 2, 3, 4, 5, 6, 7, 8, 10] [1, 5, 8, 11, 13, 14] [(101, 0, 14, 115)] hst32 ?_ ?_ ?_
    · exact fun ix _ _ _ _ _ _ hs hb hx h => match ix, h with
      | 14, h => by dsimp only at h ⊢; rw [← hx 10 rfl]; exact h
      | 0, _ | 1, _ | 2, _ | 3, _ | 4, _ | 5, _ | 6, _ | 7, _ | 8, _ | 9, _ | 10, _ | 11, _ | 12, _ | 13, _ | _ + 15, _ => trivial
    · refine ⟨?_, ?_, ?_, ?_, ?_, ?_, trivial⟩
      · exact s4 rfl (fun _ _ _ h => h) fun cx => run_load1 rfl (by kernel_rfl) (cx.anc 0 rfl) ((cx.blk (cx.init 8 _ rfl) rfl).cell 4)
      · exact sv_call rfl rfl rfl rfl rfl (fun _ _ _ h => h) fun ρ β W X cx => ⟨_, _, run_callF (args := #[.int .i64 (3 + (k : Int)), .int .i64 ((kk : Int))]) rfl cx.sees rfl (by kernel_rfl) (map2 (cx.anc 3 rfl) (cx.anc 4 rfl)), turn_any (3 + (k : Int)) (kk : Int) _ ⟨by omega, by omega⟩⟩
      · exact s4 rfl (fun _ _ _ h => h) fun cx => run_load1 rfl (by kernel_rfl) (cx.anc 7 rfl) ((cx.blk (cx.init 2 _ rfl) rfl).cell 4)
      · exact sv_call rfl rfl rfl rfl rfl (fun _ _ _ h => h) fun ρ β W X cx => ⟨_, _, run_callF (args := #[.slice SA bs.length sc, .int .i64 (3 + (k : Int))]) rfl cx.sees rfl (by kernel_rfl) (map2 (cx.anc 8 rfl) (cx.anc 10 rfl)), stand_any _ _ bs (3 + (k : Int)) _ (hSA.ext cx.upd.to_ext) hbs⟩
      · exact s4 rfl (fun _ _ _ h => h) fun cx => run_indexSl (e := 5) (m := (turnF (3 + (k : Int)) (kk : Int) - 3).toNat) rfl (by kernel_rfl) (by kernel_rfl) (cx.anc 1 rfl) (cx.anc 6 rfl) (by omega) (by omega) (At.of_own (cx.row (cx.init 9 _ rfl) rfl)) ((by simp [rwT_len]))
      · refine sv_any rfl rfl fun ρ β W X cx => ?_
        exact dv_storeRow (m := (turnF (3 + (k : Int)) (kk : Int) - 3).toNat) (n := 125) rfl (cx.anc 13 rfl) (cx.anc 12 rfl) (by kernel_rfl) rfl rfl cx (cx.init 9 _ rfl) rfl (by omega) rfl (by rw [← List.map_set, htx, rwT_set bs kk k hk125 (by omega)]) rfl rfl (fun σ β' X' hs hb hx => hx)
    intro σ β X W34 hD hX hst34 fr hfr
    simp only [zM, exq 0 (hX 0 _ rfl), exq 1 (hX 1 _ rfl), exq 2 (hX 2 _ rfl), exq 3 (hX 3 _ rfl), exq 4 (hX 4 _ rfl), exq 5 (hX 5 _ rfl), exq 6 (hX 6 _ rfl), exq 7 (hX 7 _ rfl), exq 8 (hX 8 _ rfl), exq 10 ((dTn (hD 14 lq)))] at hst34
    dsimp only [mgT, vals, List.take, List.drop, List.cons_append, List.nil_append] at hfr
    clear hX hD; subst hfr; clear σ β X
    refine blk_normal ?_
    refine then_normal ?_
    refine wp_region_P [0, 1, 3] [.k 99 (.int .i64 ((k : Int))), tI 100 ((k : Int) + 1) (by omega), .k 13 (.int .i64 ((k : Int) + 1))] [(13, 2, 1, 14), (85, 0, 2, 87)] hst34 fun W35 hst35 => ?_
    refine then_normal ?_
    refine ⟨125 - ((k + 1)), by omega, ?_⟩
    have hp36 := hst35.pick [0, 1, 2, 3, 4, 5, 6, 7, 8, 9] (by decide) rfl
    exact ⟨(k + 1), [.int .i64 ((k : Int)), .bool (decide ((k : Int) < 125)), .int .i64 ((k : Int)), .int .i64 ((k : Int) + 1), .pointer (some ⟨B10_9, 4, none⟩), .slice A95_28 125 125, .int .i64 ((k : Int)), .int .i64 (3 + (k : Int)), .int .i64 ((kk : Int)), .int .i64 (turnF (3 + (k : Int)) (kk : Int)), .int .i64 (turnF (3 + (k : Int)) (kk : Int) - 3), .pointer (some ⟨B4_1, 4, none⟩), .slice SA bs.length sc, .int .i64 ((k : Int)), .int .i64 (3 + (k : Int)), .int .i64 (standF bs (3 + (k : Int))), .int .u8 (standF bs (3 + (k : Int))), .pointer (some ((ad A95_28).add ((turnF (3 + (k : Int)) (kk : Int) - 3).toNat)))], by omega, rfl, rfl, hp36⟩
  have hs33p : ¬ ((k : Int) < 125) := by simpa using hs33
  refine wp_cond_false (show Act.eval _ _ = .bool false from (congrArg Value.bool hs33)) ?_
  refine wp_exit ?_
  refine then_exit ?_
  refine then_exit ?_
  refine blk_eq ?_
  refine then_normal ?_
  refine wp_seq ?_
  obtain rfl : k = 125 := by omega
  obtain ⟨RT, hRT⟩ : ∃ z, rwT bs kk 125 = z := ⟨_, rfl⟩
  have hg : ∀ x, standF RT (turnF x (kk : Int)) = standF bs x := by rw [← hRT]; exact T_state hk125
  have hRl : RT.length = 125 := by rw [← hRT]; exact rwT_len bs kk 125
  have hRu : ∀ b ∈ RT, 0 ≤ b ∧ b ≤ 255 := by rw [← hRT]; exact rwT_u8 bs kk 125
  rw [hRT] at hst32
  have hl3 : (trn kk (ls.take 60)).length ≤ 60 := by rw [trn_len]; exact hl1
  have hl4 : (trn kk (own.take 20)).length ≤ 20 := by rw [trn_len]; exact hl2
  refine wp_region_T [0, 0, 2, 0, 8, 0, 32, 96, 255, 511, 1023, 1023, 2047, 8191] [[4], [], [2], [], [2], [], [2], [], [0, 1]] [] [] [.c 116 (.agg #[.int .i64 (vminF l), .int .i64 (vmaxF l), .int .i64 (vpgF l), .int .i64 (vslF l), .bool (vhotF l), .slice A30_5 ((vrowF l).length) c30_5]), .k 117 (.pointer (some ⟨B4_1, 0, none⟩)), .c 118 (.agg #[.int .i64 hi, .slice A25_3 ((ls.take 60).length) c25_3]), .k 119 (.pointer (some ⟨B4_1, 2, none⟩)), .c 120 (.slice A25q_3 ((own.take 20).length) c25q_3), .k 121 (.pointer (some ⟨B4_1, 4, none⟩)), .c 122 (.slice SA bs.length sc), .c 123 (.iface 43 (.slice SA bs.length sc)), .c 124 (.tuple #[.int .i64 (bes1F hi (ls.take 60) (own.take 20) (standF bs) (vminF l)), .int .i64 (bes2F hi (ls.take 60) (own.take 20) (standF bs) (vmaxF l))]), .k 115 (.tuple #[.int .i64 (bes1F hi (ls.take 60) (own.take 20) (standF bs) (vminF l)), .int .i64 (bes2F hi (ls.take 60) (own.take 20) (standF bs) (vmaxF l))]), .k 125 (.int .i64 (bes1F hi (ls.take 60) (own.take 20) (standF bs) (vminF l))), .k 126 (.int .i64 (bes2F hi (ls.take 60) (own.take 20) (standF bs) (vmaxF l))), .k 14 (.int .i64 (bes1F hi (ls.take 60) (own.take 20) (standF bs) (vminF l))), .k 15 (.int .i64 (bes2F hi (ls.take 60) (own.take 20) (standF bs) (vmaxF l)))] (fun _ _ _ _ => True) [0, 1, 2, 3, 4, 5, 6, 7, 8, 9] [0, 2, 4, 6, 7, 8] [(14, 12, 2, 16), (99, 9, 1, 100), (0, 0, 9, 9), (0, 10, 2, 2)] hst32 ?_ ?_ ?_
  · exact fun _ _ _ _ _ _ _ _ _ _ h => h
  · refine ⟨?_, ?_, ?_, ?_, ?_, ?_, trivial⟩
    · exact s4 rfl (fun _ _ _ h => h) fun cx => run_loadB (n := 6) rfl (by kernel_rfl) (by kernel_rfl) (cx.out 8 rfl) (cx.blk (cx.init 4 _ rfl) rfl) (Nat.le_of_ble_eq_true rfl) rfl
    · exact s4 rfl (fun _ _ _ h => h) fun cx => run_loadB (n := 2) rfl (by kernel_rfl) (by kernel_rfl) (cx.anc 1 rfl) (cx.blk (cx.init 2 _ rfl) rfl) (Nat.le_of_ble_eq_true rfl) rfl
    · exact s4 rfl (fun _ _ _ h => h) fun cx => run_load1 rfl (by kernel_rfl) (cx.anc 3 rfl) ((cx.blk (cx.init 2 _ rfl) rfl).cell 2)
    · exact s4 rfl (fun _ _ _ h => h) fun cx => run_load1 rfl (by kernel_rfl) (cx.anc 5 rfl) ((cx.blk (cx.init 2 _ rfl) rfl).cell 4)
    · exact sv0 rfl rfl rfl rfl rfl (fun _ _ _ h => h) fun ρ β W X cx => by
        have fF122 : ρ (.tmp 122) = .slice SA bs.length sc := (cx.anc 6 rfl)
        simp [go_sem, fF122]
    · exact sv_call rfl rfl rfl rfl rfl (fun _ _ _ h => h) fun ρ β W X cx => ⟨_, _, run_callF (args := #[.agg #[.int .i64 (vminF l), .int .i64 (vmaxF l), .int .i64 (vpgF l), .int .i64 (vslF l), .bool (vhotF l), .slice A30_5 ((vrowF l).length) c30_5], .agg #[.int .i64 hi, .slice A25_3 ((ls.take 60).length) c25_3], .slice A25q_3 ((own.take 20).length) c25q_3, .iface 43 (.slice SA bs.length sc)]) rfl cx.sees rfl (by kernel_rfl) (map4 (cx.anc 0 rfl) (cx.anc 2 rfl) (cx.anc 4 rfl) (cx.anc 7 rfl)), beside_any _ _ _ _ _ _ _ _ _ _ _ (ls.take 60) _ _ (own.take 20) _ _ _ _ (At.of_own (cx.row (cx.init 0 _ rfl) rfl)) (by first | omega | decide | (simp; done) | (simp; omega)) (At.of_own (cx.row (cx.init 1 _ rfl) rfl)) (by first | omega | decide | (simp; done) | (simp; omega)) (stand_ok _ _ _ bs _ (rfl) (hSA.ext cx.upd.to_ext) hbs)⟩
  intro σ β X W37 hD hX hst37 fr hfr
  simp only [zM, exq 0 (hX 0 _ rfl), exq 1 (hX 1 _ rfl), exq 2 (hX 2 _ rfl), exq 3 (hX 3 _ rfl), exq 4 (hX 4 _ rfl), exq 5 (hX 5 _ rfl), exq 6 (hX 6 _ rfl), exq 7 (hX 7 _ rfl), exq 8 (hX 8 _ rfl), exq 9 (hX 9 _ rfl)] at hst37
  dsimp only [mgT, vals, List.take, List.drop, List.cons_append, List.nil_append] at hfr
  clear hX hD; subst hfr; clear σ β X
  refine then_normal ?_
  refine wp_seq ?_
  refine wp_region_T [0, 0, 2, 0, 8, 0, 32, 96, 255, 511, 1023, 1023, 2047, 8191] [[5], [], [8], [], [8], [], [8], [], [6, 7, 9]] [] [] [.c 128 (.agg #[.int .i64 (turnF (vminF l) (kk : Int)), .int .i64 (turnF (vmaxF l) (kk : Int)), .int .i64 (vpgF l), .int .i64 (vslF l), .bool (vhotF l), .slice A30_5 ((vrowF l).length) c30_5]), .k 129 (.pointer (some ⟨B10_9, 0, none⟩)), .c 130 (.agg #[.int .i64 (turnF hi (kk : Int)), .slice Ai ((trn kk (ls.take 60)).length) Ci]), .k 131 (.pointer (some ⟨B10_9, 2, none⟩)), .c 132 (.slice Aj ((trn kk (own.take 20)).length) Cj), .k 133 (.pointer (some ⟨B10_9, 4, none⟩)), .c 134 (.slice A95_28 125 125), .c 135 (.iface 43 (.slice A95_28 125 125)), .c 136 (.tuple #[.int .i64 (bes1F (turnF hi (kk : Int)) (trn kk (ls.take 60)) (trn kk (own.take 20)) (standF RT) (turnF (vminF l) (kk : Int))), .int .i64 (bes2F (turnF hi (kk : Int)) (trn kk (ls.take 60)) (trn kk (own.take 20)) (standF RT) (turnF (vmaxF l) (kk : Int)))]), .k 127 (.tuple #[.int .i64 (bes1F (turnF hi (kk : Int)) (trn kk (ls.take 60)) (trn kk (own.take 20)) (standF RT) (turnF (vminF l) (kk : Int))), .int .i64 (bes2F (turnF hi (kk : Int)) (trn kk (ls.take 60)) (trn kk (own.take 20)) (standF RT) (turnF (vmaxF l) (kk : Int)))]), .k 137 (.int .i64 (bes1F (turnF hi (kk : Int)) (trn kk (ls.take 60)) (trn kk (own.take 20)) (standF RT) (turnF (vminF l) (kk : Int)))), .k 138 (.int .i64 (bes2F (turnF hi (kk : Int)) (trn kk (ls.take 60)) (trn kk (own.take 20)) (standF RT) (turnF (vmaxF l) (kk : Int)))), .k 16 (.int .i64 (bes1F (turnF hi (kk : Int)) (trn kk (ls.take 60)) (trn kk (own.take 20)) (standF RT) (turnF (vminF l) (kk : Int)))), .k 17 (.int .i64 (bes2F (turnF hi (kk : Int)) (trn kk (ls.take 60)) (trn kk (own.take 20)) (standF RT) (turnF (vmaxF l) (kk : Int))))] (fun _ _ _ _ => True) [0, 1, 2, 3, 4, 5, 6, 7, 8, 9] [0, 2, 4, 6, 7, 8] [(16, 12, 2, 18), (109, 9, 1, 110), (0, 0, 9, 9), (0, 10, 2, 2)] hst37 ?_ ?_ ?_
  · exact fun _ _ _ _ _ _ _ _ _ _ h => h
  · refine ⟨?_, ?_, ?_, ?_, ?_, ?_, trivial⟩
    · exact s4 rfl (fun _ _ _ h => h) fun cx => run_loadB (n := 6) rfl (by kernel_rfl) (by kernel_rfl) (cx.out 9 rfl) (cx.blk (cx.init 5 _ rfl) rfl) (Nat.le_of_ble_eq_true rfl) rfl
    · exact s4 rfl (fun _ _ _ h => h) fun cx => run_loadB (n := 2) rfl (by kernel_rfl) (by kernel_rfl) (cx.anc 1 rfl) (cx.blk (cx.init 8 _ rfl) rfl) (Nat.le_of_ble_eq_true rfl) rfl
    · exact s4 rfl (fun _ _ _ h => h) fun cx => run_load1 rfl (by kernel_rfl) (cx.anc 3 rfl) ((cx.blk (cx.init 8 _ rfl) rfl).cell 2)
    · exact s4 rfl (fun _ _ _ h => h) fun cx => run_load1 rfl (by kernel_rfl) (cx.anc 5 rfl) ((cx.blk (cx.init 8 _ rfl) rfl).cell 4)
    · exact sv0 rfl rfl rfl rfl rfl (fun _ _ _ h => h) fun ρ β W X cx => by
        have fF134 : ρ (.tmp 134) = .slice A95_28 125 125 := (cx.anc 6 rfl)
        simp [go_sem, fF134]
    · exact sv_call rfl rfl rfl rfl rfl (fun _ _ _ h => h) fun ρ β W X cx => ⟨_, _, run_callF (args := #[.agg #[.int .i64 (turnF (vminF l) (kk : Int)), .int .i64 (turnF (vmaxF l) (kk : Int)), .int .i64 (vpgF l), .int .i64 (vslF l), .bool (vhotF l), .slice A30_5 ((vrowF l).length) c30_5], .agg #[.int .i64 (turnF hi (kk : Int)), .slice Ai ((trn kk (ls.take 60)).length) Ci], .slice Aj ((trn kk (own.take 20)).length) Cj, .iface 43 (.slice A95_28 125 125)]) rfl cx.sees rfl (by kernel_rfl) (map4 (cx.anc 0 rfl) (cx.anc 2 rfl) (cx.anc 4 rfl) (cx.anc 7 rfl)), beside_any _ _ _ _ _ _ _ _ _ _ _ (trn kk (ls.take 60)) _ _ (trn kk (own.take 20)) _ _ _ _ (At.of_own (cx.row (cx.init 6 _ rfl) rfl)) (by first | omega | decide | (simp; done) | (simp; omega)) (At.of_own (cx.row (cx.init 7 _ rfl) rfl)) (by first | omega | decide | (simp; done) | (simp; omega)) (stand_ok _ _ _ RT _ (hRl.symm) (At.of_own (cx.row (cx.init 9 _ rfl) rfl)) hRu)⟩
  intro σ β X W38 hD hX hst38 fr hfr
  simp only [zM, exq 0 (hX 0 _ rfl), exq 1 (hX 1 _ rfl), exq 2 (hX 2 _ rfl), exq 3 (hX 3 _ rfl), exq 4 (hX 4 _ rfl), exq 5 (hX 5 _ rfl), exq 6 (hX 6 _ rfl), exq 7 (hX 7 _ rfl), exq 8 (hX 8 _ rfl), exq 9 (hX 9 _ rfl)] at hst38
  dsimp only [mgT, vals, List.take, List.drop, List.cons_append, List.nil_append] at hfr
  clear hX hD; subst hfr; clear σ β X
  refine then_normal ?_
  refine wp_seq ?_
  refine wp_region_T [0, 0, 2, 0, 8, 24, 63, 127, 255, 255, 0, 1535, 4095] [[4], [], [2], [], [2], [], [3], [], [], [], [], [11]] [[], [], [], [], [], [], [10], [], [], [], [11], [12]] [[], [], [], [], [], [], [], [], [], [], [], [11]] [.c 140 (.agg #[.int .i64 (vminF l), .int .i64 (vmaxF l), .int .i64 (vpgF l), .int .i64 (vslF l), .bool (vhotF l), .slice A30_5 ((vrowF l).length) c30_5]), .k 141 (.pointer (some ⟨B4_1, 3, none⟩)), .c 142 (.int .i64 hz), .k 143 (.pointer (some ⟨B4_1, 4, none⟩)), .c 144 (.slice SA bs.length sc), .c 145 (.iface 43 (.slice SA bs.length sc)), .a 146, .a 139, .a 147, .c 148 (.bool (oldF (standF bs) hz (vminF l) || fzX (standF bs) (vmaxF l))), .a 18, .n, .k 19 (.bool (oldF (standF bs) hz (vminF l) || fzX (standF bs) (vmaxF l)))] (fun ix σ β X => match ix with | 0 => True | 1 => True | 2 => True | 3 => True | 4 => True | 5 => True | 6 => σ 146 = .tuple #[.agg #[.int .i64 (fzA hz (standF bs) (vminF l)), .int .i64 (if fzX (standF bs) (vmaxF l) then 0 else (vmaxF l)), .int .i64 (if fzX (standF bs) (vmaxF l) then -1 else (vpgF l)), .int .i64 (if fzX (standF bs) (vmaxF l) then 0 else (vslF l)), .bool (vhotF l), .slice (sA (tg (tg (β 146) 0) 5)) ((vrowF l).length) (sC (tg (tg (β 146) 0) 5))], .bool (oldF (standF bs) hz (vminF l) || fzX (standF bs) (vmaxF l))] ∧ X 10 = eO 103 3 (.slice (sA (tg (tg (β 146) 0) 5)) ((vrowF l).length) (sC (tg (tg (β 146) 0) 5))) ((vrowF l).length) (flatR (vrowF l)) | 7 => σ 139 = .tuple #[.agg #[.int .i64 (fzA hz (standF bs) (vminF l)), .int .i64 (if fzX (standF bs) (vmaxF l) then 0 else (vmaxF l)), .int .i64 (if fzX (standF bs) (vmaxF l) then -1 else (vpgF l)), .int .i64 (if fzX (standF bs) (vmaxF l) then 0 else (vslF l)), .bool (vhotF l), .slice (sA (tg (tg (β 146) 0) 5)) ((vrowF l).length) (sC (tg (tg (β 146) 0) 5))], .bool (oldF (standF bs) hz (vminF l) || fzX (standF bs) (vmaxF l))] | 8 => σ 147 = .agg #[.int .i64 (fzA hz (standF bs) (vminF l)), .int .i64 (if fzX (standF bs) (vmaxF l) then 0 else (vmaxF l)), .int .i64 (if fzX (standF bs) (vmaxF l) then -1 else (vpgF l)), .int .i64 (if fzX (standF bs) (vmaxF l) then 0 else (vslF l)), .bool (vhotF l), .slice (sA (tg (tg (β 146) 0) 5)) ((vrowF l).length) (sC (tg (tg (β 146) 0) 5))] | 9 => True | 10 => σ 18 = .pointer (some ⟨(pb (β 18)), 0, none⟩) ∧ X 11 = eB (pb (β 18)) 27 #[.int .i64 0, .int .i64 0, .int .i64 0, .int .i64 0, .bool false, .slice none 0 0] | 11 => X 12 = eB (pb (β 18)) 27 #[.int .i64 (fzA hz (standF bs) (vminF l)), .int .i64 (if fzX (standF bs) (vmaxF l) then 0 else (vmaxF l)), .int .i64 (if fzX (standF bs) (vmaxF l) then -1 else (vpgF l)), .int .i64 (if fzX (standF bs) (vmaxF l) then 0 else (vslF l)), .bool (vhotF l), .slice (sA (tg (tg (β 146) 0) 5)) ((vrowF l).length) (sC (tg (tg (β 146) 0) 5))] | _ => True) [0, 1, 2, 3, 4, 5, 6, 7, 8, 9, 10, 12] [0, 2, 4, 5, 6, 7, 8, 9, 10, 11] [(18, 10, 3, 20), (119, 7, 1, 120), (0, 0, 7, 7), (0, 8, 2, 2)] hst38 ?_ ?_ ?_
  · exact fun ix _ _ _ _ _ _ hs hb hx h => match ix, h with
    | 6, h => by dsimp only at h ⊢; rw [← hs 146 rfl, ← hb 146 rfl, ← hx 10 rfl]; exact h
    | 7, h => by dsimp only at h ⊢; rw [← hs 139 rfl, ← hb 146 rfl]; exact h
    | 8, h => by dsimp only at h ⊢; rw [← hs 147 rfl, ← hb 146 rfl]; exact h
    | 10, h => by dsimp only at h ⊢; rw [← hs 18 rfl, ← hb 18 rfl, ← hx 11 rfl]; exact h
    | 11, h => by dsimp only at h ⊢; rw [← hb 18 rfl, ← hb 146 rfl, ← hx 12 rfl]; exact h
    | 0, _ | 1, _ | 2, _ | 3, _ | 4, _ | 5, _ | 9, _ | _ + 12, _ => trivial
  · refine ⟨?_, ?_, ?_, ?_, ?_, ?_, ?_, ?_, ?_, ?_, trivial⟩
    · exact s4 rfl (fun _ _ _ h => h) fun cx => run_loadB (n := 6) rfl (by kernel_rfl) (by kernel_rfl) (cx.out 8 rfl) (cx.blk (cx.init 4 _ rfl) rfl) (Nat.le_of_ble_eq_true rfl) rfl
    · exact s4 rfl (fun _ _ _ h => h) fun cx => run_load1 rfl (by kernel_rfl) (cx.anc 1 rfl) ((cx.blk (cx.init 2 _ rfl) rfl).cell 3)
    · exact s4 rfl (fun _ _ _ h => h) fun cx => run_load1 rfl (by kernel_rfl) (cx.anc 3 rfl) ((cx.blk (cx.init 2 _ rfl) rfl).cell 4)
    · exact sv0 rfl rfl rfl rfl rfl (fun _ _ _ h => h) fun ρ β W X cx => by
        have fF144 : ρ (.tmp 144) = .slice SA bs.length sc := (cx.anc 4 rfl)
        simp [go_sem, fF144]
    · refine sv_any rfl rfl fun ρ β W X cx => ?_
      refine DoesU.call (run_callF (args := #[.agg #[.int .i64 (vminF l), .int .i64 (vmaxF l), .int .i64 (vpgF l), .int .i64 (vslF l), .bool (vhotF l), .slice A30_5 ((vrowF l).length) c30_5], .int .i64 hz, .iface 43 (.slice SA bs.length sc)]) rfl cx.sees rfl (by kernel_rfl) (map3 (cx.anc 0 rfl) (cx.anc 2 rfl) (cx.anc 5 rfl))) ?_
      refine (freeze_any _ _ _ _ _ _ _ (vrowF l) _ _ _ _ _ (At.of_ownN (cx.row (cx.init 3 _ rfl) rfl)) (by first | omega | decide | (simp; done) | (simp; omega)) (stand_ok _ _ _ bs _ (rfl) (hSA.ext cx.upd.to_ext) hbs) (hN.ext cx.upd.to_ext)).mono ?_
      rintro e W1 ⟨A4, c4, rfl, ho, hx⟩
      refine ⟨_, rfl, post_call [eO 103 3 (.slice A4 ((vrowF l).length) c4) ((vrowF l).length) (flatR (vrowF l))] rfl rfl hx (one_new (eO_new ho)) (List.pairwise_singleton _ _) (fun σ β' X' hs hb hv hN => ?_)⟩
      have hv1 := (hv 146 rfl).1; have hv2 := (hv 146 rfl).2
      exact ⟨hv1.trans (by rw [hv2]; rfl), (by rw [hv2]; exact (List.cons.inj hN).1)⟩
    · exact sv rfl rfl rfl rfl rfl _ (fun _ _ _ h => h) (fun β β' h => by rw [h 146 (by decide)]) fun ρ β W X cx => run_move' rfl (dTn (cx.anc 6 rfl)).1
    · exact sv rfl rfl rfl rfl rfl _ (fun _ _ _ h => h) (fun β β' h => by rw [h 146 (by decide)]) fun ρ β W X cx => run_extract' rfl (dTn (cx.anc 7 rfl)) rfl
    · exact s4 rfl (fun _ _ _ h => h) fun cx => run_extract' rfl (dTn (cx.anc 7 rfl)) rfl
    · refine sv_any rfl rfl fun ρ β W X cx => ?_
      exact dv_alloc (cs := #[.int .i64 0, .int .i64 0, .int .i64 0, .int .i64 0, .bool false, .slice none 0 0]) rfl (by kernel_rfl) rfl rfl (fun σ β' X' hs hb hv hx => ⟨hv, hx⟩)
    · refine sv_any rfl rfl fun ρ β W X cx => ?_
      exact dv_store (n := 6) rfl (dTn (cx.anc 10 rfl)).1 (dTn (cx.anc 8 rfl)) (by kernel_rfl) rfl rfl cx (dTn (cx.anc 10 rfl)).2 rfl (Nat.le_of_ble_eq_true rfl) rfl rfl rfl rfl (fun σ β' X' hs hb hx => by rw [hb 18, hb 146]; exact hx)
  intro σ β X W39 hD hX hst39 fr hfr
  obtain ⟨A146_39, hu_A146_39⟩ : ∃ z, sA (tg (tg (β 146) 0) 5) = z := ⟨_, rfl⟩
  obtain ⟨c146_39, hu_c146_39⟩ : ∃ z, sC (tg (tg (β 146) 0) 5) = z := ⟨_, rfl⟩
  obtain ⟨B18_39, hu_B18_39⟩ : ∃ z, pb (β 18) = z := ⟨_, rfl⟩
  simp only [zM, exq 0 (hX 0 _ rfl), exq 1 (hX 1 _ rfl), exq 2 (hX 2 _ rfl), exq 3 (hX 3 _ rfl), exq 4 (hX 4 _ rfl), exq 5 (hX 5 _ rfl), exq 6 (hX 6 _ rfl), exq 7 (hX 7 _ rfl), exq 8 (hX 8 _ rfl), exq 9 (hX 9 _ rfl), exq 10 ((dTn (hD 6 lq)).2), exq 12 ((dTn (hD 11 lq))), hu_A146_39, hu_c146_39, hu_B18_39] at hst39
  dsimp only [mgT, vals, List.take, List.drop, List.cons_append, List.nil_append] at hfr
  simp only [ed 146 ((dTn (hD 6 lq)).1), ed 139 ((dTn (hD 7 lq))), ed 147 ((dTn (hD 8 lq))), ed 18 ((dTn (hD 10 lq)).1), hu_A146_39, hu_c146_39, hu_B18_39] at hfr
  clear hX hD hu_A146_39 hu_c146_39 hu_B18_39; subst hfr; clear σ β X
  refine then_normal ?_
  refine wp_seq ?_
  refine wp_region_T [0, 0, 2, 0, 8, 24, 63, 127, 255, 255, 0, 1535, 4095] [[5], [], [8], [], [8], [], [3, 9], [], [], [], [], [13]] [[], [], [], [], [], [], [12], [], [], [], [13], [14]] [[], [], [], [], [], [], [], [], [], [], [], [13]] [.c 150 (.agg #[.int .i64 (turnF (vminF l) (kk : Int)), .int .i64 (turnF (vmaxF l) (kk : Int)), .int .i64 (vpgF l), .int .i64 (vslF l), .bool (vhotF l), .slice A30_5 ((vrowF l).length) c30_5]), .k 151 (.pointer (some ⟨B10_9, 3, none⟩)), .c 152 (.int .i64 (turnF hz (kk : Int))), .k 153 (.pointer (some ⟨B10_9, 4, none⟩)), .c 154 (.slice A95_28 125 125), .c 155 (.iface 43 (.slice A95_28 125 125)), .a 156, .a 149, .a 157, .c 158 (.bool (oldF (standF RT) (turnF hz (kk : Int)) (turnF (vminF l) (kk : Int)) || fzX (standF RT) (turnF (vmaxF l) (kk : Int)))), .a 20, .n, .k 21 (.bool (oldF (standF RT) (turnF hz (kk : Int)) (turnF (vminF l) (kk : Int)) || fzX (standF RT) (turnF (vmaxF l) (kk : Int))))] (fun ix σ β X => match ix with | 0 => True | 1 => True | 2 => True | 3 => True | 4 => True | 5 => True | 6 => σ 156 = .tuple #[.agg #[.int .i64 (fzA (turnF hz (kk : Int)) (standF RT) (turnF (vminF l) (kk : Int))), .int .i64 (if fzX (standF RT) (turnF (vmaxF l) (kk : Int)) then 0 else (turnF (vmaxF l) (kk : Int))), .int .i64 (if fzX (standF RT) (turnF (vmaxF l) (kk : Int)) then -1 else (vpgF l)), .int .i64 (if fzX (standF RT) (turnF (vmaxF l) (kk : Int)) then 0 else (vslF l)), .bool (vhotF l), .slice (sA (tg (tg (β 156) 0) 5)) ((vrowF l).length) (sC (tg (tg (β 156) 0) 5))], .bool (oldF (standF RT) (turnF hz (kk : Int)) (turnF (vminF l) (kk : Int)) || fzX (standF RT) (turnF (vmaxF l) (kk : Int)))] ∧ X 12 = eO 103 3 (.slice (sA (tg (tg (β 156) 0) 5)) ((vrowF l).length) (sC (tg (tg (β 156) 0) 5))) ((vrowF l).length) (flatR (vrowF l)) | 7 => σ 149 = .tuple #[.agg #[.int .i64 (fzA (turnF hz (kk : Int)) (standF RT) (turnF (vminF l) (kk : Int))), .int .i64 (if fzX (standF RT) (turnF (vmaxF l) (kk : Int)) then 0 else (turnF (vmaxF l) (kk : Int))), .int .i64 (if fzX (standF RT) (turnF (vmaxF l) (kk : Int)) then -1 else (vpgF l)), .int .i64 (if fzX (standF RT) (turnF (vmaxF l) (kk : Int)) then 0 else (vslF l)), .bool (vhotF l), .slice (sA (tg (tg (β 156) 0) 5)) ((vrowF l).length) (sC (tg (tg (β 156) 0) 5))], .bool (oldF (standF RT) (turnF hz (kk : Int)) (turnF (vminF l) (kk : Int)) || fzX (standF RT) (turnF (vmaxF l) (kk : Int)))] | 8 => σ 157 = .agg #[.int .i64 (fzA (turnF hz (kk : Int)) (standF RT) (turnF (vminF l) (kk : Int))), .int .i64 (if fzX (standF RT) (turnF (vmaxF l) (kk : Int)) then 0 else (turnF (vmaxF l) (kk : Int))), .int .i64 (if fzX (standF RT) (turnF (vmaxF l) (kk : Int)) then -1 else (vpgF l)), .int .i64 (if fzX (standF RT) (turnF (vmaxF l) (kk : Int)) then 0 else (vslF l)), .bool (vhotF l), .slice (sA (tg (tg (β 156) 0) 5)) ((vrowF l).length) (sC (tg (tg (β 156) 0) 5))] | 9 => True | 10 => σ 20 = .pointer (some ⟨(pb (β 20)), 0, none⟩) ∧ X 13 = eB (pb (β 20)) 27 #[.int .i64 0, .int .i64 0, .int .i64 0, .int .i64 0, .bool false, .slice none 0 0] | 11 => X 14 = eB (pb (β 20)) 27 #[.int .i64 (fzA (turnF hz (kk : Int)) (standF RT) (turnF (vminF l) (kk : Int))), .int .i64 (if fzX (standF RT) (turnF (vmaxF l) (kk : Int)) then 0 else (turnF (vmaxF l) (kk : Int))), .int .i64 (if fzX (standF RT) (turnF (vmaxF l) (kk : Int)) then -1 else (vpgF l)), .int .i64 (if fzX (standF RT) (turnF (vmaxF l) (kk : Int)) then 0 else (vslF l)), .bool (vhotF l), .slice (sA (tg (tg (β 156) 0) 5)) ((vrowF l).length) (sC (tg (tg (β 156) 0) 5))] | _ => True) [0, 1, 2, 3, 4, 5, 6, 7, 8, 9, 10, 11, 12, 14] [0, 2, 4, 5, 6, 7, 8, 9, 10, 11] [(20, 10, 3, 22), (127, 7, 1, 128), (0, 0, 7, 7), (0, 8, 2, 2)] hst39 ?_ ?_ ?_
  · exact fun ix _ _ _ _ _ _ hs hb hx h => match ix, h with
    | 6, h => by dsimp only at h ⊢; rw [← hs 156 rfl, ← hb 156 rfl, ← hx 12 rfl]; exact h
    | 7, h => by dsimp only at h ⊢; rw [← hs 149 rfl, ← hb 156 rfl]; exact h
    | 8, h => by dsimp only at h ⊢; rw [← hs 157 rfl, ← hb 156 rfl]; exact h
    | 10, h => by dsimp only at h ⊢; rw [← hs 20 rfl, ← hb 20 rfl, ← hx 13 rfl]; exact h
    | 11, h => by dsimp only at h ⊢; rw [← hb 20 rfl, ← hb 156 rfl, ← hx 14 rfl]; exact h
    | 0, _ | 1, _ | 2, _ | 3, _ | 4, _ | 5, _ | 9, _ | _ + 12, _ => trivial
  · refine ⟨?_, ?_, ?_, ?_, ?_, ?_, ?_, ?_, ?_, ?_, trivial⟩
    · exact s4 rfl (fun _ _ _ h => h) fun cx => run_loadB (n := 6) rfl (by kernel_rfl) (by kernel_rfl) (cx.out 9 rfl) (cx.blk (cx.init 5 _ rfl) rfl) (Nat.le_of_ble_eq_true rfl) rfl
    · exact s4 rfl (fun _ _ _ h => h) fun cx => run_load1 rfl (by kernel_rfl) (cx.anc 1 rfl) ((cx.blk (cx.init 8 _ rfl) rfl).cell 3)
    · exact s4 rfl (fun _ _ _ h => h) fun cx => run_load1 rfl (by kernel_rfl) (cx.anc 3 rfl) ((cx.blk (cx.init 8 _ rfl) rfl).cell 4)
    · exact sv0 rfl rfl rfl rfl rfl (fun _ _ _ h => h) fun ρ β W X cx => by
        have fF154 : ρ (.tmp 154) = .slice A95_28 125 125 := (cx.anc 4 rfl)
        simp [go_sem, fF154]
    · refine sv_any rfl rfl fun ρ β W X cx => ?_
      refine DoesU.call (run_callF (args := #[.agg #[.int .i64 (turnF (vminF l) (kk : Int)), .int .i64 (turnF (vmaxF l) (kk : Int)), .int .i64 (vpgF l), .int .i64 (vslF l), .bool (vhotF l), .slice A30_5 ((vrowF l).length) c30_5], .int .i64 (turnF hz (kk : Int)), .iface 43 (.slice A95_28 125 125)]) rfl cx.sees rfl (by kernel_rfl) (map3 (cx.anc 0 rfl) (cx.anc 2 rfl) (cx.anc 5 rfl))) ?_
      refine (freeze_any _ _ _ _ _ _ _ (vrowF l) _ _ _ _ _ (At.of_ownN (cx.row (cx.init 3 _ rfl) rfl)) (by first | omega | decide | (simp; done) | (simp; omega)) (stand_ok _ _ _ RT _ (hRl.symm) (At.of_own (cx.row (cx.init 9 _ rfl) rfl)) hRu) (hN.ext cx.upd.to_ext)).mono ?_
      rintro e W1 ⟨A4, c4, rfl, ho, hx⟩
      refine ⟨_, rfl, post_call [eO 103 3 (.slice A4 ((vrowF l).length) c4) ((vrowF l).length) (flatR (vrowF l))] rfl rfl hx (one_new (eO_new ho)) (List.pairwise_singleton _ _) (fun σ β' X' hs hb hv hN => ?_)⟩
      have hv1 := (hv 156 rfl).1; have hv2 := (hv 156 rfl).2
      exact ⟨hv1.trans (by rw [hv2]; rfl), (by rw [hv2]; exact (List.cons.inj hN).1)⟩
    · exact sv rfl rfl rfl rfl rfl _ (fun _ _ _ h => h) (fun β β' h => by rw [h 156 (by decide)]) fun ρ β W X cx => run_move' rfl (dTn (cx.anc 6 rfl)).1
    · exact sv rfl rfl rfl rfl rfl _ (fun _ _ _ h => h) (fun β β' h => by rw [h 156 (by decide)]) fun ρ β W X cx => run_extract' rfl (dTn (cx.anc 7 rfl)) rfl
    · exact s4 rfl (fun _ _ _ h => h) fun cx => run_extract' rfl (dTn (cx.anc 7 rfl)) rfl
    · refine sv_any rfl rfl fun ρ β W X cx => ?_
      exact dv_alloc (cs := #[.int .i64 0, .int .i64 0, .int .i64 0, .int .i64 0, .bool false, .slice none 0 0]) rfl (by kernel_rfl) rfl rfl (fun σ β' X' hs hb hv hx => ⟨hv, hx⟩)
    · refine sv_any rfl rfl fun ρ β W X cx => ?_
      exact dv_store (n := 6) rfl (dTn (cx.anc 10 rfl)).1 (dTn (cx.anc 8 rfl)) (by kernel_rfl) rfl rfl cx (dTn (cx.anc 10 rfl)).2 rfl (Nat.le_of_ble_eq_true rfl) rfl rfl rfl rfl (fun σ β' X' hs hb hx => by rw [hb 20, hb 156]; exact hx)
  intro σ β X W40 hD hX hst40 fr hfr
  obtain ⟨A156_40, hu_A156_40⟩ : ∃ z, sA (tg (tg (β 156) 0) 5) = z := ⟨_, rfl⟩
  obtain ⟨c156_40, hu_c156_40⟩ : ∃ z, sC (tg (tg (β 156) 0) 5) = z := ⟨_, rfl⟩
  obtain ⟨B20_40, hu_B20_40⟩ : ∃ z, pb (β 20) = z := ⟨_, rfl⟩
  simp only [zM, exq 0 (hX 0 _ rfl), exq 1 (hX 1 _ rfl), exq 2 (hX 2 _ rfl), exq 3 (hX 3 _ rfl), exq 4 (hX 4 _ rfl), exq 5 (hX 5 _ rfl), exq 6 (hX 6 _ rfl), exq 7 (hX 7 _ rfl), exq 8 (hX 8 _ rfl), exq 9 (hX 9 _ rfl), exq 10 (hX 10 _ rfl), exq 11 (hX 11 _ rfl), exq 12 ((dTn (hD 6 lq)).2), exq 14 ((dTn (hD 11 lq))), hu_A156_40, hu_c156_40, hu_B20_40] at hst40
  dsimp only [mgT, vals, List.take, List.drop, List.cons_append, List.nil_append] at hfr
  simp only [ed 156 ((dTn (hD 6 lq)).1), ed 149 ((dTn (hD 7 lq))), ed 157 ((dTn (hD 8 lq))), ed 20 ((dTn (hD 10 lq)).1), hu_A156_40, hu_c156_40, hu_B20_40] at hfr
  clear hX hD hu_A156_40 hu_c156_40 hu_B20_40; subst hfr; clear σ β X
  refine then_normal ?_
  refine wp_seq ?_
  have hd42 : ((visF hi (ls.take 60) (own.take 20) (standF bs) (vminF l) (vmaxF l)) == (visF (turnF hi (kk : Int)) (trn kk (ls.take 60)) (trn kk (own.take 20)) (standF RT) (turnF (vminF l) (kk : Int)) (turnF (vmaxF l) (kk : Int)))) = true := by rw [T_vis hk0 hg]; exact beq_self_eq_true _
  have hd43 : ((turnF (bes1F hi (ls.take 60) (own.take 20) (standF bs) (vminF l)) (kk : Int)) == (bes1F (turnF hi (kk : Int)) (trn kk (ls.take 60)) (trn kk (own.take 20)) (standF RT) (turnF (vminF l) (kk : Int)))) = true := by rw [T_bes1 hk0 hg]; exact beq_self_eq_true _
  have hd44 : ((turnF (bes2F hi (ls.take 60) (own.take 20) (standF bs) (vmaxF l)) (kk : Int)) == (bes2F (turnF hi (kk : Int)) (trn kk (ls.take 60)) (trn kk (own.take 20)) (standF RT) (turnF (vmaxF l) (kk : Int)))) = true := by rw [T_bes2 hk0 hg]; exact beq_self_eq_true _
  have hd45 : ((oldF (standF bs) hz (vminF l) || fzX (standF bs) (vmaxF l)) == (oldF (standF RT) (turnF hz (kk : Int)) (turnF (vminF l) (kk : Int)) || fzX (standF RT) (turnF (vmaxF l) (kk : Int)))) = true := by rw [T_old hk0 hg, T_fzX hk0 hg]; exact beq_self_eq_true _
  refine wp_region_T [0, 0, 2, 0, 8, 0, 32, 96, 255, 0, 0, 1024, 0, 4096, 0, 16384, 49152, 131071, 262143, 524287, 1048575, 1048575, 4194303, 1048575, 16777215, 33554431, 67108863, 134217727, 134217727, 536870911, 134217727, 2147483647, 4294967295, 8589934591, 17179869183, 17179869183, 68719476735, 137438953471, 274877906943] [[4], [], [2], [], [2], [], [2], [], [0, 1], [5], [], [8], [], [8], [], [8], [], [6, 7, 9]] [] [] [.c 159 (.agg #[.int .i64 (vminF l), .int .i64 (vmaxF l), .int .i64 (vpgF l), .int .i64 (vslF l), .bool (vhotF l), .slice A30_5 ((vrowF l).length) c30_5]), .k 160 (.pointer (some ⟨B4_1, 0, none⟩)), .c 161 (.agg #[.int .i64 hi, .slice A25_3 ((ls.take 60).length) c25_3]), .k 162 (.pointer (some ⟨B4_1, 2, none⟩)), .c 163 (.slice A25q_3 ((own.take 20).length) c25q_3), .k 164 (.pointer (some ⟨B4_1, 4, none⟩)), .c 165 (.slice SA bs.length sc), .c 166 (.iface 43 (.slice SA bs.length sc)), .c 167 (.bool (visF hi (ls.take 60) (own.take 20) (standF bs) (vminF l) (vmaxF l))), .c 168 (.agg #[.int .i64 (turnF (vminF l) (kk : Int)), .int .i64 (turnF (vmaxF l) (kk : Int)), .int .i64 (vpgF l), .int .i64 (vslF l), .bool (vhotF l), .slice A30_5 ((vrowF l).length) c30_5]), .k 169 (.pointer (some ⟨B10_9, 0, none⟩)), .c 170 (.agg #[.int .i64 (turnF hi (kk : Int)), .slice Ai ((trn kk (ls.take 60)).length) Ci]), .k 171 (.pointer (some ⟨B10_9, 2, none⟩)), .c 172 (.slice Aj ((trn kk (own.take 20)).length) Cj), .k 173 (.pointer (some ⟨B10_9, 4, none⟩)), .c 174 (.slice A95_28 125 125), .c 175 (.iface 43 (.slice A95_28 125 125)), .c 176 (.bool (visF (turnF hi (kk : Int)) (trn kk (ls.take 60)) (trn kk (own.take 20)) (standF RT) (turnF (vminF l) (kk : Int)) (turnF (vmaxF l) (kk : Int)))), .c 177 (.bool true), .k 178 (.bool true), .k 179 (.int .i64 (bes1F hi (ls.take 60) (own.take 20) (standF bs) (vminF l))), .k 180 (.int .i64 ((kk : Int))), .c 181 (.int .i64 (turnF (bes1F hi (ls.take 60) (own.take 20) (standF bs) (vminF l)) (kk : Int))), .k 182 (.int .i64 (bes1F (turnF hi (kk : Int)) (trn kk (ls.take 60)) (trn kk (own.take 20)) (standF RT) (turnF (vminF l) (kk : Int)))), .e 183 (.bool ((turnF (bes1F hi (ls.take 60) (own.take 20) (standF bs) (vminF l)) (kk : Int)) == (bes1F (turnF hi (kk : Int)) (trn kk (ls.take 60)) (trn kk (own.take 20)) (standF RT) (turnF (vminF l) (kk : Int))))) (.bool true) (congrArg Value.bool hd43), .k 184 (.bool true), .k 185 (.bool true), .k 186 (.int .i64 (bes2F hi (ls.take 60) (own.take 20) (standF bs) (vmaxF l))), .k 187 (.int .i64 ((kk : Int))), .c 188 (.int .i64 (turnF (bes2F hi (ls.take 60) (own.take 20) (standF bs) (vmaxF l)) (kk : Int))), .k 189 (.int .i64 (bes2F (turnF hi (kk : Int)) (trn kk (ls.take 60)) (trn kk (own.take 20)) (standF RT) (turnF (vmaxF l) (kk : Int)))), .e 190 (.bool ((turnF (bes2F hi (ls.take 60) (own.take 20) (standF bs) (vmaxF l)) (kk : Int)) == (bes2F (turnF hi (kk : Int)) (trn kk (ls.take 60)) (trn kk (own.take 20)) (standF RT) (turnF (vmaxF l) (kk : Int))))) (.bool true) (congrArg Value.bool hd44), .k 191 (.bool true), .k 192 (.bool true), .k 193 (.bool (oldF (standF bs) hz (vminF l) || fzX (standF bs) (vmaxF l))), .k 194 (.bool (oldF (standF RT) (turnF hz (kk : Int)) (turnF (vminF l) (kk : Int)) || fzX (standF RT) (turnF (vmaxF l) (kk : Int)))), .c 195 (.bool true), .k 196 (.bool true), .k 22 (.bool true)] (fun _ _ _ _ => True) [0, 1, 2, 3, 4, 5, 6, 7, 8, 9, 10, 11, 12, 13] [0, 2, 4, 6, 7, 8, 9, 11, 13, 15, 16, 17, 18, 22, 29, 36] [(22, 38, 1, 23), (136, 0, 38, 174)] hst40 ?_ ?_ ?_
  · exact fun _ _ _ _ _ _ _ _ _ _ h => h
  · refine ⟨?_, ?_, ?_, ?_, ?_, ?_, ?_, ?_, ?_, ?_, ?_, ?_, ?_, ?_, ?_, ?_, trivial⟩
    · exact s4 rfl (fun _ _ _ h => h) fun cx => run_loadB (n := 6) rfl (by kernel_rfl) (by kernel_rfl) (cx.out 8 rfl) (cx.blk (cx.init 4 _ rfl) rfl) (Nat.le_of_ble_eq_true rfl) rfl
    · exact s4 rfl (fun _ _ _ h => h) fun cx => run_loadB (n := 2) rfl (by kernel_rfl) (by kernel_rfl) (cx.anc 1 rfl) (cx.blk (cx.init 2 _ rfl) rfl) (Nat.le_of_ble_eq_true rfl) rfl
    · exact s4 rfl (fun _ _ _ h => h) fun cx => run_load1 rfl (by kernel_rfl) (cx.anc 3 rfl) ((cx.blk (cx.init 2 _ rfl) rfl).cell 2)
    · exact s4 rfl (fun _ _ _ h => h) fun cx => run_load1 rfl (by kernel_rfl) (cx.anc 5 rfl) ((cx.blk (cx.init 2 _ rfl) rfl).cell 4)
    · exact sv0 rfl rfl rfl rfl rfl (fun _ _ _ h => h) fun ρ β W X cx => by
        have fF165 : ρ (.tmp 165) = .slice SA bs.length sc := (cx.anc 6 rfl)
        simp [go_sem, fF165]
    · exact sv_call rfl rfl rfl rfl rfl (fun _ _ _ h => h) fun ρ β W X cx => ⟨_, _, run_callF (args := #[.agg #[.int .i64 (vminF l), .int .i64 (vmaxF l), .int .i64 (vpgF l), .int .i64 (vslF l), .bool (vhotF l), .slice A30_5 ((vrowF l).length) c30_5], .agg #[.int .i64 hi, .slice A25_3 ((ls.take 60).length) c25_3], .slice A25q_3 ((own.take 20).length) c25q_3, .iface 43 (.slice SA bs.length sc)]) rfl cx.sees rfl (by kernel_rfl) (map4 (cx.anc 0 rfl) (cx.anc 2 rfl) (cx.anc 4 rfl) (cx.anc 7 rfl)), visible_any _ _ _ _ _ _ _ _ _ _ _ (ls.take 60) _ _ (own.take 20) _ _ _ _ (At.of_own (cx.row (cx.init 0 _ rfl) rfl)) (by first | omega | decide | (simp; done) | (simp; omega)) (At.of_own (cx.row (cx.init 1 _ rfl) rfl)) (by first | omega | decide | (simp; done) | (simp; omega)) (stand_ok _ _ _ bs _ (rfl) (hSA.ext cx.upd.to_ext) hbs)⟩
    · exact s4 rfl (fun _ _ _ h => h) fun cx => run_loadB (n := 6) rfl (by kernel_rfl) (by kernel_rfl) (cx.out 9 rfl) (cx.blk (cx.init 5 _ rfl) rfl) (Nat.le_of_ble_eq_true rfl) rfl
    · exact s4 rfl (fun _ _ _ h => h) fun cx => run_loadB (n := 2) rfl (by kernel_rfl) (by kernel_rfl) (cx.anc 10 rfl) (cx.blk (cx.init 8 _ rfl) rfl) (Nat.le_of_ble_eq_true rfl) rfl
    · exact s4 rfl (fun _ _ _ h => h) fun cx => run_load1 rfl (by kernel_rfl) (cx.anc 12 rfl) ((cx.blk (cx.init 8 _ rfl) rfl).cell 2)
    · exact s4 rfl (fun _ _ _ h => h) fun cx => run_load1 rfl (by kernel_rfl) (cx.anc 14 rfl) ((cx.blk (cx.init 8 _ rfl) rfl).cell 4)
    · exact sv0 rfl rfl rfl rfl rfl (fun _ _ _ h => h) fun ρ β W X cx => by
        have fF174 : ρ (.tmp 174) = .slice A95_28 125 125 := (cx.anc 15 rfl)
        simp [go_sem, fF174]
    · exact sv_call rfl rfl rfl rfl rfl (fun _ _ _ h => h) fun ρ β W X cx => ⟨_, _, run_callF (args := #[.agg #[.int .i64 (turnF (vminF l) (kk : Int)), .int .i64 (turnF (vmaxF l) (kk : Int)), .int .i64 (vpgF l), .int .i64 (vslF l), .bool (vhotF l), .slice A30_5 ((vrowF l).length) c30_5], .agg #[.int .i64 (turnF hi (kk : Int)), .slice Ai ((trn kk (ls.take 60)).length) Ci], .slice Aj ((trn kk (own.take 20)).length) Cj, .iface 43 (.slice A95_28 125 125)]) rfl cx.sees rfl (by kernel_rfl) (map4 (cx.anc 9 rfl) (cx.anc 11 rfl) (cx.anc 13 rfl) (cx.anc 16 rfl)), visible_any _ _ _ _ _ _ _ _ _ _ _ (trn kk (ls.take 60)) _ _ (trn kk (own.take 20)) _ _ _ _ (At.of_own (cx.row (cx.init 6 _ rfl) rfl)) (by first | omega | decide | (simp; done) | (simp; omega)) (At.of_own (cx.row (cx.init 7 _ rfl) rfl)) (by first | omega | decide | (simp; done) | (simp; omega)) (stand_ok _ _ _ RT _ (hRl.symm) (At.of_own (cx.row (cx.init 9 _ rfl) rfl)) hRu)⟩
    · exact sv0 rfl rfl rfl rfl rfl (fun _ _ _ h => h.trans (congrArg Value.bool hd42)) fun ρ β W X cx => by
        have fF167 : ρ (.tmp 167) = .bool (visF hi (ls.take 60) (own.take 20) (standF bs) (vminF l) (vmaxF l)) := (cx.anc 8 rfl)
        have fF176 : ρ (.tmp 176) = .bool (visF (turnF hi (kk : Int)) (trn kk (ls.take 60)) (trn kk (own.take 20)) (standF RT) (turnF (vminF l) (kk : Int)) (turnF (vmaxF l) (kk : Int))) := (cx.anc 17 rfl)
        simp [go_sem, fF167, fF176]
    · exact sv_call_on rfl rfl rfl rfl rfl rfl (fun _ _ _ h => h) (fun _ _ _ _ cx => (cx.anc 19 rfl)) fun ρ β W X cx => ⟨_, _, run_callF (args := #[.int .i64 (bes1F hi (ls.take 60) (own.take 20) (standF bs) (vminF l)), .int .i64 ((kk : Int))]) rfl cx.sees rfl (by kernel_rfl) (map2 (cx.anc 20 rfl) (cx.anc 21 rfl)), turn_any (bes1F hi (ls.take 60) (own.take 20) (standF bs) (vminF l)) (kk : Int) _ ⟨by omega, by omega⟩⟩
    · exact sv_call_on rfl rfl rfl rfl rfl rfl (fun _ _ _ h => h) (fun _ _ _ _ cx => (cx.anc 26 rfl)) fun ρ β W X cx => ⟨_, _, run_callF (args := #[.int .i64 (bes2F hi (ls.take 60) (own.take 20) (standF bs) (vmaxF l)), .int .i64 ((kk : Int))]) rfl cx.sees rfl (by kernel_rfl) (map2 (cx.anc 27 rfl) (cx.anc 28 rfl)), turn_any (bes2F hi (ls.take 60) (own.take 20) (standF bs) (vmaxF l)) (kk : Int) _ ⟨by omega, by omega⟩⟩
    · exact sv0_on rfl rfl rfl rfl rfl rfl (fun _ _ _ h => h.trans (congrArg Value.bool hd45)) (fun _ _ _ _ cx => (cx.anc 33 rfl)) fun ρ β W X cx => by
        have fF193 : ρ (.tmp 193) = .bool (oldF (standF bs) hz (vminF l) || fzX (standF bs) (vmaxF l)) := (cx.anc 34 rfl)
        have fF194 : ρ (.tmp 194) = .bool (oldF (standF RT) (turnF hz (kk : Int)) (turnF (vminF l) (kk : Int)) || fzX (standF RT) (turnF (vmaxF l) (kk : Int))) := (cx.anc 35 rfl)
        simp [go_sem, fF193, fF194]
  intro σ β X W41 hD hX hst41 fr hfr
  simp only [zM, exq 0 (hX 0 _ rfl), exq 1 (hX 1 _ rfl), exq 2 (hX 2 _ rfl), exq 3 (hX 3 _ rfl), exq 4 (hX 4 _ rfl), exq 5 (hX 5 _ rfl), exq 6 (hX 6 _ rfl), exq 7 (hX 7 _ rfl), exq 8 (hX 8 _ rfl), exq 9 (hX 9 _ rfl), exq 10 (hX 10 _ rfl), exq 11 (hX 11 _ rfl), exq 12 (hX 12 _ rfl), exq 13 (hX 13 _ rfl)] at hst41
  dsimp only [mgT, vals, List.take, List.drop, List.cons_append, List.nil_append] at hfr
  clear hX hD; subst hfr; clear σ β X
  refine then_normal ?_
  refine wp_seq ?_
  have hd47 : ((turnF (busyF (own.take 20) (standF bs) (vmaxF l)) (kk : Int)) == (busyF (trn kk (own.take 20)) (standF RT) (turnF (vmaxF l) (kk : Int)))) = true := by rw [T_busy hk0 hg]; exact beq_self_eq_true _
  have hd48 : ((deadF (standF bs) hz (vminF l) (vmaxF l)) == (deadF (standF RT) (turnF hz (kk : Int)) (turnF (vminF l) (kk : Int)) (turnF (vmaxF l) (kk : Int)))) = true := by rw [T_dead hk0 hg]; exact beq_self_eq_true _
  have hd49 : ((allF (standF bs) hz (vminF l) (vmaxF l)) == (allF (standF RT) (turnF hz (kk : Int)) (turnF (vminF l) (kk : Int)) (turnF (vmaxF l) (kk : Int)))) = true := by rw [T_all hk0 hg]; exact beq_self_eq_true _
  refine wp_region_T [0, 1, 3, 7, 15, 31, 31, 95, 31, 287, 799, 2047, 31, 8191, 31, 31, 32799, 31, 131103, 393247, 1048575, 2097151, 4194303, 8388607, 16777215, 16777215, 50331647, 16777215, 150994943, 419430399, 1073741823, 16777215, 16777215, 4311744511, 16777215, 17196646399, 51556384767, 137438953471, 274877906943, 549755813887, 1099511627775, 2199023255551, 2199023255551, 6597069766655, 2199023255551, 19791209299967, 54975581388799, 140737488355327, 2199023255551, 2199023255551, 565148976676863, 2199023255551, 2253998836940799, 6757598464311295, 18014398509481983, 36028797018963967, 72057594037927935, 144115188075855871] [[], [], [], [], [], [4], [], [2], [], [2], [], [1], [], [], [5], [], [8], [], [8], [], [7, 9], [], [], [], [4], [], [2], [], [2], [], [], [5], [], [8], [], [8], [], [9], [], [], [], [4], [], [2], [], [2], [], [], [5], [], [8], [], [8], [], [9]] [] [] [.k 197 (.bool true), .k 198 (.bool true), .k 199 (.bool true), .k 200 (.bool true), .k 201 (.bool true), .c 202 (.agg #[.int .i64 (vminF l), .int .i64 (vmaxF l), .int .i64 (vpgF l), .int .i64 (vslF l), .bool (vhotF l), .slice A30_5 ((vrowF l).length) c30_5]), .k 203 (.pointer (some ⟨B4_1, 2, none⟩)), .c 204 (.slice A25q_3 ((own.take 20).length) c25q_3), .k 205 (.pointer (some ⟨B4_1, 4, none⟩)), .c 206 (.slice SA bs.length sc), .c 207 (.iface 43 (.slice SA bs.length sc)), .c 208 (.int .i64 (busyF (own.take 20) (standF bs) (vmaxF l))), .k 209 (.int .i64 ((kk : Int))), .c 210 (.int .i64 (turnF (busyF (own.take 20) (standF bs) (vmaxF l)) (kk : Int))), .c 211 (.agg #[.int .i64 (turnF (vminF l) (kk : Int)), .int .i64 (turnF (vmaxF l) (kk : Int)), .int .i64 (vpgF l), .int .i64 (vslF l), .bool (vhotF l), .slice A30_5 ((vrowF l).length) c30_5]), .k 212 (.pointer (some ⟨B10_9, 2, none⟩)), .c 213 (.slice Aj ((trn kk (own.take 20)).length) Cj), .k 214 (.pointer (some ⟨B10_9, 4, none⟩)), .c 215 (.slice A95_28 125 125), .c 216 (.iface 43 (.slice A95_28 125 125)), .c 217 (.int .i64 (busyF (trn kk (own.take 20)) (standF RT) (turnF (vmaxF l) (kk : Int)))), .e 218 (.bool ((turnF (busyF (own.take 20) (standF bs) (vmaxF l)) (kk : Int)) == (busyF (trn kk (own.take 20)) (standF RT) (turnF (vmaxF l) (kk : Int))))) (.bool true) (congrArg Value.bool hd47), .k 219 (.bool true), .k 220 (.bool true), .c 221 (.agg #[.int .i64 (vminF l), .int .i64 (vmaxF l), .int .i64 (vpgF l), .int .i64 (vslF l), .bool (vhotF l), .slice A30_5 ((vrowF l).length) c30_5]), .k 222 (.pointer (some ⟨B4_1, 3, none⟩)), .c 223 (.int .i64 hz), .k 224 (.pointer (some ⟨B4_1, 4, none⟩)), .c 225 (.slice SA bs.length sc), .c 226 (.iface 43 (.slice SA bs.length sc)), .c 227 (.bool (deadF (standF bs) hz (vminF l) (vmaxF l))), .c 228 (.agg #[.int .i64 (turnF (vminF l) (kk : Int)), .int .i64 (turnF (vmaxF l) (kk : Int)), .int .i64 (vpgF l), .int .i64 (vslF l), .bool (vhotF l), .slice A30_5 ((vrowF l).length) c30_5]), .k 229 (.pointer (some ⟨B10_9, 3, none⟩)), .c 230 (.int .i64 (turnF hz (kk : Int))), .k 231 (.pointer (some ⟨B10_9, 4, none⟩)), .c 232 (.slice A95_28 125 125), .c 233 (.iface 43 (.slice A95_28 125 125)), .c 234 (.bool (deadF (standF RT) (turnF hz (kk : Int)) (turnF (vminF l) (kk : Int)) (turnF (vmaxF l) (kk : Int)))), .c 235 (.bool true), .k 236 (.bool true), .k 237 (.bool true), .c 238 (.agg #[.int .i64 (vminF l), .int .i64 (vmaxF l), .int .i64 (vpgF l), .int .i64 (vslF l), .bool (vhotF l), .slice A30_5 ((vrowF l).length) c30_5]), .k 239 (.pointer (some ⟨B4_1, 3, none⟩)), .c 240 (.int .i64 hz), .k 241 (.pointer (some ⟨B4_1, 4, none⟩)), .c 242 (.slice SA bs.length sc), .c 243 (.iface 43 (.slice SA bs.length sc)), .c 244 (.bool (allF (standF bs) hz (vminF l) (vmaxF l))), .c 245 (.agg #[.int .i64 (turnF (vminF l) (kk : Int)), .int .i64 (turnF (vmaxF l) (kk : Int)), .int .i64 (vpgF l), .int .i64 (vslF l), .bool (vhotF l), .slice A30_5 ((vrowF l).length) c30_5]), .k 246 (.pointer (some ⟨B10_9, 3, none⟩)), .c 247 (.int .i64 (turnF hz (kk : Int))), .k 248 (.pointer (some ⟨B10_9, 4, none⟩)), .c 249 (.slice A95_28 125 125), .c 250 (.iface 43 (.slice A95_28 125 125)), .c 251 (.bool (allF (standF RT) (turnF hz (kk : Int)) (turnF (vminF l) (kk : Int)) (turnF (vmaxF l) (kk : Int)))), .c 252 (.bool true), .k 253 (.bool true), .k 6 (.bool true)] (fun _ _ _ _ => True) [0, 1, 2, 3, 4, 5, 6, 7, 8, 9, 10, 11, 12, 13] [5, 7, 9, 10, 11, 13, 14, 16, 18, 19, 20, 24, 26, 28, 29, 30, 31, 33, 35, 36, 37, 38, 41, 43, 45, 46, 47, 48, 50, 52, 53, 54, 55] [(6, 57, 1, 7), (190, 0, 57, 247)] hst41 ?_ ?_ ?_
  · exact fun _ _ _ _ _ _ _ _ _ _ h => h
  · refine ⟨?_, ?_, ?_, ?_, ?_, ?_, ?_, ?_, ?_, ?_, ?_, ?_, ?_, ?_, ?_, ?_, ?_, ?_, ?_, ?_, ?_, ?_, ?_, ?_, ?_, ?_, ?_, ?_, ?_, ?_, ?_, ?_, ?_, trivial⟩
    · exact s5 rfl (fun _ _ _ h => h) (fun cx => (cx.anc 4 rfl)) fun cx => run_loadB (n := 6) rfl (by kernel_rfl) (by kernel_rfl) (cx.out 8 rfl) (cx.blk (cx.init 4 _ rfl) rfl) (Nat.le_of_ble_eq_true rfl) rfl
    · exact s5 rfl (fun _ _ _ h => h) (fun cx => (cx.anc 4 rfl)) fun cx => run_load1 rfl (by kernel_rfl) (cx.anc 6 rfl) ((cx.blk (cx.init 2 _ rfl) rfl).cell 2)
    · exact s5 rfl (fun _ _ _ h => h) (fun cx => (cx.anc 4 rfl)) fun cx => run_load1 rfl (by kernel_rfl) (cx.anc 8 rfl) ((cx.blk (cx.init 2 _ rfl) rfl).cell 4)
    · exact sv0_on rfl rfl rfl rfl rfl rfl (fun _ _ _ h => h) (fun _ _ _ _ cx => (cx.anc 4 rfl)) fun ρ β W X cx => by
        have fF206 : ρ (.tmp 206) = .slice SA bs.length sc := (cx.anc 9 rfl)
        simp [go_sem, fF206]
    · exact sv_call_on rfl rfl rfl rfl rfl rfl (fun _ _ _ h => h) (fun _ _ _ _ cx => (cx.anc 4 rfl)) fun ρ β W X cx => ⟨_, _, run_callF (args := #[.agg #[.int .i64 (vminF l), .int .i64 (vmaxF l), .int .i64 (vpgF l), .int .i64 (vslF l), .bool (vhotF l), .slice A30_5 ((vrowF l).length) c30_5], .slice A25q_3 ((own.take 20).length) c25q_3, .iface 43 (.slice SA bs.length sc)]) rfl cx.sees rfl (by kernel_rfl) (map3 (cx.anc 5 rfl) (cx.anc 7 rfl) (cx.anc 10 rfl)), busy_any _ _ _ _ _ _ _ _ _ _ (own.take 20) _ _ _ _ (At.of_own (cx.row (cx.init 1 _ rfl) rfl)) (by first | omega | decide | (simp; done) | (simp; omega)) (stand_ok _ _ _ bs _ (rfl) (hSA.ext cx.upd.to_ext) hbs)⟩
    · exact sv_call_on rfl rfl rfl rfl rfl rfl (fun _ _ _ h => h) (fun _ _ _ _ cx => (cx.anc 4 rfl)) fun ρ β W X cx => ⟨_, _, run_callF (args := #[.int .i64 (busyF (own.take 20) (standF bs) (vmaxF l)), .int .i64 ((kk : Int))]) rfl cx.sees rfl (by kernel_rfl) (map2 (cx.anc 11 rfl) (cx.anc 12 rfl)), turn_any (busyF (own.take 20) (standF bs) (vmaxF l)) (kk : Int) _ ⟨by omega, by omega⟩⟩
    · exact s5 rfl (fun _ _ _ h => h) (fun cx => (cx.anc 4 rfl)) fun cx => run_loadB (n := 6) rfl (by kernel_rfl) (by kernel_rfl) (cx.out 9 rfl) (cx.blk (cx.init 5 _ rfl) rfl) (Nat.le_of_ble_eq_true rfl) rfl
    · exact s5 rfl (fun _ _ _ h => h) (fun cx => (cx.anc 4 rfl)) fun cx => run_load1 rfl (by kernel_rfl) (cx.anc 15 rfl) ((cx.blk (cx.init 8 _ rfl) rfl).cell 2)
    · exact s5 rfl (fun _ _ _ h => h) (fun cx => (cx.anc 4 rfl)) fun cx => run_load1 rfl (by kernel_rfl) (cx.anc 17 rfl) ((cx.blk (cx.init 8 _ rfl) rfl).cell 4)
    · exact sv0_on rfl rfl rfl rfl rfl rfl (fun _ _ _ h => h) (fun _ _ _ _ cx => (cx.anc 4 rfl)) fun ρ β W X cx => by
        have fF215 : ρ (.tmp 215) = .slice A95_28 125 125 := (cx.anc 18 rfl)
        simp [go_sem, fF215]
    · exact sv_call_on rfl rfl rfl rfl rfl rfl (fun _ _ _ h => h) (fun _ _ _ _ cx => (cx.anc 4 rfl)) fun ρ β W X cx => ⟨_, _, run_callF (args := #[.agg #[.int .i64 (turnF (vminF l) (kk : Int)), .int .i64 (turnF (vmaxF l) (kk : Int)), .int .i64 (vpgF l), .int .i64 (vslF l), .bool (vhotF l), .slice A30_5 ((vrowF l).length) c30_5], .slice Aj ((trn kk (own.take 20)).length) Cj, .iface 43 (.slice A95_28 125 125)]) rfl cx.sees rfl (by kernel_rfl) (map3 (cx.anc 14 rfl) (cx.anc 16 rfl) (cx.anc 19 rfl)), busy_any _ _ _ _ _ _ _ _ _ _ (trn kk (own.take 20)) _ _ _ _ (At.of_own (cx.row (cx.init 7 _ rfl) rfl)) (by first | omega | decide | (simp; done) | (simp; omega)) (stand_ok _ _ _ RT _ (hRl.symm) (At.of_own (cx.row (cx.init 9 _ rfl) rfl)) hRu)⟩
    · exact s5 rfl (fun _ _ _ h => h) (fun cx => (cx.anc 23 rfl)) fun cx => run_loadB (n := 6) rfl (by kernel_rfl) (by kernel_rfl) (cx.out 8 rfl) (cx.blk (cx.init 4 _ rfl) rfl) (Nat.le_of_ble_eq_true rfl) rfl
    · exact s5 rfl (fun _ _ _ h => h) (fun cx => (cx.anc 23 rfl)) fun cx => run_load1 rfl (by kernel_rfl) (cx.anc 25 rfl) ((cx.blk (cx.init 2 _ rfl) rfl).cell 3)
    · exact s5 rfl (fun _ _ _ h => h) (fun cx => (cx.anc 23 rfl)) fun cx => run_load1 rfl (by kernel_rfl) (cx.anc 27 rfl) ((cx.blk (cx.init 2 _ rfl) rfl).cell 4)
    · exact sv0_on rfl rfl rfl rfl rfl rfl (fun _ _ _ h => h) (fun _ _ _ _ cx => (cx.anc 23 rfl)) fun ρ β W X cx => by
        have fF225 : ρ (.tmp 225) = .slice SA bs.length sc := (cx.anc 28 rfl)
        simp [go_sem, fF225]
    · exact sv_call_on rfl rfl rfl rfl rfl rfl (fun _ _ _ h => h) (fun _ _ _ _ cx => (cx.anc 23 rfl)) fun ρ β W X cx => ⟨_, _, run_callF (args := #[.agg #[.int .i64 (vminF l), .int .i64 (vmaxF l), .int .i64 (vpgF l), .int .i64 (vslF l), .bool (vhotF l), .slice A30_5 ((vrowF l).length) c30_5], .int .i64 hz, .iface 43 (.slice SA bs.length sc)]) rfl cx.sees rfl (by kernel_rfl) (map3 (cx.anc 24 rfl) (cx.anc 26 rfl) (cx.anc 29 rfl)), dead_any _ _ _ _ _ _ _ _ _ _ _ _ _ (stand_ok _ _ _ bs _ (rfl) (hSA.ext cx.upd.to_ext) hbs)⟩
    · exact s5 rfl (fun _ _ _ h => h) (fun cx => (cx.anc 23 rfl)) fun cx => run_loadB (n := 6) rfl (by kernel_rfl) (by kernel_rfl) (cx.out 9 rfl) (cx.blk (cx.init 5 _ rfl) rfl) (Nat.le_of_ble_eq_true rfl) rfl
    · exact s5 rfl (fun _ _ _ h => h) (fun cx => (cx.anc 23 rfl)) fun cx => run_load1 rfl (by kernel_rfl) (cx.anc 32 rfl) ((cx.blk (cx.init 8 _ rfl) rfl).cell 3)
    · exact s5 rfl (fun _ _ _ h => h) (fun cx => (cx.anc 23 rfl)) fun cx => run_load1 rfl (by kernel_rfl) (cx.anc 34 rfl) ((cx.blk (cx.init 8 _ rfl) rfl).cell 4)
    · exact sv0_on rfl rfl rfl rfl rfl rfl (fun _ _ _ h => h) (fun _ _ _ _ cx => (cx.anc 23 rfl)) fun ρ β W X cx => by
        have fF232 : ρ (.tmp 232) = .slice A95_28 125 125 := (cx.anc 35 rfl)
        simp [go_sem, fF232]
    · exact sv_call_on rfl rfl rfl rfl rfl rfl (fun _ _ _ h => h) (fun _ _ _ _ cx => (cx.anc 23 rfl)) fun ρ β W X cx => ⟨_, _, run_callF (args := #[.agg #[.int .i64 (turnF (vminF l) (kk : Int)), .int .i64 (turnF (vmaxF l) (kk : Int)), .int .i64 (vpgF l), .int .i64 (vslF l), .bool (vhotF l), .slice A30_5 ((vrowF l).length) c30_5], .int .i64 (turnF hz (kk : Int)), .iface 43 (.slice A95_28 125 125)]) rfl cx.sees rfl (by kernel_rfl) (map3 (cx.anc 31 rfl) (cx.anc 33 rfl) (cx.anc 36 rfl)), dead_any _ _ _ _ _ _ _ _ _ _ _ _ _ (stand_ok _ _ _ RT _ (hRl.symm) (At.of_own (cx.row (cx.init 9 _ rfl) rfl)) hRu)⟩
    · exact sv0_on rfl rfl rfl rfl rfl rfl (fun _ _ _ h => h.trans (congrArg Value.bool hd48)) (fun _ _ _ _ cx => (cx.anc 23 rfl)) fun ρ β W X cx => by
        have fF227 : ρ (.tmp 227) = .bool (deadF (standF bs) hz (vminF l) (vmaxF l)) := (cx.anc 30 rfl)
        have fF234 : ρ (.tmp 234) = .bool (deadF (standF RT) (turnF hz (kk : Int)) (turnF (vminF l) (kk : Int)) (turnF (vmaxF l) (kk : Int))) := (cx.anc 37 rfl)
        simp [go_sem, fF227, fF234]
    · exact s5 rfl (fun _ _ _ h => h) (fun cx => (cx.anc 40 rfl)) fun cx => run_loadB (n := 6) rfl (by kernel_rfl) (by kernel_rfl) (cx.out 8 rfl) (cx.blk (cx.init 4 _ rfl) rfl) (Nat.le_of_ble_eq_true rfl) rfl
    · exact s5 rfl (fun _ _ _ h => h) (fun cx => (cx.anc 40 rfl)) fun cx => run_load1 rfl (by kernel_rfl) (cx.anc 42 rfl) ((cx.blk (cx.init 2 _ rfl) rfl).cell 3)
    · exact s5 rfl (fun _ _ _ h => h) (fun cx => (cx.anc 40 rfl)) fun cx => run_load1 rfl (by kernel_rfl) (cx.anc 44 rfl) ((cx.blk (cx.init 2 _ rfl) rfl).cell 4)
    · exact sv0_on rfl rfl rfl rfl rfl rfl (fun _ _ _ h => h) (fun _ _ _ _ cx => (cx.anc 40 rfl)) fun ρ β W X cx => by
        have fF242 : ρ (.tmp 242) = .slice SA bs.length sc := (cx.anc 45 rfl)
        simp [go_sem, fF242]
    · exact sv_call_on rfl rfl rfl rfl rfl rfl (fun _ _ _ h => h) (fun _ _ _ _ cx => (cx.anc 40 rfl)) fun ρ β W X cx => ⟨_, _, run_callF (args := #[.agg #[.int .i64 (vminF l), .int .i64 (vmaxF l), .int .i64 (vpgF l), .int .i64 (vslF l), .bool (vhotF l), .slice A30_5 ((vrowF l).length) c30_5], .int .i64 hz, .iface 43 (.slice SA bs.length sc)]) rfl cx.sees rfl (by kernel_rfl) (map3 (cx.anc 41 rfl) (cx.anc 43 rfl) (cx.anc 46 rfl)), all_any _ _ _ _ _ _ _ _ _ _ _ _ _ (stand_ok _ _ _ bs _ (rfl) (hSA.ext cx.upd.to_ext) hbs)⟩
    · exact s5 rfl (fun _ _ _ h => h) (fun cx => (cx.anc 40 rfl)) fun cx => run_loadB (n := 6) rfl (by kernel_rfl) (by kernel_rfl) (cx.out 9 rfl) (cx.blk (cx.init 5 _ rfl) rfl) (Nat.le_of_ble_eq_true rfl) rfl
    · exact s5 rfl (fun _ _ _ h => h) (fun cx => (cx.anc 40 rfl)) fun cx => run_load1 rfl (by kernel_rfl) (cx.anc 49 rfl) ((cx.blk (cx.init 8 _ rfl) rfl).cell 3)
    · exact s5 rfl (fun _ _ _ h => h) (fun cx => (cx.anc 40 rfl)) fun cx => run_load1 rfl (by kernel_rfl) (cx.anc 51 rfl) ((cx.blk (cx.init 8 _ rfl) rfl).cell 4)
    · exact sv0_on rfl rfl rfl rfl rfl rfl (fun _ _ _ h => h) (fun _ _ _ _ cx => (cx.anc 40 rfl)) fun ρ β W X cx => by
        have fF249 : ρ (.tmp 249) = .slice A95_28 125 125 := (cx.anc 52 rfl)
        simp [go_sem, fF249]
    · exact sv_call_on rfl rfl rfl rfl rfl rfl (fun _ _ _ h => h) (fun _ _ _ _ cx => (cx.anc 40 rfl)) fun ρ β W X cx => ⟨_, _, run_callF (args := #[.agg #[.int .i64 (turnF (vminF l) (kk : Int)), .int .i64 (turnF (vmaxF l) (kk : Int)), .int .i64 (vpgF l), .int .i64 (vslF l), .bool (vhotF l), .slice A30_5 ((vrowF l).length) c30_5], .int .i64 (turnF hz (kk : Int)), .iface 43 (.slice A95_28 125 125)]) rfl cx.sees rfl (by kernel_rfl) (map3 (cx.anc 48 rfl) (cx.anc 50 rfl) (cx.anc 53 rfl)), all_any _ _ _ _ _ _ _ _ _ _ _ _ _ (stand_ok _ _ _ RT _ (hRl.symm) (At.of_own (cx.row (cx.init 9 _ rfl) rfl)) hRu)⟩
    · exact sv0_on rfl rfl rfl rfl rfl rfl (fun _ _ _ h => h.trans (congrArg Value.bool hd49)) (fun _ _ _ _ cx => (cx.anc 40 rfl)) fun ρ β W X cx => by
        have fF244 : ρ (.tmp 244) = .bool (allF (standF bs) hz (vminF l) (vmaxF l)) := (cx.anc 47 rfl)
        have fF251 : ρ (.tmp 251) = .bool (allF (standF RT) (turnF hz (kk : Int)) (turnF (vminF l) (kk : Int)) (turnF (vmaxF l) (kk : Int))) := (cx.anc 54 rfl)
        simp [go_sem, fF244, fF251]
  intro σ β X W46 hD hX hst46 fr hfr
  simp only [zM, exq 0 (hX 0 _ rfl), exq 1 (hX 1 _ rfl), exq 2 (hX 2 _ rfl), exq 3 (hX 3 _ rfl), exq 4 (hX 4 _ rfl), exq 5 (hX 5 _ rfl), exq 6 (hX 6 _ rfl), exq 7 (hX 7 _ rfl), exq 8 (hX 8 _ rfl), exq 9 (hX 9 _ rfl), exq 10 (hX 10 _ rfl), exq 11 (hX 11 _ rfl), exq 12 (hX 12 _ rfl), exq 13 (hX 13 _ rfl)] at hst46
  dsimp only [mgT, vals, List.take, List.drop, List.cons_append, List.nil_append] at hfr
  clear hX hD; subst hfr; clear σ β X
  refine then_normal ?_
  refine wp_ret ?_
  refine bodyPost_ret (v := .bool true) (by simp [results, Tryd.results8, go_sem]) rfl ?_
  exact Ret.of rfl hst46.ext

end Go.Proofs.YtfjpglohcppjeaaDoor

/- the walk of TupleLater. -/
import Derived.Test.YtfjpglohcppjeaaDoorTOwn
namespace Go.Proofs.YtfjpglohcppjeaaDoor
open Go.RowKit
set_option linter.unusedVariables false
set_option linter.unusedSimpArgs false

theorem standF_other {l : List Int} (hl : l.length = 125) {x y v : Int} (hx : 3 ≤ x ∧ x < 128) (hy : y ≠ x) : standF (l.set (x - 3).toNat v) y = standF l y := by
  have h1 : (l.set (x - 3).toNat v).length = 125 := by rw [List.length_set, hl]
  rw [standF, standF, h1, hl]
  split
  · rfl
  · split
    · rfl
    · rename_i h2 h3
      have e : (x - 3).toNat ≠ ((y - 3) % ((125 : Nat) : Int)).toNat := by omega
      rw [List.getD_eq_getElem?_getD, List.getElem?_set_ne e, ← List.getD_eq_getElem?_getD]
theorem later_did {hi x y : Int} {ls l : List Int} (hx : 3 ≤ x ∧ x < 128) (hc : ls.contains x = true) (hl : l.length = 125) (v : Int) : didF hi ls [] (standF (l.set (x - 3).toNat v)) y = didF hi ls [] (standF l) y := by
  by_cases e : y = x
  · subst e
    simp only [didF, mineF, own_ended (hi := hi) (g := standF (l.set (y - 3).toNat v)) hx hc, own_ended (hi := hi) (g := standF l) hx hc]
    simp
  · simp only [didF, mineF, endedF, standF_other hl hx e]
theorem later_vis {hi x : Int} {ls l : List Int} (hx : 3 ≤ x ∧ x < 128) (hc : ls.contains x = true) (hl : l.length = 125) (v a b : Int) : visF hi ls [] (standF (l.set (x - 3).toNat v)) a b = visF hi ls [] (standF l) a b := by
  simp only [visF, later_did hx hc hl]
theorem later_bes {hi y : Int} {ls : List Int} : besF hi ls [] (standF []) y = false := by
  rw [besF]
  cases h : onF y with
  | false => simp
  | true =>
    have := onF_iff.1 h
    have e : standF [] y = 0 := by rw [standF, if_neg (by omega), if_pos (.inr (.inr rfl))]
    simp [e]
theorem later_b1 {hi y : Int} {ls : List Int} : bes1F hi ls [] (standF []) y = 0 := by rw [bes1F, later_bes]; simp
theorem later_b2 {hi y : Int} {ls : List Int} : bes2F hi ls [] (standF []) y = 0 := by rw [bes2F, later_bes]; simp
def tl (b : Bool) (k : Nat) : List Bool := (List.range 4).map fun i => if i < k then b else false
theorem tl_len (b : Bool) (k : Nat) : (tl b k).length = 4 := by simp [tl]
theorem tl_set (b : Bool) (k : Nat) (h : k < 4) : (tl b k).set k b = tl b (k + 1) := by
  apply List.ext_getElem
  · simp [tl]
  · intro i h1 h2
    simp only [tl, List.length_set, List.length_map, List.length_range] at h1
    rw [List.getElem_set]
    simp only [tl, List.getElem_map, List.getElem_range]
    by_cases e : k = i
    · subst e; simp
    · rw [if_neg e]
      by_cases h3 : i < k
      · rw [if_pos h3, if_pos (by omega)]
      · rw [if_neg h3, if_neg (by omega)]
set_option maxRecDepth 100000 in
set_option maxHeartbeats 8000000 in
theorem tuplelater_any (LA0 : Option Addr) (c0 : Nat) (l : List Int) (hi hz : Int) (LA : Option Addr) (lc : Nat) (ls : List Int) (OA : Option Addr) (oc : Nat) (own : List Int) (SA : Option Addr) (sc : Nat) (bs : List Int) (xa : Int) (w : World) (hA0 : At w LA0 (l.map (Value.int .i64))) (hl0 : l.length ≤ 9223372036854775807) (hL : At w LA (ls.map (Value.int .i64))) (hO : At w OA (own.map (Value.int .i64))) (hlc : ls.length ≤ lc) (hoc : own.length ≤ oc) (hSA : At w SA (bs.map (Value.int .u8))) (hbs : ∀ b ∈ bs, 0 ≤ b ∧ b ≤ 255) (hN : NoneAt w) :
    Calls Tryd.prog 5 #[.slice LA0 l.length c0, .agg #[.int .i64 hi, .slice LA ls.length lc, .slice OA own.length oc, .int .i64 hz, .slice SA bs.length sc], .int .i64 xa] w (Ret (.bool true) w) := by
  have hl60 : (ls.take 60).length ≤ 60 := by rw [List.length_take]; omega
  go_enter Tryd.func5, Tryd.ntmps5
  have hst0 := St.start w
  refine wp_seq ?_
  refine wp_region_T [0, 0] [] [[0]] [] [.a 4, .k 6 (.bool false)] (fun ix σ β X => match ix with | 0 => σ 4 = .pointer (some ⟨(pb (β 4)), 0, none⟩) ∧ X 0 = eB (pb (β 4)) 45 #[.int .i64 hi, .slice LA ls.length lc, .slice OA own.length oc, .int .i64 hz, .slice SA bs.length sc] | _ => True) [0] [0] [(4, 0, 1, 5), (1, 1, 1, 2)] hst0 ?_ ?_ ?_
  · exact fun ix _ _ _ _ _ _ hs hb hx h => match ix, h with
    | 0, h => by dsimp only at h ⊢; rw [← hs 4 rfl, ← hb 4 rfl, ← hx 0 rfl]; exact h
    | _ + 1, _ => trivial
  · refine ⟨?_, trivial⟩
    · refine sv_any rfl rfl fun ρ β W X cx => ?_
      exact dv_box (cs := #[.int .i64 hi, .slice LA ls.length lc, .slice OA own.length oc, .int .i64 hz, .slice SA bs.length sc]) rfl (cx.out 1 rfl) rfl rfl rfl (fun σ β' X' hs hb hv hx => ⟨hv, hx⟩)
  intro σ β X W1 hD hX hst1 fr hfr
  obtain ⟨B4_1, hu_B4_1⟩ : ∃ z, pb (β 4) = z := ⟨_, rfl⟩
  simp only [zM, exq 0 ((dTn (hD 0 lq)).2), hu_B4_1] at hst1
  dsimp only [mgT, vals, List.take, List.drop, List.cons_append, List.nil_append] at hfr
  simp only [ed 4 ((dTn (hD 0 lq)).1), hu_B4_1] at hfr
  clear hX hD hu_B4_1; subst hfr; clear σ β X
  refine then_normal ?_
  refine wp_seq ?_
  refine wp_region_T [0, 1] [] [] [] [.c 15 (.bool true), .k 7 (.bool true)] (fun _ _ _ _ => True) [0] [0] [(7, 1, 1, 8), (7, 0, 1, 8)] hst1 ?_ ?_ ?_
  · exact fun _ _ _ _ _ _ _ _ _ _ h => h
  · refine ⟨?_, trivial⟩
    · exact sv_call rfl rfl rfl rfl rfl (fun _ _ _ h => h) fun ρ β W X cx => ⟨_, _, run_callF (args := #[]) rfl cx.sees rfl (by kernel_rfl) map0, sanity_any _ (hN.ext cx.upd.to_ext)⟩
  intro σ β X W2 hD hX hst2 fr hfr
  simp only [zM, exq 0 (hX 0 _ rfl)] at hst2
  dsimp only [mgT, vals, List.take, List.drop, List.cons_append, List.nil_append] at hfr
  clear hX hD; subst hfr; clear σ β X
  refine then_normal ?_
  refine wp_seq ?_
  refine wp_region_T [0, 1, 3] [[0], [], [0]] [[], [1, 2], [3]] [[], [], [0]] [.c 16 (.agg #[.int .i64 hi, .slice LA ls.length lc, .slice OA own.length oc, .int .i64 hz, .slice SA bs.length sc]), .a 17, .n] (fun ix σ β X => match ix with | 0 => True | 1 => σ 17 = .agg #[.int .i64 hi, .slice (sA (tg (β 17) 1)) ((ls.take 60).length) (sC (tg (β 17) 1)), .slice (sA (tg (β 17) 2)) ((own.take 20).length) (sC (tg (β 17) 2)), .int .i64 hz, .slice SA bs.length sc] ∧ X 1 = eO 3 1 (.slice (sA (tg (β 17) 1)) ((ls.take 60).length) (sC (tg (β 17) 1))) ((ls.take 60).length) ((ls.take 60).map (Value.int .i64)) ∧ X 2 = eO 3 1 (.slice (sA (tg (β 17) 2)) ((own.take 20).length) (sC (tg (β 17) 2))) ((own.take 20).length) ((own.take 20).map (Value.int .i64)) | 2 => X 3 = eB B4_1 45 #[.int .i64 hi, .slice (sA (tg (β 17) 1)) ((ls.take 60).length) (sC (tg (β 17) 1)), .slice (sA (tg (β 17) 2)) ((own.take 20).length) (sC (tg (β 17) 2)), .int .i64 hz, .slice SA bs.length sc] | _ => True) [1, 2, 3] [0, 1, 2] [(16, 0, 2, 18)] hst2 ?_ ?_ ?_
  · exact fun ix _ _ _ _ _ _ hs hb hx h => match ix, h with
    | 1, h => by dsimp only at h ⊢; rw [← hs 17 rfl, ← hb 17 rfl, ← hx 1 rfl, ← hx 2 rfl]; exact h
    | 2, h => by dsimp only at h ⊢; rw [← hb 17 rfl, ← hx 3 rfl]; exact h
    | 0, _ | _ + 3, _ => trivial
  · refine ⟨?_, ?_, ?_, trivial⟩
    · exact s4 rfl (fun _ _ _ h => h) fun cx => run_loadB (n := 5) rfl (by kernel_rfl) (by kernel_rfl) (cx.out 4 rfl) (cx.blk (cx.init 0 _ rfl) rfl) (Nat.le_of_ble_eq_true rfl) rfl
    · refine sv_any rfl rfl fun ρ β W X cx => ?_
      refine DoesU.call (run_callF (args := #[.agg #[.int .i64 hi, .slice LA ls.length lc, .slice OA own.length oc, .int .i64 hz, .slice SA bs.length sc]]) rfl cx.sees rfl (by kernel_rfl) (map1 (cx.anc 0 rfl))) ?_
      refine (cut_any hi hz _ _ ls _ _ own _ _ _ _ (hL.ext cx.upd.to_ext) (hO.ext cx.upd.to_ext) hlc hoc).mono ?_
      rintro e W1 ⟨A4, c4, B4, d4, rfl, hc⟩
      refine ⟨_, rfl, post_st [eO 3 1 (.slice A4 (ls.take 60).length c4) (ls.take 60).length ((ls.take 60).map (Value.int .i64)), eO 3 1 (.slice B4 (own.take 20).length d4) (own.take 20).length ((own.take 20).map (Value.int .i64))] rfl rfl hc (fun σ β' X' hs hb hv hN => ?_)⟩
      have hv1 := (hv 17 rfl).1; have hv2 := (hv 17 rfl).2
      exact ⟨hv1.trans (by rw [hv2]; rfl), (by rw [hv2]; exact (List.cons.inj hN).1), (by rw [hv2]; exact (List.cons.inj (List.cons.inj hN).2).1)⟩
    · refine sv_any rfl rfl fun ρ β W X cx => ?_
      exact dv_store (n := 5) rfl (cx.out 4 rfl) (dTn (cx.anc 1 rfl)).1 (by kernel_rfl) rfl rfl cx (cx.init 0 _ rfl) rfl (Nat.le_of_ble_eq_true rfl) rfl rfl rfl rfl (fun σ β' X' hs hb hx => by rw [hb 17]; exact hx)
  intro σ β X W3 hD hX hst3 fr hfr
  obtain ⟨A17_3, hu_A17_3⟩ : ∃ z, sA (tg (β 17) 1) = z := ⟨_, rfl⟩
  obtain ⟨c17_3, hu_c17_3⟩ : ∃ z, sC (tg (β 17) 1) = z := ⟨_, rfl⟩
  obtain ⟨A17q_3, hu_A17q_3⟩ : ∃ z, sA (tg (β 17) 2) = z := ⟨_, rfl⟩
  obtain ⟨c17q_3, hu_c17q_3⟩ : ∃ z, sC (tg (β 17) 2) = z := ⟨_, rfl⟩
  simp only [zM, exq 1 ((dTn (hD 1 lq)).2.1), exq 2 ((dTn (hD 1 lq)).2.2), exq 3 ((dTn (hD 2 lq))), hu_A17_3, hu_c17_3, hu_A17q_3, hu_c17q_3] at hst3
  dsimp only [mgT, vals, List.take, List.drop, List.cons_append, List.nil_append] at hfr
  simp only [ed 17 ((dTn (hD 1 lq)).1), hu_A17_3, hu_c17_3, hu_A17q_3, hu_c17q_3] at hfr
  clear hX hD hu_A17_3 hu_c17_3 hu_A17q_3 hu_c17q_3; subst hfr; clear σ β X
  refine then_normal ?_
  refine wp_seq ?_
  refine wp_region_T [0, 1, 0, 7] [[], [], [], [4]] [[], [3], [4], [5]] [[], [], [], [4]] [.k 18 (.slice LA0 l.length c0), .a 19, .a 8, .n] (fun ix σ β X => match ix with | 0 => True | 1 => σ 19 = .agg #[.int .i64 (vminF l), .int .i64 (vmaxF l), .int .i64 (vpgF l), .int .i64 (vslF l), .bool (vhotF l), .slice (sA (tg (β 19) 5)) ((vrowF l).length) (sC (tg (β 19) 5))] ∧ X 3 = eO 103 3 (.slice (sA (tg (β 19) 5)) ((vrowF l).length) (sC (tg (β 19) 5))) ((vrowF l).length) (flatR (vrowF l)) | 2 => σ 8 = .pointer (some ⟨(pb (β 8)), 0, none⟩) ∧ X 4 = eB (pb (β 8)) 27 #[.int .i64 0, .int .i64 0, .int .i64 0, .int .i64 0, .bool false, .slice none 0 0] | 3 => X 5 = eB (pb (β 8)) 27 #[.int .i64 (vminF l), .int .i64 (vmaxF l), .int .i64 (vpgF l), .int .i64 (vslF l), .bool (vhotF l), .slice (sA (tg (β 19) 5)) ((vrowF l).length) (sC (tg (β 19) 5))] | _ => True) [0, 1, 2, 3, 5] [1, 2, 3] [(8, 2, 1, 9), (9, 0, 2, 11)] hst3 ?_ ?_ ?_
  · exact fun ix _ _ _ _ _ _ hs hb hx h => match ix, h with
    | 1, h => by dsimp only at h ⊢; rw [← hs 19 rfl, ← hb 19 rfl, ← hx 3 rfl]; exact h
    | 2, h => by dsimp only at h ⊢; rw [← hs 8 rfl, ← hb 8 rfl, ← hx 4 rfl]; exact h
    | 3, h => by dsimp only at h ⊢; rw [← hb 8 rfl, ← hb 19 rfl, ← hx 5 rfl]; exact h
    | 0, _ | _ + 4, _ => trivial
  · refine ⟨?_, ?_, ?_, trivial⟩
    · refine sv_any rfl rfl fun ρ β W X cx => ?_
      refine DoesU.call (run_callF (args := #[.slice LA0 l.length c0]) rfl cx.sees rfl (by kernel_rfl) (map1 (cx.anc 0 rfl))) ?_
      refine (made08_any _ _ l _ (hA0.ext cx.upd.to_ext) (by omega)).mono ?_
      rintro e W1 ⟨A4, c4, rfl, ho, hx⟩
      refine ⟨_, rfl, post_call [eO 103 3 (.slice A4 ((vrowF l).length) c4) ((vrowF l).length) (flatR (vrowF l))] rfl rfl hx (one_new (eO_new ho)) (List.pairwise_singleton _ _) (fun σ β' X' hs hb hv hN => ?_)⟩
      have hv1 := (hv 19 rfl).1; have hv2 := (hv 19 rfl).2
      exact ⟨hv1.trans (by rw [hv2]; rfl), (by rw [hv2]; exact (List.cons.inj hN).1)⟩
    · refine sv_any rfl rfl fun ρ β W X cx => ?_
      exact dv_alloc (cs := #[.int .i64 0, .int .i64 0, .int .i64 0, .int .i64 0, .bool false, .slice none 0 0]) rfl (by kernel_rfl) rfl rfl (fun σ β' X' hs hb hv hx => ⟨hv, hx⟩)
    · refine sv_any rfl rfl fun ρ β W X cx => ?_
      exact dv_store (n := 6) rfl (dTn (cx.anc 2 rfl)).1 (dTn (cx.anc 1 rfl)).1 (by kernel_rfl) rfl rfl cx (dTn (cx.anc 2 rfl)).2 rfl (Nat.le_of_ble_eq_true rfl) rfl rfl rfl rfl (fun σ β' X' hs hb hx => by rw [hb 8, hb 19]; exact hx)
  intro σ β X W4 hD hX hst4 fr hfr
  obtain ⟨A19_4, hu_A19_4⟩ : ∃ z, sA (tg (β 19) 5) = z := ⟨_, rfl⟩
  obtain ⟨c19_4, hu_c19_4⟩ : ∃ z, sC (tg (β 19) 5) = z := ⟨_, rfl⟩
  obtain ⟨B8_4, hu_B8_4⟩ : ∃ z, pb (β 8) = z := ⟨_, rfl⟩
  simp only [zM, exq 0 (hX 0 _ rfl), exq 1 (hX 1 _ rfl), exq 2 (hX 2 _ rfl), exq 3 ((dTn (hD 1 lq)).2), exq 5 ((dTn (hD 3 lq))), hu_A19_4, hu_c19_4, hu_B8_4] at hst4
  dsimp only [mgT, vals, List.take, List.drop, List.cons_append, List.nil_append] at hfr
  simp only [ed 19 ((dTn (hD 1 lq)).1), ed 8 ((dTn (hD 2 lq)).1), hu_A19_4, hu_c19_4, hu_B8_4] at hfr
  clear hX hD hu_A19_4 hu_c19_4 hu_B8_4; subst hfr; clear σ β X
  refine then_normal ?_
  refine wp_seq ?_
  obtain ⟨x, hxe, hx⟩ : ∃ z : Int, 3 + xa % 65536 % 125 = z ∧ 3 ≤ z ∧ z < 128 := ⟨_, rfl, by omega, by omega⟩
  refine wp_region_P [0, 1, 3, 7, 15] [.k 20 (.int .i64 xa), tAn 21 .i64 xa 65535 (xa % 65536) (bits_mask xa 16 (by decide)), tRe 22 .i64 (xa % 65536) 125 ((xa % 65536) % 125) (Int.tmod_eq_emod_of_nonneg (by omega)), tW 23 .i64 (3 + ((xa % 65536) % 125)) x ((IntWalk.i64_in _ (by omega)).trans hxe), .k 2 (.int .i64 x)] [(2, 4, 1, 3), (17, 0, 4, 21)] hst4 fun W5 hst5 => ?_
  refine then_normal ?_
  refine wp_seq ?_
  refine wp_region_T [0, 1] [[], [2]] [[], [5]] [[], [2]] [.k 24 (.pointer (some ⟨B4_1, 2, none⟩)), .n] (fun ix σ β X => match ix with | 0 => True | 1 => X 5 = eB B4_1 45 #[.int .i64 hi, .slice A17_3 ((ls.take 60).length) c17_3, .slice none 0 0, .int .i64 hz, .slice SA bs.length sc] | _ => True) [0, 1, 3, 4, 5] [1] [(24, 0, 1, 25)] hst5 ?_ ?_ ?_
  · exact fun ix _ _ _ _ _ _ hs hb hx h => match ix, h with
    | 1, h => by dsimp only at h ⊢; rw [← hx 5 rfl]; exact h
    | 0, _ | _ + 2, _ => trivial
  · refine ⟨?_, trivial⟩
    · refine sv_any rfl rfl fun ρ β W X cx => ?_
      exact dv_store (n := 1) rfl (cx.anc 0 rfl) (cx.sees.const _) (by kernel_rfl) rfl rfl cx (cx.init 2 _ rfl) rfl (Nat.le_of_ble_eq_true rfl) rfl rfl rfl rfl (fun σ β' X' hs hb hx => hx)
  intro σ β X W6 hD hX hst6 fr hfr
  simp only [zM, exq 0 (hX 0 _ rfl), exq 1 (hX 1 _ rfl), exq 3 (hX 3 _ rfl), exq 4 (hX 4 _ rfl), exq 5 ((dTn (hD 1 lq)))] at hst6
  dsimp only [mgT, vals, List.take, List.drop, List.cons_append, List.nil_append] at hfr
  clear hX hD; subst hfr; clear σ β X
  refine then_normal ?_
  refine wp_seq ?_
  refine wp_region_T [0, 1, 3, 0, 8, 31, 63, 127, 255] [[], [], [4], [], [], [5, 0], [], [], [4]] [[], [], [], [], [5], [6], [], [], [7]] [[], [], [], [], [], [0], [], [], [4]] [.k 25 (.pointer (some ⟨B4_1, 0, none⟩)), .k 26 (.pointer (some ⟨B4_1, 1, none⟩)), .c 27 (.slice A17_3 ((ls.take 60).length) c17_3), .k 28 (.int .i64 x), .a 29, .a 30, .k 31 (.pointer (some ⟨B4_1, 0, none⟩)), .k 32 (.pointer (some ⟨B4_1, 1, none⟩)), .n] (fun ix σ β X => match ix with | 0 => True | 1 => True | 2 => True | 3 => True | 4 => σ 29 = .slice (sA (β 29)) 1 1 ∧ X 5 = eO 3 1 (.slice (sA (β 29)) 1 1) 1 ([.int .i64 x]) | 5 => σ 30 = .slice (sA (β 30)) (((ls.take 60) ++ [x]).length) (sC (β 30)) ∧ X 6 = eO 3 1 (.slice (sA (β 30)) (((ls.take 60) ++ [x]).length) (sC (β 30))) (((ls.take 60) ++ [x]).length) (((ls.take 60) ++ [x]).map (Value.int .i64)) | 6 => True | 7 => True | 8 => X 7 = eB B4_1 45 #[.int .i64 hi, .slice (sA (β 30)) (((ls.take 60) ++ [x]).length) (sC (β 30)), .slice none 0 0, .int .i64 hz, .slice SA bs.length sc] | _ => True) [1, 2, 3, 5, 6, 7] [2, 4, 5, 8] [(25, 0, 8, 33)] hst6 ?_ ?_ ?_
  · exact fun ix _ _ _ _ _ _ hs hb hx h => match ix, h with
    | 4, h => by dsimp only at h ⊢; rw [← hs 29 rfl, ← hb 29 rfl, ← hx 5 rfl]; exact h
    | 5, h => by dsimp only at h ⊢; rw [← hs 30 rfl, ← hb 30 rfl, ← hx 6 rfl]; exact h
    | 8, h => by dsimp only at h ⊢; rw [← hb 30 rfl, ← hx 7 rfl]; exact h
    | 0, _ | 1, _ | 2, _ | 3, _ | 6, _ | 7, _ | _ + 9, _ => trivial
  · refine ⟨?_, ?_, ?_, ?_, trivial⟩
    · exact s4 rfl (fun _ _ _ h => h) fun cx => run_load1 rfl (by kernel_rfl) (cx.anc 1 rfl) ((cx.blk (cx.init 4 _ rfl) rfl).cell 1)
    · refine sv_any rfl rfl fun ρ β W X cx => ?_
      have fF28 : ρ (.tmp 28) = .int .i64 x := (cx.anc 3 rfl)
      exact dv_lit (e := 3) (xs := [.int .i64 x]) rfl (by simp [go_sem, fF28]) rfl (by decide) rfl rfl (fun σ β' X' hs hb hv hx => ⟨hv, hx⟩)
    · refine sv_any rfl rfl fun ρ β W X cx => ?_
      obtain ⟨i0, hi0, hz0, hz1, hz2⟩ := info_parts Tryd.infoInt
      refine dv_append (n := (ls.take 60).length) (m := 1) (nm := ((ls.take 60) ++ [x]).length) (xs := (ls.take 60).map (Value.int .i64)) (news := [.int .i64 x]) (xs' := ((ls.take 60) ++ [x]).map (Value.int .i64)) rfl (ty := 28) rfl (by kernel_rfl) hi0 hz0 hz1 hz2 rfl (cx.anc 2 rfl) cx (cx.init 0 _ rfl) rfl (dTn (cx.anc 4 rfl)).1 (by first | (simp; done) | (simp; omega)) (At.of_own (cx.row (dTn (cx.anc 4 rfl)).2 rfl)) (by simp [Value.oneCell']) (by simp only [maxLen]; omega) (by omega) rfl rfl rfl (by simp) (by simp) (fun σ β' X' hs hb hv hx => ?_)
      exact ⟨hv, hx⟩
    · refine sv_any rfl rfl fun ρ β W X cx => ?_
      exact dv_store (n := 1) rfl (cx.anc 7 rfl) (dTn (cx.anc 5 rfl)).1 (by kernel_rfl) rfl rfl cx (cx.init 4 _ rfl) rfl (Nat.le_of_ble_eq_true rfl) rfl rfl rfl rfl (fun σ β' X' hs hb hx => by rw [hb 30]; exact hx)
  intro σ β X W7 hD hX hst7 fr hfr
  obtain ⟨A29_7, hu_A29_7⟩ : ∃ z, sA (β 29) = z := ⟨_, rfl⟩
  obtain ⟨A30_7, hu_A30_7⟩ : ∃ z, sA (β 30) = z := ⟨_, rfl⟩
  obtain ⟨c30_7, hu_c30_7⟩ : ∃ z, sC (β 30) = z := ⟨_, rfl⟩
  simp only [zM, exq 1 (hX 1 _ rfl), exq 2 (hX 2 _ rfl), exq 3 (hX 3 _ rfl), exq 5 ((dTn (hD 4 lq)).2), exq 6 ((dTn (hD 5 lq)).2), exq 7 ((dTn (hD 8 lq))), hu_A29_7, hu_A30_7, hu_c30_7] at hst7
  dsimp only [mgT, vals, List.take, List.drop, List.cons_append, List.nil_append] at hfr
  simp only [ed 29 ((dTn (hD 4 lq)).1), ed 30 ((dTn (hD 5 lq)).1), hu_A29_7, hu_A30_7, hu_c30_7] at hfr
  clear hX hD hu_A29_7 hu_A30_7 hu_c30_7; subst hfr; clear σ β X
  refine then_normal ?_
  refine wp_seq ?_
  refine wp_region_T [0, 1] [] [[6]] [] [.a 33, .a 9] (fun ix σ β X => match ix with | 0 => σ 33 = .slice (sA (β 33)) 125 125 ∧ X 6 = eO 5 1 (.slice (sA (β 33)) 125 125) 125 ((List.replicate 125 (0 : Int)).map (Value.int .u8)) | 1 => σ 9 = .slice (sA (β 33)) 125 125 | _ => True) [0, 1, 2, 3, 4, 5, 6] [0, 1] [(9, 1, 1, 10), (23, 0, 1, 24)] hst7 ?_ ?_ ?_
  · exact fun ix _ _ _ _ _ _ hs hb hx h => match ix, h with
    | 0, h => by dsimp only at h ⊢; rw [← hs 33 rfl, ← hb 33 rfl, ← hx 6 rfl]; exact h
    | 1, h => by dsimp only at h ⊢; rw [← hs 9 rfl, ← hb 33 rfl]; exact h
    | _ + 2, _ => trivial
  · refine ⟨?_, ?_, trivial⟩
    · refine sv_any rfl rfl fun ρ β W X cx => ?_
      obtain ⟨i0, hi0, hz0, hz1, hz2⟩ := info_parts Tryd.infoU8
      exact dv_make (n := 125) rfl (by kernel_rfl) hi0 hz0 hz1 hz2 rfl (cx.sees.const _) (cx.sees.const _) (by omega) (by omega) (by omega) (by omega) rfl rfl (fun σ β' X' hs hb hv hx => ⟨hv, by rw [List.map_replicate]; exact hx⟩)
    · exact sv rfl rfl rfl rfl rfl _ (fun _ _ _ h => h) (fun β β' h => by rw [h 33 (by decide)]) fun ρ β W X cx => run_assign' rfl (dTn (cx.anc 0 rfl)).1
  intro σ β X W8 hD hX hst8 fr hfr
  obtain ⟨A33_8, hu_A33_8⟩ : ∃ z, sA (β 33) = z := ⟨_, rfl⟩
  simp only [zM, exq 0 (hX 0 _ rfl), exq 1 (hX 1 _ rfl), exq 2 (hX 2 _ rfl), exq 3 (hX 3 _ rfl), exq 4 (hX 4 _ rfl), exq 5 (hX 5 _ rfl), exq 6 ((dTn (hD 0 lq)).2), hu_A33_8] at hst8
  dsimp only [mgT, vals, List.take, List.drop, List.cons_append, List.nil_append] at hfr
  simp only [ed 33 ((dTn (hD 0 lq)).1), ed 9 ((dTn (hD 1 lq))), hu_A33_8] at hfr
  clear hX hD hu_A33_8; subst hfr; clear σ β X
  refine then_normal ?_
  refine wp_seq ?_
  refine wp_seq ?_
  rw [← rwL_0 bs] at hst8
  refine wp_region_P [0] [.k 10 (.int .i64 0)] [(10, 0, 1, 11)] hst8 fun W9 hst9 => ?_
  refine then_normal ?_
  refine wp_block ?_
  refine wp_loopN (fun mz az W => ∃ k : Nat, ∃ u10_ : List Value, k ≤ 125 ∧ mz = 125 - k ∧ az = ⟨#[.slice LA0 l.length c0, .agg #[.int .i64 hi, .slice LA ls.length lc, .slice OA own.length oc, .int .i64 hz, .slice SA bs.length sc], .int .i64 x, undef, .pointer (some ⟨B4_1, 0, none⟩), undef, .bool false, .bool true, .pointer (some ⟨B8_4, 0, none⟩), .slice A33_8 125 125, .int .i64 ((k : Int)), undef, undef, undef, undef, .bool true, .agg #[.int .i64 hi, .slice LA ls.length lc, .slice OA own.length oc, .int .i64 hz, .slice SA bs.length sc], .agg #[.int .i64 hi, .slice A17_3 ((ls.take 60).length) c17_3, .slice A17q_3 ((own.take 20).length) c17q_3, .int .i64 hz, .slice SA bs.length sc], .slice LA0 l.length c0, .agg #[.int .i64 (vminF l), .int .i64 (vmaxF l), .int .i64 (vpgF l), .int .i64 (vslF l), .bool (vhotF l), .slice A19_4 ((vrowF l).length) c19_4], .int .i64 xa, .int .i64 (xa % 65536), .int .i64 ((xa % 65536) % 125), .int .i64 x, .pointer (some ⟨B4_1, 2, none⟩), .pointer (some ⟨B4_1, 0, none⟩), .pointer (some ⟨B4_1, 1, none⟩), .slice A17_3 ((ls.take 60).length) c17_3, .int .i64 x, .slice A29_7 1 1, .slice A30_7 (((ls.take 60) ++ [x]).length) c30_7, .pointer (some ⟨B4_1, 0, none⟩), .pointer (some ⟨B4_1, 1, none⟩), .slice A33_8 125 125, (u10_.getD 0 undef), (u10_.getD 1 undef), (u10_.getD 2 undef), (u10_.getD 3 undef), (u10_.getD 4 undef), (u10_.getD 5 undef), (u10_.getD 6 undef), (u10_.getD 7 undef), (u10_.getD 8 undef), (u10_.getD 9 undef), (u10_.getD 10 undef), (u10_.getD 11 undef), (u10_.getD 12 undef), undef, undef, undef, undef, undef, undef, undef, undef, undef, undef, undef, undef, undef, undef, undef, undef, undef, undef, undef, undef, undef, undef, undef, undef, undef, undef, undef, undef, undef, undef, undef, undef, undef, undef, undef, undef, undef, undef, undef, undef, undef, undef, undef, undef, undef, undef, undef, undef, undef, undef, undef, undef, undef, undef, undef, undef, undef, undef, undef, undef, undef, undef, undef, undef, undef, undef], []⟩ ∧ St w [] [eO 3 1 (.slice A17q_3 ((own.take 20).length) c17q_3) ((own.take 20).length) ((own.take 20).map (Value.int .i64)), eO 103 3 (.slice A19_4 ((vrowF l).length) c19_4) ((vrowF l).length) (flatR (vrowF l)), eB B8_4 27 #[.int .i64 (vminF l), .int .i64 (vmaxF l), .int .i64 (vpgF l), .int .i64 (vslF l), .bool (vhotF l), .slice A19_4 ((vrowF l).length) c19_4], eO 3 1 (.slice A29_7 1 1) 1 ([.int .i64 x]), eO 3 1 (.slice A30_7 (((ls.take 60) ++ [x]).length) c30_7) (((ls.take 60) ++ [x]).length) (((ls.take 60) ++ [x]).map (Value.int .i64)), eB B4_1 45 #[.int .i64 hi, .slice A30_7 (((ls.take 60) ++ [x]).length) c30_7, .slice none 0 0, .int .i64 hz, .slice SA bs.length sc], eO 5 1 (.slice A33_8 125 125) 125 ((rwL bs k).map (Value.int .u8))] W) (125 - 0) ?_ ?_
  · -- the loop begins
    have hp11 := hst9.pick [0, 1, 2, 3, 4, 5, 6] (by decide) rfl
    exact ⟨0, [undef, undef, undef, undef, undef, undef, undef, undef, undef, undef, undef, undef, undef], by omega, rfl, rfl, hp11⟩
  rintro n10 a10 W10 ⟨k, u10_, hk, rfl, rfl, hst10⟩
  have hsb := standF_bd bs (3 + (k : Int))
  refine wp_seq ?_
  refine wp_seq ?_
  refine wp_region_P [0, 1] [.k 34 (.int .i64 ((k : Int))), .k 35 (.bool (decide ((k : Int) < 125)))] [(34, 0, 2, 36)] hst10 fun W12 hst12 => ?_
  refine then_normal ?_
  rcases Bool.eq_false_or_eq_true (decide ((k : Int) < 125)) with hs13 | hs13
  · skip
    have hs13p : (k : Int) < 125 := by simpa using hs13
    refine wp_cond_true (show Act.eval _ _ = .bool true from (congrArg Value.bool hs13)) ?_
    refine wp_skip ?_
    refine then_normal ?_
    refine wp_seq ?_
    refine wp_block ?_
    refine wp_region_T [0, 0, 0, 4, 0, 16, 60, 124, 255, 511] [[], [], [], [5], [], [], [], [], [6], [6]] [[], [], [], [], [], [], [], [], [], [7]] [[], [], [], [], [], [], [], [], [], [6]] [.k 38 (.slice A33_8 125 125), .k 39 (.int .i64 ((k : Int))), .k 40 (.pointer (some ⟨B4_1, 4, none⟩)), .c 41 (.slice SA bs.length sc), .k 42 (.int .i64 ((k : Int))), tI 43 (3 + (k : Int)) (by omega), .c 44 (.int .i64 (standF bs (3 + (k : Int)))), tW 45 .u8 (standF bs (3 + (k : Int))) (standF bs (3 + (k : Int))) (IntWalk.u8_in _ (by omega)), .c 46 (.pointer (some ((ad A33_8).add k))), .n] (fun ix σ β X => match ix with | 0 => True | 1 => True | 2 => True | 3 => True | 4 => True | 5 => True | 6 => True | 7 => True | 8 => True | 9 => X 7 = eO 5 1 (.slice A33_8 125 125) 125 ((rwL bs (k + 1)).map (Value.int .u8)) | _ => True) [0, 1, 2, 3, 4, 5, 7] [3, 6, 8, 9] [(38, 0, 9, 47)] hst12 ?_ ?_ ?_
    · exact fun ix _ _ _ _ _ _ hs hb hx h => match ix, h with
      | 9, h => by dsimp only at h ⊢; rw [← hx 7 rfl]; exact h
      | 0, _ | 1, _ | 2, _ | 3, _ | 4, _ | 5, _ | 6, _ | 7, _ | 8, _ | _ + 10, _ => trivial
    · refine ⟨?_, ?_, ?_, ?_, trivial⟩
      · exact s4 rfl (fun _ _ _ h => h) fun cx => run_load1 rfl (by kernel_rfl) (cx.anc 2 rfl) ((cx.blk (cx.init 5 _ rfl) rfl).cell 4)
      · exact sv_call rfl rfl rfl rfl rfl (fun _ _ _ h => h) fun ρ β W X cx => ⟨_, _, run_callF (args := #[.slice SA bs.length sc, .int .i64 (3 + (k : Int))]) rfl cx.sees rfl (by kernel_rfl) (map2 (cx.anc 3 rfl) (cx.anc 5 rfl)), stand_any _ _ bs (3 + (k : Int)) _ (hSA.ext cx.upd.to_ext) hbs⟩
      · exact s4 rfl (fun _ _ _ h => h) fun cx => run_indexSl (e := 5) (m := k) rfl (by kernel_rfl) (by kernel_rfl) (cx.anc 0 rfl) (cx.anc 1 rfl) (by omega) (by omega) (At.of_own (cx.row (cx.init 6 _ rfl) rfl)) ((by simp [rwL_len]))
      · refine sv_any rfl rfl fun ρ β W X cx => ?_
        exact dv_storeRow (m := k) (n := 125) rfl (cx.anc 8 rfl) (cx.anc 7 rfl) (by kernel_rfl) rfl rfl cx (cx.init 6 _ rfl) rfl (by omega) rfl (by rw [← List.map_set, rwL_set bs k (by omega)]) rfl rfl (fun σ β' X' hs hb hx => hx)
    intro σ β X W14 hD hX hst14 fr hfr
    simp only [zM, exq 0 (hX 0 _ rfl), exq 1 (hX 1 _ rfl), exq 2 (hX 2 _ rfl), exq 3 (hX 3 _ rfl), exq 4 (hX 4 _ rfl), exq 5 (hX 5 _ rfl), exq 7 ((dTn (hD 9 lq)))] at hst14
    dsimp only [mgT, vals, List.take, List.drop, List.cons_append, List.nil_append] at hfr
    clear hX hD; subst hfr; clear σ β X
    refine blk_normal ?_
    refine then_normal ?_
    refine wp_region_P [0, 1, 3] [.k 36 (.int .i64 ((k : Int))), tI 37 ((k : Int) + 1) (by omega), .k 10 (.int .i64 ((k : Int) + 1))] [(10, 2, 1, 11), (25, 0, 2, 27)] hst14 fun W15 hst15 => ?_
    refine then_normal ?_
    refine ⟨125 - ((k + 1)), by omega, ?_⟩
    have hp16 := hst15.pick [0, 1, 2, 3, 4, 5, 6] (by decide) rfl
    exact ⟨(k + 1), [.int .i64 ((k : Int)), .bool (decide ((k : Int) < 125)), .int .i64 ((k : Int)), .int .i64 ((k : Int) + 1), .slice A33_8 125 125, .int .i64 ((k : Int)), .pointer (some ⟨B4_1, 4, none⟩), .slice SA bs.length sc, .int .i64 ((k : Int)), .int .i64 (3 + (k : Int)), .int .i64 (standF bs (3 + (k : Int))), .int .u8 (standF bs (3 + (k : Int))), .pointer (some ((ad A33_8).add k))], by omega, rfl, rfl, hp16⟩
  have hs13p : ¬ ((k : Int) < 125) := by simpa using hs13
  refine wp_cond_false (show Act.eval _ _ = .bool false from (congrArg Value.bool hs13)) ?_
  refine wp_exit ?_
  refine then_exit ?_
  refine then_exit ?_
  refine blk_eq ?_
  refine then_normal ?_
  refine wp_seq ?_
  obtain rfl : k = 125 := by omega
  obtain ⟨RW, hRW⟩ : ∃ z, rwL bs 125 = z := ⟨_, rfl⟩
  have hRl : RW.length = 125 := by rw [← hRW]; exact rwL_len bs 125
  have hRu : ∀ b ∈ RW, 0 ≤ b ∧ b ≤ 255 := by rw [← hRW]; exact rwL_u8 bs 125
  rw [hRW] at hst12
  have hc : ((ls.take 60) ++ [x]).contains x = true := by simp
  have hll : ((ls.take 60) ++ [x]).length ≤ 61 := by rw [List.length_append, List.length_take]; simp; omega
  obtain ⟨VV, hVV⟩ : ∃ z, visF hi ((ls.take 60) ++ [x]) [] (standF RW) (vminF l) (vmaxF l) = z := ⟨_, rfl⟩
  have hvis : ∀ v, visF hi ((ls.take 60) ++ [x]) [] (standF (RW.set (x - 3).toNat v)) (vminF l) (vmaxF l) = VV := fun v => (later_vis hx hc hRl v _ _).trans hVV
  have hself : RW = RW.set (x - 3).toNat (RW.getD (x - 3).toNat 0) := by
    apply List.ext_getElem (by simp)
    intro i h1 h2
    rw [List.getElem_set]
    split
    · rename_i e; subst e; simp [h1]
    · rfl
  have hm0 : 0 ≤ RW.getD (x - 3).toNat 0 ∧ RW.getD (x - 3).toNat 0 ≤ 255 := getD_bd hRu _
  obtain ⟨m0, hm0e⟩ : ∃ z, RW.getD (x - 3).toNat 0 = z := ⟨_, rfl⟩
  rw [hm0e] at hself hm0
  rw [hself] at hst12
  refine wp_region_T [0] [] [[7]] [] [.a 11] (fun ix σ β X => match ix with | 0 => σ 11 = .pointer (some ⟨(pb (β 11)), 0, none⟩) ∧ X 7 = eB (pb (β 11)) 70 #[.bool false, .bool false, .bool false, .bool false] | _ => True) [0, 1, 2, 3, 4, 5, 6, 7] [0] [(11, 0, 1, 12)] hst12 ?_ ?_ ?_
  · exact fun ix _ _ _ _ _ _ hs hb hx h => match ix, h with
    | 0, h => by dsimp only at h ⊢; rw [← hs 11 rfl, ← hb 11 rfl, ← hx 7 rfl]; exact h
    | _ + 1, _ => trivial
  · refine ⟨?_, trivial⟩
    · refine sv_any rfl rfl fun ρ β W X cx => ?_
      exact dv_alloc (cs := #[.bool false, .bool false, .bool false, .bool false]) rfl (by kernel_rfl) rfl rfl (fun σ β' X' hs hb hv hx => ⟨hv, hx⟩)
  intro σ β X W17 hD hX hst17 fr hfr
  obtain ⟨B11_17, hu_B11_17⟩ : ∃ z, pb (β 11) = z := ⟨_, rfl⟩
  simp only [zM, exq 0 (hX 0 _ rfl), exq 1 (hX 1 _ rfl), exq 2 (hX 2 _ rfl), exq 3 (hX 3 _ rfl), exq 4 (hX 4 _ rfl), exq 5 (hX 5 _ rfl), exq 6 (hX 6 _ rfl), exq 7 ((dTn (hD 0 lq)).2), hu_B11_17] at hst17
  dsimp only [mgT, vals, List.take, List.drop, List.cons_append, List.nil_append] at hfr
  simp only [ed 11 ((dTn (hD 0 lq)).1), hu_B11_17] at hfr
  clear hX hD hu_B11_17; subst hfr; clear σ β X
  refine then_normal ?_
  refine wp_seq ?_
  refine wp_seq ?_
  refine wp_region_P [0] [.k 12 (.int .i64 1)] [(12, 0, 1, 13)] hst17 fun W18 hst18 => ?_
  refine then_normal ?_
  refine wp_block ?_
  refine wp_loopN (fun mz az W => ∃ j : Nat, ∃ m : Int, ∃ u19_ : List Value, j ≤ 4 ∧ 0 ≤ m ∧ m ≤ 255 ∧ mz = 4 - j ∧ az = ⟨#[.slice LA0 l.length c0, .agg #[.int .i64 hi, .slice LA ls.length lc, .slice OA own.length oc, .int .i64 hz, .slice SA bs.length sc], .int .i64 x, undef, .pointer (some ⟨B4_1, 0, none⟩), undef, .bool false, .bool true, .pointer (some ⟨B8_4, 0, none⟩), .slice A33_8 125 125, .int .i64 (((125 : Nat) : Int)), .pointer (some ⟨B11_17, 0, none⟩), .int .i64 ((j : Int) + 1), undef, undef, .bool true, .agg #[.int .i64 hi, .slice LA ls.length lc, .slice OA own.length oc, .int .i64 hz, .slice SA bs.length sc], .agg #[.int .i64 hi, .slice A17_3 ((ls.take 60).length) c17_3, .slice A17q_3 ((own.take 20).length) c17q_3, .int .i64 hz, .slice SA bs.length sc], .slice LA0 l.length c0, .agg #[.int .i64 (vminF l), .int .i64 (vmaxF l), .int .i64 (vpgF l), .int .i64 (vslF l), .bool (vhotF l), .slice A19_4 ((vrowF l).length) c19_4], .int .i64 xa, .int .i64 (xa % 65536), .int .i64 ((xa % 65536) % 125), .int .i64 x, .pointer (some ⟨B4_1, 2, none⟩), .pointer (some ⟨B4_1, 0, none⟩), .pointer (some ⟨B4_1, 1, none⟩), .slice A17_3 ((ls.take 60).length) c17_3, .int .i64 x, .slice A29_7 1 1, .slice A30_7 (((ls.take 60) ++ [x]).length) c30_7, .pointer (some ⟨B4_1, 0, none⟩), .pointer (some ⟨B4_1, 1, none⟩), .slice A33_8 125 125, .int .i64 (((125 : Nat) : Int)), .bool (decide (((125 : Nat) : Int) < 125)), (u10_.getD 2 undef), (u10_.getD 3 undef), (u10_.getD 4 undef), (u10_.getD 5 undef), (u10_.getD 6 undef), (u10_.getD 7 undef), (u10_.getD 8 undef), (u10_.getD 9 undef), (u10_.getD 10 undef), (u10_.getD 11 undef), (u10_.getD 12 undef), (u19_.getD 0 undef), (u19_.getD 1 undef), (u19_.getD 2 undef), (u19_.getD 3 undef), (u19_.getD 4 undef), (u19_.getD 5 undef), (u19_.getD 6 undef), (u19_.getD 7 undef), (u19_.getD 8 undef), (u19_.getD 9 undef), (u19_.getD 10 undef), (u19_.getD 11 undef), (u19_.getD 12 undef), (u19_.getD 13 undef), (u19_.getD 14 undef), (u19_.getD 15 undef), (u19_.getD 16 undef), (u19_.getD 17 undef), (u19_.getD 18 undef), undef, undef, undef, undef, undef, undef, undef, undef, undef, undef, undef, undef, undef, undef, undef, undef, undef, undef, undef, undef, undef, undef, undef, undef, undef, undef, undef, undef, undef, undef, undef, undef, undef, undef, undef, undef, undef, undef, undef, undef, undef, undef, undef, undef, undef, undef, undef], []⟩ ∧ St w [] [eO 3 1 (.slice A17q_3 ((own.take 20).length) c17q_3) ((own.take 20).length) ((own.take 20).map (Value.int .i64)), eO 103 3 (.slice A19_4 ((vrowF l).length) c19_4) ((vrowF l).length) (flatR (vrowF l)), eB B8_4 27 #[.int .i64 (vminF l), .int .i64 (vmaxF l), .int .i64 (vpgF l), .int .i64 (vslF l), .bool (vhotF l), .slice A19_4 ((vrowF l).length) c19_4], eO 3 1 (.slice A29_7 1 1) 1 ([.int .i64 x]), eO 3 1 (.slice A30_7 (((ls.take 60) ++ [x]).length) c30_7) (((ls.take 60) ++ [x]).length) (((ls.take 60) ++ [x]).map (Value.int .i64)), eB B4_1 45 #[.int .i64 hi, .slice A30_7 (((ls.take 60) ++ [x]).length) c30_7, .slice none 0 0, .int .i64 hz, .slice SA bs.length sc], eO 5 1 (.slice A33_8 125 125) 125 ((RW.set (x - 3).toNat m).map (Value.int .u8)), eB B11_17 70 ((tl VV j).map Value.bool).toArray] W) (4 - 0) ?_ ?_
  · -- the loop begins
    have hp20 := hst18.pick [0, 1, 2, 3, 4, 5, 6, 7] (by decide) rfl
    exact ⟨0, m0, [undef, undef, undef, undef, undef, undef, undef, undef, undef, undef, undef, undef, undef, undef, undef, undef, undef, undef, undef], by omega, hm0.1, hm0.2, rfl, rfl, hp20⟩
  rintro n19 a19 W19 ⟨j, m, u19_, hj, hma, hmb, rfl, rfl, hst19⟩
  have hlm : (RW.set (x - 3).toNat m).length = 125 := by rw [List.length_set]; exact hRl
  have hlk : (RW.set (x - 3).toNat ((j : Int) + 1)).length = 125 := by rw [List.length_set]; exact hRl
  refine wp_seq ?_
  refine wp_seq ?_
  refine wp_region_P [0, 1] [.k 47 (.int .i64 ((j : Int) + 1)), .k 48 (.bool (decide ((j : Int) + 1 < 5)))] [(47, 0, 2, 49)] hst19 fun W21 hst21 => ?_
  refine then_normal ?_
  rcases Bool.eq_false_or_eq_true (decide ((j : Int) + 1 < 5)) with hs22 | hs22
  · skip
    have hs22p : (j : Int) + 1 < 5 := by simpa using hs22
    refine wp_cond_true (show Act.eval _ _ = .bool true from (congrArg Value.bool hs22)) ?_
    refine wp_skip ?_
    refine then_normal ?_
    refine wp_seq ?_
    refine wp_block ?_
    refine wp_seq ?_
    refine wp_region_T [0, 0, 2, 0, 8, 31, 63] [[], [], [], [], [], [6], [6]] [[], [], [], [], [], [], [8]] [[], [], [], [], [], [], [6]] [.k 51 (.slice A33_8 125 125), .k 52 (.int .i64 x), tI 53 (x - 3) (by omega), .k 54 (.int .i64 ((j : Int) + 1)), tW 55 .u8 ((j : Int) + 1) ((j : Int) + 1) (IntWalk.u8_in _ (by omega)), .c 56 (.pointer (some ((ad A33_8).add ((x - 3).toNat)))), .n] (fun ix σ β X => match ix with | 0 => True | 1 => True | 2 => True | 3 => True | 4 => True | 5 => True | 6 => X 8 = eO 5 1 (.slice A33_8 125 125) 125 ((RW.set (x - 3).toNat ((j : Int) + 1)).map (Value.int .u8)) | _ => True) [0, 1, 2, 3, 4, 5, 7, 8] [5, 6] [(51, 0, 6, 57)] hst21 ?_ ?_ ?_
    · exact fun ix _ _ _ _ _ _ hs hb hx h => match ix, h with
      | 6, h => by dsimp only at h ⊢; rw [← hx 8 rfl]; exact h
      | 0, _ | 1, _ | 2, _ | 3, _ | 4, _ | 5, _ | _ + 7, _ => trivial
    · refine ⟨?_, ?_, trivial⟩
      · exact s4 rfl (fun _ _ _ h => h) fun cx => run_indexSl (e := 5) (m := (x - 3).toNat) rfl (by kernel_rfl) (by kernel_rfl) (cx.anc 0 rfl) (cx.anc 2 rfl) (by omega) (by omega) (At.of_own (cx.row (cx.init 6 _ rfl) rfl)) ((by simp [hRl]))
      · refine sv_any rfl rfl fun ρ β W X cx => ?_
        exact dv_storeRow (m := (x - 3).toNat) (n := 125) rfl (cx.anc 5 rfl) (cx.anc 4 rfl) (by kernel_rfl) rfl rfl cx (cx.init 6 _ rfl) rfl (by omega) rfl (by rw [← List.map_set, List.set_set]) rfl rfl (fun σ β' X' hs hb hx => hx)
    intro σ β X W23 hD hX hst23 fr hfr
    simp only [zM, exq 0 (hX 0 _ rfl), exq 1 (hX 1 _ rfl), exq 2 (hX 2 _ rfl), exq 3 (hX 3 _ rfl), exq 4 (hX 4 _ rfl), exq 5 (hX 5 _ rfl), exq 7 (hX 7 _ rfl), exq 8 ((dTn (hD 6 lq)))] at hst23
    dsimp only [mgT, vals, List.take, List.drop, List.cons_append, List.nil_append] at hfr
    clear hX hD; subst hfr; clear σ β X
    refine then_normal ?_
    have huk := set_u8 hRu (x - 3).toNat (v := (j : Int) + 1) ⟨by omega, by omega⟩
    refine wp_region_T [0, 1, 0, 0, 8, 0, 32, 124, 255, 511] [[], [], [2], [], [5], [], [], [4, 7], [], [6]] [[], [], [], [], [], [], [], [], [], [8]] [[], [], [], [], [], [], [], [], [], [6]] [.k 57 (.int .i64 ((j : Int) + 1)), tJ 58 (((j : Int) + 1) - 1) (j : Int) (by omega) (by omega), .c 59 (.agg #[.int .i64 (vminF l), .int .i64 (vmaxF l), .int .i64 (vpgF l), .int .i64 (vslF l), .bool (vhotF l), .slice A19_4 ((vrowF l).length) c19_4]), .k 60 (.pointer (some ⟨B4_1, 0, none⟩)), .c 61 (.agg #[.int .i64 hi, .slice A30_7 (((ls.take 60) ++ [x]).length) c30_7]), .k 62 (.slice A33_8 125 125), .c 63 (.iface 43 (.slice A33_8 125 125)), .c 64 (.bool VV), .c 65 (.pointer (some ⟨B11_17, j, none⟩)), .n] (fun ix σ β X => match ix with | 0 => True | 1 => True | 2 => True | 3 => True | 4 => True | 5 => True | 6 => True | 7 => True | 8 => True | 9 => X 8 = eB B11_17 70 ((tl VV (j + 1)).map Value.bool).toArray | _ => True) [0, 1, 2, 3, 4, 5, 7, 8] [2, 4, 6, 7, 8, 9] [(57, 0, 9, 66)] hst23 ?_ ?_ ?_
    · exact fun ix _ _ _ _ _ _ hs hb hx h => match ix, h with
      | 9, h => by dsimp only at h ⊢; rw [← hx 8 rfl]; exact h
      | 0, _ | 1, _ | 2, _ | 3, _ | 4, _ | 5, _ | 6, _ | 7, _ | 8, _ | _ + 10, _ => trivial
    · refine ⟨?_, ?_, ?_, ?_, ?_, ?_, trivial⟩
      · exact s4 rfl (fun _ _ _ h => h) fun cx => run_loadB (n := 6) rfl (by kernel_rfl) (by kernel_rfl) (cx.out 8 rfl) (cx.blk (cx.init 2 _ rfl) rfl) (Nat.le_of_ble_eq_true rfl) rfl
      · exact s4 rfl (fun _ _ _ h => h) fun cx => run_loadB (n := 2) rfl (by kernel_rfl) (by kernel_rfl) (cx.anc 3 rfl) (cx.blk (cx.init 5 _ rfl) rfl) (Nat.le_of_ble_eq_true rfl) rfl
      · exact sv0 rfl rfl rfl rfl rfl (fun _ _ _ h => h) fun ρ β W X cx => by
          have fF62 : ρ (.tmp 62) = .slice A33_8 125 125 := (cx.anc 5 rfl)
          simp [go_sem, fF62]
      · exact sv_call rfl rfl rfl rfl rfl (fun _ _ _ h => h) fun ρ β W X cx => ⟨_, _, run_callF (args := #[.agg #[.int .i64 (vminF l), .int .i64 (vmaxF l), .int .i64 (vpgF l), .int .i64 (vslF l), .bool (vhotF l), .slice A19_4 ((vrowF l).length) c19_4], .agg #[.int .i64 hi, .slice A30_7 (((ls.take 60) ++ [x]).length) c30_7], .slice none 0 0, .iface 43 (.slice A33_8 125 125)]) rfl cx.sees rfl (by kernel_rfl) (map4 (cx.anc 2 rfl) (cx.anc 4 rfl) (cx.sees.const _) (cx.anc 6 rfl)), ((visible_any _ _ _ _ _ _ _ _ _ _ _ ((ls.take 60) ++ [x]) _ _ ([] : List Int) _ _ _ _ (At.of_own (cx.row (cx.init 4 _ rfl) rfl)) (by first | omega | decide | (simp; done) | (simp; omega)) (At.nil _ _) (by first | omega | decide | (simp; done) | (simp; omega)) (stand_ok _ _ _ (RW.set (x - 3).toNat ((j : Int) + 1)) _ (hlk.symm) (At.of_own (cx.row (cx.init 7 _ rfl) rfl)) huk)).mono fun e W1 h_ => ⟨h_.1.trans (by rw [hvis]), h_.2⟩)⟩
      · exact s4 rfl (fun _ _ _ h => h) fun cx => run_indexArrB (n := 4) (sz := 1) (m := j) (q := j) rfl (by kernel_rfl) (cx.out 11 rfl) (cx.anc 1 rfl) (by omega) (by omega) (by omega)
      · refine sv_any rfl rfl fun ρ β W X cx => ?_
        exact dv_storeAr (m := j) rfl (cx.anc 8 rfl) (cx.anc 7 rfl) (by kernel_rfl) rfl rfl cx (cx.init 6 _ rfl) rfl (by first | omega | (simp [tl_len]; omega)) rfl (by rw [← List.map_set, tl_set VV j (by omega)]) rfl rfl (fun σ β' X' hs hb hx => hx)
    intro σ β X W24 hD hX hst24 fr hfr
    simp only [zM, exq 0 (hX 0 _ rfl), exq 1 (hX 1 _ rfl), exq 2 (hX 2 _ rfl), exq 3 (hX 3 _ rfl), exq 4 (hX 4 _ rfl), exq 5 (hX 5 _ rfl), exq 7 (hX 7 _ rfl), exq 8 ((dTn (hD 9 lq)))] at hst24
    dsimp only [mgT, vals, List.take, List.drop, List.cons_append, List.nil_append] at hfr
    clear hX hD; subst hfr; clear σ β X
    refine blk_normal ?_
    refine then_normal ?_
    refine wp_region_P [0, 1, 3] [.k 49 (.int .i64 ((j : Int) + 1)), tJ 50 (((j : Int) + 1) + 1) ((j : Int) + 2) (by omega) (by omega), .k 12 (.int .i64 ((j : Int) + 2))] [(12, 2, 1, 13), (36, 0, 2, 38)] hst24 fun W25 hst25 => ?_
    refine then_normal ?_
    refine ⟨4 - ((j + 1)), by omega, ?_⟩
    have hp26 := hst25.pick [0, 1, 2, 3, 4, 5, 6, 7] (by decide) rfl
    exact ⟨(j + 1), ((j : Int) + 1), [.int .i64 ((j : Int) + 1), .bool (decide ((j : Int) + 1 < 5)), .int .i64 ((j : Int) + 1), .int .i64 ((j : Int) + 2), .slice A33_8 125 125, .int .i64 x, .int .i64 (x - 3), .int .i64 ((j : Int) + 1), .int .u8 ((j : Int) + 1), .pointer (some ((ad A33_8).add ((x - 3).toNat))), .int .i64 ((j : Int) + 1), .int .i64 ((j : Int)), .agg #[.int .i64 (vminF l), .int .i64 (vmaxF l), .int .i64 (vpgF l), .int .i64 (vslF l), .bool (vhotF l), .slice A19_4 ((vrowF l).length) c19_4], .pointer (some ⟨B4_1, 0, none⟩), .agg #[.int .i64 hi, .slice A30_7 (((ls.take 60) ++ [x]).length) c30_7], .slice A33_8 125 125, .iface 43 (.slice A33_8 125 125), .bool VV, .pointer (some ⟨B11_17, j, none⟩)], by omega, by omega, by omega, rfl, rfl, hp26⟩
  have hs22p : ¬ ((j : Int) + 1 < 5) := by simpa using hs22
  refine wp_cond_false (show Act.eval _ _ = .bool false from (congrArg Value.bool hs22)) ?_
  refine wp_exit ?_
  refine then_exit ?_
  refine then_exit ?_
  refine blk_eq ?_
  refine then_normal ?_
  obtain rfl : j = 4 := by omega
  refine wp_cut (fun az W => ∃ u27_ : List Value, True ∧ az = ⟨#[.slice LA0 l.length c0, .agg #[.int .i64 hi, .slice LA ls.length lc, .slice OA own.length oc, .int .i64 hz, .slice SA bs.length sc], .int .i64 x, undef, .pointer (some ⟨B4_1, 0, none⟩), undef, (u27_.getD 0 undef), .bool true, .pointer (some ⟨B8_4, 0, none⟩), .slice A33_8 125 125, .int .i64 (((125 : Nat) : Int)), .pointer (some ⟨B11_17, 0, none⟩), .int .i64 (((4 : Nat) : Int) + 1), (u27_.getD 1 undef), (u27_.getD 2 undef), .bool true, .agg #[.int .i64 hi, .slice LA ls.length lc, .slice OA own.length oc, .int .i64 hz, .slice SA bs.length sc], .agg #[.int .i64 hi, .slice A17_3 ((ls.take 60).length) c17_3, .slice A17q_3 ((own.take 20).length) c17q_3, .int .i64 hz, .slice SA bs.length sc], .slice LA0 l.length c0, .agg #[.int .i64 (vminF l), .int .i64 (vmaxF l), .int .i64 (vpgF l), .int .i64 (vslF l), .bool (vhotF l), .slice A19_4 ((vrowF l).length) c19_4], .int .i64 xa, .int .i64 (xa % 65536), .int .i64 ((xa % 65536) % 125), .int .i64 x, .pointer (some ⟨B4_1, 2, none⟩), .pointer (some ⟨B4_1, 0, none⟩), .pointer (some ⟨B4_1, 1, none⟩), .slice A17_3 ((ls.take 60).length) c17_3, .int .i64 x, .slice A29_7 1 1, .slice A30_7 (((ls.take 60) ++ [x]).length) c30_7, .pointer (some ⟨B4_1, 0, none⟩), .pointer (some ⟨B4_1, 1, none⟩), .slice A33_8 125 125, .int .i64 (((125 : Nat) : Int)), .bool (decide (((125 : Nat) : Int) < 125)), (u10_.getD 2 undef), (u10_.getD 3 undef), (u10_.getD 4 undef), (u10_.getD 5 undef), (u10_.getD 6 undef), (u10_.getD 7 undef), (u10_.getD 8 undef), (u10_.getD 9 undef), (u10_.getD 10 undef), (u10_.getD 11 undef), (u10_.getD 12 undef), .int .i64 (((4 : Nat) : Int) + 1), .bool (decide (((4 : Nat) : Int) + 1 < 5)), (u19_.getD 2 undef), (u19_.getD 3 undef), (u19_.getD 4 undef), (u19_.getD 5 undef), (u19_.getD 6 undef), (u19_.getD 7 undef), (u19_.getD 8 undef), (u19_.getD 9 undef), (u19_.getD 10 undef), (u19_.getD 11 undef), (u19_.getD 12 undef), (u19_.getD 13 undef), (u19_.getD 14 undef), (u19_.getD 15 undef), (u19_.getD 16 undef), (u19_.getD 17 undef), (u19_.getD 18 undef), (u27_.getD 3 undef), (u27_.getD 4 undef), (u27_.getD 5 undef), (u27_.getD 6 undef), (u27_.getD 7 undef), (u27_.getD 8 undef), (u27_.getD 9 undef), (u27_.getD 10 undef), (u27_.getD 11 undef), (u27_.getD 12 undef), (u27_.getD 13 undef), (u27_.getD 14 undef), (u27_.getD 15 undef), (u27_.getD 16 undef), (u27_.getD 17 undef), (u27_.getD 18 undef), (u27_.getD 19 undef), (u27_.getD 20 undef), (u27_.getD 21 undef), (u27_.getD 22 undef), (u27_.getD 23 undef), (u27_.getD 24 undef), (u27_.getD 25 undef), (u27_.getD 26 undef), (u27_.getD 27 undef), undef, undef, undef, undef, undef, undef, undef, undef, undef, undef, undef, undef, undef, undef, undef, undef, undef, undef, undef, undef, undef, undef], []⟩ ∧ St w [] [eO 3 1 (.slice A17q_3 ((own.take 20).length) c17q_3) ((own.take 20).length) ((own.take 20).map (Value.int .i64)), eO 103 3 (.slice A19_4 ((vrowF l).length) c19_4) ((vrowF l).length) (flatR (vrowF l)), eB B8_4 27 #[.int .i64 (vminF l), .int .i64 (vmaxF l), .int .i64 (vpgF l), .int .i64 (vslF l), .bool (vhotF l), .slice A19_4 ((vrowF l).length) c19_4], eO 3 1 (.slice A29_7 1 1) 1 ([.int .i64 x]), eO 3 1 (.slice A30_7 (((ls.take 60) ++ [x]).length) c30_7) (((ls.take 60) ++ [x]).length) (((ls.take 60) ++ [x]).map (Value.int .i64)), eB B4_1 45 #[.int .i64 hi, .slice A30_7 (((ls.take 60) ++ [x]).length) c30_7, .slice none 0 0, .int .i64 hz, .slice SA bs.length sc], eO 5 1 (.slice A33_8 125 125) 125 ((RW.set (x - 3).toNat m).map (Value.int .u8)), eB B11_17 70 #[.bool VV, .bool VV, .bool VV, .bool VV]] W) ?_ ?_
  · skip
    refine wp_seq ?_
    refine wp_region_T [0, 1, 0, 7, 15, 31, 63, 31, 255, 511] [[], [2], [], [], [], [], [2]] [] [] [.k 66 (.pointer (some ⟨B8_4, 1, none⟩)), .c 67 (.int .i64 (vmaxF l)), .k 68 (.int .i64 x), .k 69 (.bool ((vmaxF l) == x)), .k 70 (.bool ((vmaxF l) == x)), .z 71 (!((vmaxF l) == x)) (.pointer (some ⟨B8_4, 0, none⟩)), .y 72 (!((vmaxF l) == x)) (.int .i64 (vminF l)), .z 73 (!((vmaxF l) == x)) (.int .i64 x), .z 74 (!((vmaxF l) == x)) (.bool ((vminF l) == x)), tO 75 ((vmaxF l) == x) ((vminF l) == x)] (fun _ _ _ _ => True) [0, 1, 2, 3, 4, 5, 6, 7] [1, 6] [(66, 0, 10, 76)] hst21 ?_ ?_ ?_
    · exact fun _ _ _ _ _ _ _ _ _ _ h => h
    · refine ⟨?_, ?_, trivial⟩
      · exact s4 rfl (fun _ _ _ h => h) fun cx => run_load1 rfl (by kernel_rfl) (cx.anc 0 rfl) ((cx.blk (cx.init 2 _ rfl) rfl).cell 1)
      · exact m2 rfl (fun _ _ _ h => h) (fun cx => (cx.anc 4 rfl)) fun cx hq => run_load1 rfl (by kernel_rfl) (mbv (cx.anc 5 rfl) hq) ((cx.blk (cx.init 2 _ rfl) rfl).cell 0)
    intro σ β X W28 hD hX hst28 fr hfr
    simp only [zM, exq 0 (hX 0 _ rfl), exq 1 (hX 1 _ rfl), exq 2 (hX 2 _ rfl), exq 3 (hX 3 _ rfl), exq 4 (hX 4 _ rfl), exq 5 (hX 5 _ rfl), exq 6 (hX 6 _ rfl), exq 7 (hX 7 _ rfl)] at hst28
    dsimp only [mgT, vals, List.take, List.drop, List.cons_append, List.nil_append] at hfr
    clear hX hD; subst hfr; clear σ β X
    refine then_normal ?_
    rcases Bool.eq_false_or_eq_true (((vmaxF l) == x) || ((vminF l) == x)) with hs29 | hs29
    · skip
      have hs29p := hs29
      simp only [zB] at hs29p
      refine wp_cond_true (show Act.eval _ _ = .bool true from (congrArg Value.bool hs29)) ?_
      refine wp_seq ?_
      refine wp_region_T [0, 0, 2, 0, 8, 31, 63, 127, 127, 255, 1023] [[2], [], [5], [], [], [4, 8]] [[], [], [], [8]] [] [.c 77 (.agg #[.int .i64 (vminF l), .int .i64 (vmaxF l), .int .i64 (vpgF l), .int .i64 (vslF l), .bool (vhotF l), .slice A19_4 ((vrowF l).length) c19_4]), .k 78 (.pointer (some ⟨B4_1, 0, none⟩)), .c 79 (.agg #[.int .i64 hi, .slice A30_7 (((ls.take 60) ++ [x]).length) c30_7]), .a 80, .a 81, .c 82 (.tuple #[.int .i64 (bes1F hi ((ls.take 60) ++ [x]) ([] : List Int) (standF []) (vminF l)), .int .i64 (bes2F hi ((ls.take 60) ++ [x]) ([] : List Int) (standF []) (vmaxF l))]), .k 76 (.tuple #[.int .i64 (bes1F hi ((ls.take 60) ++ [x]) ([] : List Int) (standF []) (vminF l)), .int .i64 (bes2F hi ((ls.take 60) ++ [x]) ([] : List Int) (standF []) (vmaxF l))]), .k 83 (.int .i64 (bes1F hi ((ls.take 60) ++ [x]) ([] : List Int) (standF []) (vminF l))), .k 84 (.int .i64 (bes2F hi ((ls.take 60) ++ [x]) ([] : List Int) (standF []) (vmaxF l))), .k 13 (.int .i64 (bes1F hi ((ls.take 60) ++ [x]) ([] : List Int) (standF []) (vminF l))), .k 14 (.int .i64 (bes2F hi ((ls.take 60) ++ [x]) ([] : List Int) (standF []) (vmaxF l)))] (fun ix σ β X => match ix with | 0 => True | 1 => True | 2 => True | 3 => σ 80 = .slice (sA (β 80)) 0 0 ∧ X 8 = eO 5 1 (.slice (sA (β 80)) 0 0) 0 ([]) | 4 => σ 81 = .iface 43 (.slice (sA (β 80)) 0 0) | _ => True) [0, 1, 2, 3, 4, 5, 6, 7, 8] [0, 2, 3, 4, 5] [(13, 9, 2, 15), (61, 6, 1, 62), (0, 0, 6, 6), (0, 7, 2, 2)] hst28 ?_ ?_ ?_
      · exact fun ix _ _ _ _ _ _ hs hb hx h => match ix, h with
        | 3, h => by dsimp only at h ⊢; rw [← hs 80 rfl, ← hb 80 rfl, ← hx 8 rfl]; exact h
        | 4, h => by dsimp only at h ⊢; rw [← hs 81 rfl, ← hb 80 rfl]; exact h
        | 0, _ | 1, _ | 2, _ | _ + 5, _ => trivial
      · refine ⟨?_, ?_, ?_, ?_, ?_, trivial⟩
        · exact s4 rfl (fun _ _ _ h => h) fun cx => run_loadB (n := 6) rfl (by kernel_rfl) (by kernel_rfl) (cx.out 8 rfl) (cx.blk (cx.init 2 _ rfl) rfl) (Nat.le_of_ble_eq_true rfl) rfl
        · exact s4 rfl (fun _ _ _ h => h) fun cx => run_loadB (n := 2) rfl (by kernel_rfl) (by kernel_rfl) (cx.anc 1 rfl) (cx.blk (cx.init 5 _ rfl) rfl) (Nat.le_of_ble_eq_true rfl) rfl
        · refine sv_any rfl rfl fun ρ β W X cx => ?_
          exact dv_lit (e := 5) (xs := []) rfl (by simp [go_sem]) rfl (by decide) rfl rfl (fun σ β' X' hs hb hv hx => ⟨hv, hx⟩)
        · exact sv rfl rfl rfl rfl rfl _ (fun _ _ _ h => h) (fun β β' h => by rw [h 80 (by decide)]) fun ρ β W X cx => by
            have fF80 : ρ (.tmp 80) = .slice (sA (β 80)) 0 0 := (dTn (cx.anc 3 rfl)).1
            simp [go_sem, fF80]
        · exact sv_call rfl rfl rfl rfl rfl (fun _ _ _ h => h) fun ρ β W X cx => ⟨_, _, run_callF (args := #[.agg #[.int .i64 (vminF l), .int .i64 (vmaxF l), .int .i64 (vpgF l), .int .i64 (vslF l), .bool (vhotF l), .slice A19_4 ((vrowF l).length) c19_4], .agg #[.int .i64 hi, .slice A30_7 (((ls.take 60) ++ [x]).length) c30_7], .slice none 0 0, .iface 43 (.slice (sA (β 80)) 0 0)]) rfl cx.sees rfl (by kernel_rfl) (map4 (cx.anc 0 rfl) (cx.anc 2 rfl) (cx.sees.const _) (dTn (cx.anc 4 rfl))), beside_any _ _ _ _ _ _ _ _ _ _ _ ((ls.take 60) ++ [x]) _ _ ([] : List Int) _ _ _ _ (At.of_own (cx.row (cx.init 4 _ rfl) rfl)) (by first | omega | decide | (simp; done) | (simp; omega)) (At.nil _ _) (by first | omega | decide | (simp; done) | (simp; omega)) (stand_ok _ _ _ [] _ (rfl) (At.of_own (cx.row (dTn (cx.anc 3 rfl)).2 rfl)) (by simp))⟩
      intro σ β X W30 hD hX hst30 fr hfr
      obtain ⟨A80_30, hu_A80_30⟩ : ∃ z, sA (β 80) = z := ⟨_, rfl⟩
      simp only [zM, exq 0 (hX 0 _ rfl), exq 1 (hX 1 _ rfl), exq 2 (hX 2 _ rfl), exq 3 (hX 3 _ rfl), exq 4 (hX 4 _ rfl), exq 5 (hX 5 _ rfl), exq 6 (hX 6 _ rfl), exq 7 (hX 7 _ rfl), exq 8 ((dTn (hD 3 lq)).2), hu_A80_30] at hst30
      dsimp only [mgT, vals, List.take, List.drop, List.cons_append, List.nil_append] at hfr
      simp only [ed 80 ((dTn (hD 3 lq)).1), ed 81 ((dTn (hD 4 lq))), hu_A80_30] at hfr
      clear hX hD hu_A80_30; subst hfr; clear σ β X
      refine then_normal ?_
      refine wp_seq ?_
      have hd32 : ((bes1F hi ((ls.take 60) ++ [x]) ([] : List Int) (standF []) (vminF l)) != 0) = false := by rw [later_b1]; rfl
      have hd33 : ((bes2F hi ((ls.take 60) ++ [x]) ([] : List Int) (standF []) (vmaxF l)) != 0) = false := by rw [later_b2]; rfl
      refine wp_region_P [0, 1, 3, 7, 15, 31] [.k 85 (.int .i64 (bes1F hi ((ls.take 60) ++ [x]) ([] : List Int) (standF []) (vminF l))), .e 86 (.bool ((bes1F hi ((ls.take 60) ++ [x]) ([] : List Int) (standF []) (vminF l)) != 0)) (.bool false) (congrArg Value.bool hd32), .k 87 (.bool false), .k 88 (.int .i64 (bes2F hi ((ls.take 60) ++ [x]) ([] : List Int) (standF []) (vmaxF l))), .e 89 (.bool ((bes2F hi ((ls.take 60) ++ [x]) ([] : List Int) (standF []) (vmaxF l)) != 0)) (.bool false) (congrArg Value.bool hd33), .k 90 (.bool false)] [(85, 0, 6, 91)] hst30 fun W31 hst31 => ?_
      refine then_normal ?_
      refine wp_cond_false (show Act.eval _ _ = .bool false from rfl) ?_
      refine wp_skip ?_
      refine then_normal ?_
      have hp34 := hst31.pick [0, 1, 2, 3, 4, 5, 6, 7] (by decide) rfl
      exact ⟨[.bool false, .int .i64 (bes1F hi ((ls.take 60) ++ [x]) ([] : List Int) (standF []) (vminF l)), .int .i64 (bes2F hi ((ls.take 60) ++ [x]) ([] : List Int) (standF []) (vmaxF l)), .pointer (some ⟨B8_4, 1, none⟩), .int .i64 (vmaxF l), .int .i64 x, .bool ((vmaxF l) == x), .bool ((vmaxF l) == x), mb (!((vmaxF l) == x)) (.pointer (some ⟨B8_4, 0, none⟩)), mb (!((vmaxF l) == x)) (.int .i64 (vminF l)), mb (!((vmaxF l) == x)) (.int .i64 x), mb (!((vmaxF l) == x)) (.bool ((vminF l) == x)), .bool (((vmaxF l) == x) || ((vminF l) == x)), .tuple #[.int .i64 (bes1F hi ((ls.take 60) ++ [x]) ([] : List Int) (standF []) (vminF l)), .int .i64 (bes2F hi ((ls.take 60) ++ [x]) ([] : List Int) (standF []) (vmaxF l))], .agg #[.int .i64 (vminF l), .int .i64 (vmaxF l), .int .i64 (vpgF l), .int .i64 (vslF l), .bool (vhotF l), .slice A19_4 ((vrowF l).length) c19_4], .pointer (some ⟨B4_1, 0, none⟩), .agg #[.int .i64 hi, .slice A30_7 (((ls.take 60) ++ [x]).length) c30_7], .slice A80_30 0 0, .iface 43 (.slice A80_30 0 0), .tuple #[.int .i64 (bes1F hi ((ls.take 60) ++ [x]) ([] : List Int) (standF []) (vminF l)), .int .i64 (bes2F hi ((ls.take 60) ++ [x]) ([] : List Int) (standF []) (vmaxF l))], .int .i64 (bes1F hi ((ls.take 60) ++ [x]) ([] : List Int) (standF []) (vminF l)), .int .i64 (bes2F hi ((ls.take 60) ++ [x]) ([] : List Int) (standF []) (vmaxF l)), .int .i64 (bes1F hi ((ls.take 60) ++ [x]) ([] : List Int) (standF []) (vminF l)), .bool false, .bool false, .int .i64 (bes2F hi ((ls.take 60) ++ [x]) ([] : List Int) (standF []) (vmaxF l)), .bool false, .bool false], trivial, rfl, hp34⟩
    have hs29p := hs29
    simp only [zB] at hs29p
    obtain ⟨hs29p1, hs29p2⟩ := hs29p
    refine wp_cond_false (show Act.eval _ _ = .bool false from (congrArg Value.bool hs29)) ?_
    refine wp_skip ?_
    refine then_normal ?_
    have hp35 := hst28.pick [0, 1, 2, 3, 4, 5, 6, 7] (by decide) rfl
    exact ⟨[.bool false, undef, undef, .pointer (some ⟨B8_4, 1, none⟩), .int .i64 (vmaxF l), .int .i64 x, .bool ((vmaxF l) == x), .bool ((vmaxF l) == x), mb (!((vmaxF l) == x)) (.pointer (some ⟨B8_4, 0, none⟩)), mb (!((vmaxF l) == x)) (.int .i64 (vminF l)), mb (!((vmaxF l) == x)) (.int .i64 x), mb (!((vmaxF l) == x)) (.bool ((vminF l) == x)), .bool (((vmaxF l) == x) || ((vminF l) == x)), undef, undef, undef, undef, undef, undef, undef, undef, undef, undef, undef, undef, undef, undef, undef], trivial, rfl, hp35⟩
  rintro a27 W27 ⟨u27_, -, rfl, hst27⟩
  refine wp_seq ?_
  have hd37 : (VV == VV) = true := by simp
  refine wp_region_T [0, 1, 3, 7, 3, 19, 63, 127, 255, 511, 1023, 511, 2559, 8191, 16383, 32767, 65535, 131071, 65535, 327679, 1048575, 2097151, 4194303] [[], [], [], [7], [], [7], [], [], [], [], [7], [], [7], [], [], [], [], [7], [], [7]] [] [] [.k 91 (.bool true), .k 92 (.bool true), .c 93 (.pointer (some ⟨B11_17, 0, none⟩)), .c 94 (.bool VV), .c 95 (.pointer (some ⟨B11_17, 1, none⟩)), .c 96 (.bool VV), .c 97 (.bool true), .k 98 (.bool true), .k 99 (.bool true), .c 100 (.pointer (some ⟨B11_17, 1, none⟩)), .c 101 (.bool VV), .c 102 (.pointer (some ⟨B11_17, 2, none⟩)), .c 103 (.bool VV), .c 104 (.bool true), .k 105 (.bool true), .k 106 (.bool true), .c 107 (.pointer (some ⟨B11_17, 2, none⟩)), .c 108 (.bool VV), .c 109 (.pointer (some ⟨B11_17, 3, none⟩)), .c 110 (.bool VV), .c 111 (.bool true), .k 112 (.bool true), .k 6 (.bool true)] (fun _ _ _ _ => True) [0, 1, 2, 3, 4, 5, 6, 7] [2, 3, 4, 5, 6, 9, 10, 11, 12, 13, 16, 17, 18, 19, 20] [(6, 22, 1, 7), (84, 0, 22, 106)] hst27 ?_ ?_ ?_
  · exact fun _ _ _ _ _ _ _ _ _ _ h => h
  · refine ⟨?_, ?_, ?_, ?_, ?_, ?_, ?_, ?_, ?_, ?_, ?_, ?_, ?_, ?_, ?_, trivial⟩
    · exact s5 rfl (fun _ _ _ h => h) (fun cx => (cx.anc 1 rfl)) fun cx => run_indexArrB (n := 4) (sz := 1) (m := 0) (q := 0) rfl (by kernel_rfl) (cx.out 11 rfl) (cx.sees.const _) (by omega) (by omega) (by omega)
    · exact s5 rfl (fun _ _ _ h => h) (fun cx => (cx.anc 1 rfl)) fun cx => run_load1 rfl (by kernel_rfl) (cx.anc 2 rfl) ((cx.blk (cx.init 7 _ rfl) rfl).cell 0)
    · exact s5 rfl (fun _ _ _ h => h) (fun cx => (cx.anc 1 rfl)) fun cx => run_indexArrB (n := 4) (sz := 1) (m := 1) (q := 1) rfl (by kernel_rfl) (cx.out 11 rfl) (cx.sees.const _) (by omega) (by omega) (by omega)
    · exact s5 rfl (fun _ _ _ h => h) (fun cx => (cx.anc 1 rfl)) fun cx => run_load1 rfl (by kernel_rfl) (cx.anc 4 rfl) ((cx.blk (cx.init 7 _ rfl) rfl).cell 1)
    · exact sv0_on rfl rfl rfl rfl rfl rfl (fun _ _ _ h => h.trans (congrArg Value.bool hd37)) (fun _ _ _ _ cx => (cx.anc 1 rfl)) fun ρ β W X cx => by
        have fF94 : ρ (.tmp 94) = .bool VV := (cx.anc 3 rfl)
        have fF96 : ρ (.tmp 96) = .bool VV := (cx.anc 5 rfl)
        simp [go_sem, fF94, fF96]
    · exact s5 rfl (fun _ _ _ h => h) (fun cx => (cx.anc 8 rfl)) fun cx => run_indexArrB (n := 4) (sz := 1) (m := 1) (q := 1) rfl (by kernel_rfl) (cx.out 11 rfl) (cx.sees.const _) (by omega) (by omega) (by omega)
    · exact s5 rfl (fun _ _ _ h => h) (fun cx => (cx.anc 8 rfl)) fun cx => run_load1 rfl (by kernel_rfl) (cx.anc 9 rfl) ((cx.blk (cx.init 7 _ rfl) rfl).cell 1)
    · exact s5 rfl (fun _ _ _ h => h) (fun cx => (cx.anc 8 rfl)) fun cx => run_indexArrB (n := 4) (sz := 1) (m := 2) (q := 2) rfl (by kernel_rfl) (cx.out 11 rfl) (cx.sees.const _) (by omega) (by omega) (by omega)
    · exact s5 rfl (fun _ _ _ h => h) (fun cx => (cx.anc 8 rfl)) fun cx => run_load1 rfl (by kernel_rfl) (cx.anc 11 rfl) ((cx.blk (cx.init 7 _ rfl) rfl).cell 2)
    · exact sv0_on rfl rfl rfl rfl rfl rfl (fun _ _ _ h => h.trans (congrArg Value.bool hd37)) (fun _ _ _ _ cx => (cx.anc 8 rfl)) fun ρ β W X cx => by
        have fF101 : ρ (.tmp 101) = .bool VV := (cx.anc 10 rfl)
        have fF103 : ρ (.tmp 103) = .bool VV := (cx.anc 12 rfl)
        simp [go_sem, fF101, fF103]
    · exact s5 rfl (fun _ _ _ h => h) (fun cx => (cx.anc 15 rfl)) fun cx => run_indexArrB (n := 4) (sz := 1) (m := 2) (q := 2) rfl (by kernel_rfl) (cx.out 11 rfl) (cx.sees.const _) (by omega) (by omega) (by omega)
    · exact s5 rfl (fun _ _ _ h => h) (fun cx => (cx.anc 15 rfl)) fun cx => run_load1 rfl (by kernel_rfl) (cx.anc 16 rfl) ((cx.blk (cx.init 7 _ rfl) rfl).cell 2)
    · exact s5 rfl (fun _ _ _ h => h) (fun cx => (cx.anc 15 rfl)) fun cx => run_indexArrB (n := 4) (sz := 1) (m := 3) (q := 3) rfl (by kernel_rfl) (cx.out 11 rfl) (cx.sees.const _) (by omega) (by omega) (by omega)
    · exact s5 rfl (fun _ _ _ h => h) (fun cx => (cx.anc 15 rfl)) fun cx => run_load1 rfl (by kernel_rfl) (cx.anc 18 rfl) ((cx.blk (cx.init 7 _ rfl) rfl).cell 3)
    · exact sv0_on rfl rfl rfl rfl rfl rfl (fun _ _ _ h => h.trans (congrArg Value.bool hd37)) (fun _ _ _ _ cx => (cx.anc 15 rfl)) fun ρ β W X cx => by
        have fF108 : ρ (.tmp 108) = .bool VV := (cx.anc 17 rfl)
        have fF110 : ρ (.tmp 110) = .bool VV := (cx.anc 19 rfl)
        simp [go_sem, fF108, fF110]
  intro σ β X W36 hD hX hst36 fr hfr
  simp only [zM, exq 0 (hX 0 _ rfl), exq 1 (hX 1 _ rfl), exq 2 (hX 2 _ rfl), exq 3 (hX 3 _ rfl), exq 4 (hX 4 _ rfl), exq 5 (hX 5 _ rfl), exq 6 (hX 6 _ rfl), exq 7 (hX 7 _ rfl)] at hst36
  dsimp only [mgT, vals, List.take, List.drop, List.cons_append, List.nil_append] at hfr
  clear hX hD; subst hfr; clear σ β X
  refine then_normal ?_
  refine wp_ret ?_
  refine bodyPost_ret (v := .bool true) (by simp [results, Tryd.results5, go_sem]) rfl ?_
  exact Ret.of rfl hst36.ext

end Go.Proofs.YtfjpglohcppjeaaDoor

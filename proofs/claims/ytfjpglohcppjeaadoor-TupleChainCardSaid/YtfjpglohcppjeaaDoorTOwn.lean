/- the walk of TupleOwn. -/
import Derived.Test.YtfjpglohcppjeaaDoorT13
import Derived.Test.YtfjpglohcppjeaaDoorT5
namespace Go.Proofs.YtfjpglohcppjeaaDoor
open Go.RowKit
set_option linter.unusedVariables false
set_option linter.unusedSimpArgs false

/-- the states of all ids, as far as they are written -/
def rwL (bs : List Int) (k : Nat) : List Int := (List.range 125).map fun i => if i < k then standF bs (3 + (i : Int)) else 0
theorem rwL_len (bs : List Int) (k : Nat) : (rwL bs k).length = 125 := by simp [rwL]
set_option maxRecDepth 100000 in
theorem rwL_0 (bs : List Int) : rwL bs 0 = List.replicate 125 0 := rfl
theorem rwL_set (bs : List Int) (k : Nat) (h : k < 125) : (rwL bs k).set k (standF bs (3 + (k : Int))) = rwL bs (k + 1) := by
  apply List.ext_getElem
  · simp [rwL]
  · intro i h1 h2
    simp only [rwL, List.length_set, List.length_map, List.length_range] at h1
    rw [List.getElem_set]
    simp only [rwL, List.getElem_map, List.getElem_range]
    by_cases e : k = i
    · subst e; simp
    · rw [if_neg e]
      by_cases h3 : i < k
      · rw [if_pos h3, if_pos (by omega)]
      · rw [if_neg h3, if_neg (by omega)]
theorem standF_bd (bs : List Int) (x : Int) : 0 ≤ standF bs x ∧ standF bs x ≤ 4 := by
  unfold standF
  split
  · omega
  · split
    · omega
    · have := Int.emod_nonneg (bs.getD ((x - 3) % (bs.length : Int)).toNat 0) (show (5 : Int) ≠ 0 by decide)
      have := Int.emod_lt_of_pos (bs.getD ((x - 3) % (bs.length : Int)).toNat 0) (show (0 : Int) < 5 by decide)
      omega
theorem rwL_u8 (bs : List Int) (k : Nat) : ∀ b ∈ rwL bs k, 0 ≤ b ∧ b ≤ 255 := by
  intro b hb
  simp only [rwL, List.mem_map, List.mem_range] at hb
  obtain ⟨i, _, rfl⟩ := hb
  have := standF_bd bs (3 + (i : Int))
  split <;> omega
theorem set_u8 {l : List Int} (h : ∀ b ∈ l, 0 ≤ b ∧ b ≤ 255) (m : Nat) {v : Int} (hv : 0 ≤ v ∧ v ≤ 255) : ∀ b ∈ l.set m v, 0 ≤ b ∧ b ≤ 255 := by
  intro b hb
  rcases List.mem_or_eq_of_mem_set hb with h1 | rfl
  · exact h b h1
  · exact hv
/-- states that are given one by one -/
theorem standF_own {l : List Int} (hl : l.length = 125) {x v : Int} (hx : 3 ≤ x ∧ x < 128) : standF (l.set (x - 3).toNat v) x = v % 5 := by
  have h1 : (l.set (x - 3).toNat v).length = 125 := by rw [List.length_set, hl]
  rw [standF, if_neg (by omega), if_neg (by rw [h1]; omega), h1]
  have h2 : ((x - 3) % ((125 : Nat) : Int)).toNat = (x - 3).toNat := by omega
  rw [h2, List.getD_eq_getElem?_getD, List.getElem?_set_self (by omega)]
  rfl
theorem own_on {x : Int} (hx : 3 ≤ x ∧ x < 128) : onF x = true := onF_iff.2 hx
theorem own_ended {hi x : Int} {ls : List Int} {g : Int → Int} (hx : 3 ≤ x ∧ x < 128) (hc : ls.contains x = true) : endedF hi ls g x = false := by
  rw [endedF, if_neg (by omega), hc]; simp
theorem own1 {hi x : Int} {ls : List Int} {g : Int → Int} (hx : 3 ≤ x ∧ x < 128) (hc : ls.contains x = true) (hg : g x = 1) : visF hi ls [x] g x 0 = true := by simp [visF, didF, mineF, hg]
theorem own2 {hi x : Int} {ls : List Int} {g : Int → Int} (hx : 3 ≤ x ∧ x < 128) (hc : ls.contains x = true) (hg : g x = 1) : bes1F hi ls [x] g x = 0 := by simp [bes1F, besF]
theorem own4 {hi x : Int} {ls : List Int} {g : Int → Int} (hx : 3 ≤ x ∧ x < 128) (hc : ls.contains x = true) (hg : g x = 1) : bes1F hi ls [] g x = x := by
  have h1 := own_ended (hi := hi) (g := g) hx hc
  have h2 := own_on hx
  rw [bes1F, if_pos (by simp [besF, h1, h2, hg])]
theorem own5 {hi x : Int} {ls : List Int} {g : Int → Int} (hx : 3 ≤ x ∧ x < 128) (hc : ls.contains x = true) (hg : g x = 1) : visF hi ls [x] g x x = false := by
  have : x ≠ 0 := by omega
  simp [visF, didF, mineF, hg, this]
theorem own6 {hi x : Int} {ls : List Int} {g : Int → Int} (hx : 3 ≤ x ∧ x < 128) (hc : ls.contains x = true) (hg : g x = 1) : visF hi ls [x] g 2 x = false := by
  have : x ≠ 0 := by omega
  simp [visF, didF, mineF, hg, this]
theorem own7 {hi x : Int} {ls : List Int} {g : Int → Int} (hx : 3 ≤ x ∧ x < 128) (hc : ls.contains x = true) : visF hi ls [] g 2 x = true := by
  have h1 := own_ended (hi := hi) (g := g) hx hc
  have h2 : endedF hi ls g 2 = true := by rw [endedF, if_pos rfl]
  simp [visF, didF, mineF, h1, h2]
theorem own8 {hi x : Int} {ls : List Int} {g : Int → Int} (hx : 3 ≤ x ∧ x < 128) (hc : ls.contains x = true) (hg : g x = 3) : visF hi ls [x] g 2 x = true := by
  have h1 := own_ended (hi := hi) (g := g) hx hc
  have h2 : endedF hi ls g 2 = true := by rw [endedF, if_pos rfl]
  simp [visF, didF, mineF, hg, h1, h2]
theorem own9 {hi x : Int} {ls : List Int} {g : Int → Int} (hx : 3 ≤ x ∧ x < 128) (hc : ls.contains x = true) (hg : g x = 3) : visF hi ls [x] g x 0 = false := by
  have h1 := own_ended (hi := hi) (g := g) hx hc
  simp [visF, didF, mineF, hg, h1]
theorem own3 {hi : Int} {ls own : List Int} {g : Int → Int} : bes2F hi ls own g 0 = 0 := by simp [bes2F]
set_option maxRecDepth 100000 in
set_option maxHeartbeats 8000000 in
theorem tupleown_any (LA0 : Option Addr) (c0 : Nat) (l : List Int) (hi hz : Int) (LA : Option Addr) (lc : Nat) (ls : List Int) (OA : Option Addr) (oc : Nat) (own : List Int) (SA : Option Addr) (sc : Nat) (bs : List Int) (xa : Int) (w : World) (hA0 : At w LA0 (l.map (Value.int .i64))) (hl0 : l.length ≤ 9223372036854775807) (hL : At w LA (ls.map (Value.int .i64))) (hO : At w OA (own.map (Value.int .i64))) (hlc : ls.length ≤ lc) (hoc : own.length ≤ oc) (hSA : At w SA (bs.map (Value.int .u8))) (hbs : ∀ b ∈ bs, 0 ≤ b ∧ b ≤ 255) (hN : NoneAt w) :
    Calls Tryd.prog 7 #[.slice LA0 l.length c0, .agg #[.int .i64 hi, .slice LA ls.length lc, .slice OA own.length oc, .int .i64 hz, .slice SA bs.length sc], .int .i64 xa] w (Ret (.bool true) w) := by
  go_enter Tryd.func7, Tryd.ntmps7
  have hst0 := St.start w
  refine wp_seq ?_
  refine wp_region_T [0, 0] [] [[0]] [] [.a 4, .k 6 (.bool false)] (fun ix σ β X => match ix with | 0 => σ 4 = .pointer (some ⟨(pb (β 4)), 0, none⟩) ∧ X 0 = eB (pb (β 4)) 45 #[.int .i64 hi, .slice LA ls.length lc, .slice OA own.length oc, .int .i64 hz, .slice SA bs.length sc] | _ => True) [0] [0] [(4, 0, 1, 5), (1, 1, 1, 2)] hst0 ?_ ?_ ?_
  · exact fun ix _ _ _ _ _ _ hs hb hx h => match ix, h with
    | 0, h => by dsimp only at h ⊢; rw [← hs 4 rfl, ← hb 4 rfl, ← hx 0 rfl]; exact h
    | _ + 1, _ => trivial
  · refine ⟨?_, trivial⟩
    · refine sv_any rfl rfl fun ρ β W X cx => ?_
      exact dv_box (cs := #[.int .i64 hi, .slice LA ls.length lc, .slice OA own.length oc, .int .i64 hz, .slice SA bs.length sc]) rfl (cx.out 1 rfl) rfl rfl rfl (fun σ β' X' hs hb hv hx => ⟨hv, hx⟩)
  intro σ β X W1 hD hX hst1 fr hfr
  obtain ⟨B4_1, hu_B4_1⟩ : ∃ z, pb (β 4) = z := ⟨_, rfl⟩
  simp only [zM, exq 0 ((dTn (hD 0 lq)).2), hu_B4_1] at hst1
  dsimp only [mgT, vals, List.take, List.drop, List.cons_append, List.nil_append] at hfr
  simp only [ed 4 ((dTn (hD 0 lq)).1), hu_B4_1] at hfr
  clear hX hD hu_B4_1; subst hfr; clear σ β X
  refine then_normal ?_
  refine wp_seq ?_
  refine wp_region_T [0, 1] [] [] [] [.c 22 (.bool true), .k 7 (.bool true)] (fun _ _ _ _ => True) [0] [0] [(7, 1, 1, 8), (14, 0, 1, 15)] hst1 ?_ ?_ ?_
  · exact fun _ _ _ _ _ _ _ _ _ _ h => h
  · refine ⟨?_, trivial⟩
    · exact sv_call rfl rfl rfl rfl rfl (fun _ _ _ h => h) fun ρ β W X cx => ⟨_, _, run_callF (args := #[]) rfl cx.sees rfl (by kernel_rfl) map0, sanity_any _ (hN.ext cx.upd.to_ext)⟩
  intro σ β X W2 hD hX hst2 fr hfr
  simp only [zM, exq 0 (hX 0 _ rfl)] at hst2
  dsimp only [mgT, vals, List.take, List.drop, List.cons_append, List.nil_append] at hfr
  clear hX hD; subst hfr; clear σ β X
  refine then_normal ?_
  refine wp_seq ?_
  refine wp_region_T [0, 1, 3] [[0], [], [0]] [[], [1, 2], [3]] [[], [], [0]] [.c 23 (.agg #[.int .i64 hi, .slice LA ls.length lc, .slice OA own.length oc, .int .i64 hz, .slice SA bs.length sc]), .a 24, .n] (fun ix σ β X => match ix with | 0 => True | 1 => σ 24 = .agg #[.int .i64 hi, .slice (sA (tg (β 24) 1)) ((ls.take 60).length) (sC (tg (β 24) 1)), .slice (sA (tg (β 24) 2)) ((own.take 20).length) (sC (tg (β 24) 2)), .int .i64 hz, .slice SA bs.length sc] ∧ X 1 = eO 3 1 (.slice (sA (tg (β 24) 1)) ((ls.take 60).length) (sC (tg (β 24) 1))) ((ls.take 60).length) ((ls.take 60).map (Value.int .i64)) ∧ X 2 = eO 3 1 (.slice (sA (tg (β 24) 2)) ((own.take 20).length) (sC (tg (β 24) 2))) ((own.take 20).length) ((own.take 20).map (Value.int .i64)) | 2 => X 3 = eB B4_1 45 #[.int .i64 hi, .slice (sA (tg (β 24) 1)) ((ls.take 60).length) (sC (tg (β 24) 1)), .slice (sA (tg (β 24) 2)) ((own.take 20).length) (sC (tg (β 24) 2)), .int .i64 hz, .slice SA bs.length sc] | _ => True) [1, 2, 3] [0, 1, 2] [(23, 0, 2, 25)] hst2 ?_ ?_ ?_
  · exact fun ix _ _ _ _ _ _ hs hb hx h => match ix, h with
    | 1, h => by dsimp only at h ⊢; rw [← hs 24 rfl, ← hb 24 rfl, ← hx 1 rfl, ← hx 2 rfl]; exact h
    | 2, h => by dsimp only at h ⊢; rw [← hb 24 rfl, ← hx 3 rfl]; exact h
    | 0, _ | _ + 3, _ => trivial
  · refine ⟨?_, ?_, ?_, trivial⟩
    · exact s4 rfl (fun _ _ _ h => h) fun cx => run_loadB (n := 5) rfl (by kernel_rfl) (by kernel_rfl) (cx.out 4 rfl) (cx.blk (cx.init 0 _ rfl) rfl) (Nat.le_of_ble_eq_true rfl) rfl
    · refine sv_any rfl rfl fun ρ β W X cx => ?_
      refine DoesU.call (run_callF (args := #[.agg #[.int .i64 hi, .slice LA ls.length lc, .slice OA own.length oc, .int .i64 hz, .slice SA bs.length sc]]) rfl cx.sees rfl (by kernel_rfl) (map1 (cx.anc 0 rfl))) ?_
      refine (cut_any hi hz _ _ ls _ _ own _ _ _ _ (hL.ext cx.upd.to_ext) (hO.ext cx.upd.to_ext) hlc hoc).mono ?_
      rintro e W1 ⟨A4, c4, B4, d4, rfl, hc⟩
      refine ⟨_, rfl, post_st [eO 3 1 (.slice A4 (ls.take 60).length c4) (ls.take 60).length ((ls.take 60).map (Value.int .i64)), eO 3 1 (.slice B4 (own.take 20).length d4) (own.take 20).length ((own.take 20).map (Value.int .i64))] rfl rfl hc (fun σ β' X' hs hb hv hN => ?_)⟩
      have hv1 := (hv 24 rfl).1; have hv2 := (hv 24 rfl).2
      exact ⟨hv1.trans (by rw [hv2]; rfl), (by rw [hv2]; exact (List.cons.inj hN).1), (by rw [hv2]; exact (List.cons.inj (List.cons.inj hN).2).1)⟩
    · refine sv_any rfl rfl fun ρ β W X cx => ?_
      exact dv_store (n := 5) rfl (cx.out 4 rfl) (dTn (cx.anc 1 rfl)).1 (by kernel_rfl) rfl rfl cx (cx.init 0 _ rfl) rfl (Nat.le_of_ble_eq_true rfl) rfl rfl rfl rfl (fun σ β' X' hs hb hx => by rw [hb 24]; exact hx)
  intro σ β X W3 hD hX hst3 fr hfr
  obtain ⟨A24_3, hu_A24_3⟩ : ∃ z, sA (tg (β 24) 1) = z := ⟨_, rfl⟩
  obtain ⟨c24_3, hu_c24_3⟩ : ∃ z, sC (tg (β 24) 1) = z := ⟨_, rfl⟩
  obtain ⟨A24q_3, hu_A24q_3⟩ : ∃ z, sA (tg (β 24) 2) = z := ⟨_, rfl⟩
  obtain ⟨c24q_3, hu_c24q_3⟩ : ∃ z, sC (tg (β 24) 2) = z := ⟨_, rfl⟩
  simp only [zM, exq 1 ((dTn (hD 1 lq)).2.1), exq 2 ((dTn (hD 1 lq)).2.2), exq 3 ((dTn (hD 2 lq))), hu_A24_3, hu_c24_3, hu_A24q_3, hu_c24q_3] at hst3
  dsimp only [mgT, vals, List.take, List.drop, List.cons_append, List.nil_append] at hfr
  simp only [ed 24 ((dTn (hD 1 lq)).1), hu_A24_3, hu_c24_3, hu_A24q_3, hu_c24q_3] at hfr
  clear hX hD hu_A24_3 hu_c24_3 hu_A24q_3 hu_c24q_3; subst hfr; clear σ β X
  refine then_normal ?_
  refine wp_seq ?_
  refine wp_region_T [0, 1, 0, 7] [[], [], [], [4]] [[], [3], [4], [5]] [[], [], [], [4]] [.k 25 (.slice LA0 l.length c0), .a 26, .a 8, .n] (fun ix σ β X => match ix with | 0 => True | 1 => σ 26 = .agg #[.int .i64 (vminF l), .int .i64 (vmaxF l), .int .i64 (vpgF l), .int .i64 (vslF l), .bool (vhotF l), .slice (sA (tg (β 26) 5)) ((vrowF l).length) (sC (tg (β 26) 5))] ∧ X 3 = eO 103 3 (.slice (sA (tg (β 26) 5)) ((vrowF l).length) (sC (tg (β 26) 5))) ((vrowF l).length) (flatR (vrowF l)) | 2 => σ 8 = .pointer (some ⟨(pb (β 8)), 0, none⟩) ∧ X 4 = eB (pb (β 8)) 27 #[.int .i64 0, .int .i64 0, .int .i64 0, .int .i64 0, .bool false, .slice none 0 0] | 3 => X 5 = eB (pb (β 8)) 27 #[.int .i64 (vminF l), .int .i64 (vmaxF l), .int .i64 (vpgF l), .int .i64 (vslF l), .bool (vhotF l), .slice (sA (tg (β 26) 5)) ((vrowF l).length) (sC (tg (β 26) 5))] | _ => True) [0, 1, 2, 3, 5] [1, 2, 3] [(8, 2, 1, 9), (16, 0, 2, 18)] hst3 ?_ ?_ ?_
  · exact fun ix _ _ _ _ _ _ hs hb hx h => match ix, h with
    | 1, h => by dsimp only at h ⊢; rw [← hs 26 rfl, ← hb 26 rfl, ← hx 3 rfl]; exact h
    | 2, h => by dsimp only at h ⊢; rw [← hs 8 rfl, ← hb 8 rfl, ← hx 4 rfl]; exact h
    | 3, h => by dsimp only at h ⊢; rw [← hb 8 rfl, ← hb 26 rfl, ← hx 5 rfl]; exact h
    | 0, _ | _ + 4, _ => trivial
  · refine ⟨?_, ?_, ?_, trivial⟩
    · refine sv_any rfl rfl fun ρ β W X cx => ?_
      refine DoesU.call (run_callF (args := #[.slice LA0 l.length c0]) rfl cx.sees rfl (by kernel_rfl) (map1 (cx.anc 0 rfl))) ?_
      refine (made08_any _ _ l _ (hA0.ext cx.upd.to_ext) (by omega)).mono ?_
      rintro e W1 ⟨A4, c4, rfl, ho, hx⟩
      refine ⟨_, rfl, post_call [eO 103 3 (.slice A4 ((vrowF l).length) c4) ((vrowF l).length) (flatR (vrowF l))] rfl rfl hx (one_new (eO_new ho)) (List.pairwise_singleton _ _) (fun σ β' X' hs hb hv hN => ?_)⟩
      have hv1 := (hv 26 rfl).1; have hv2 := (hv 26 rfl).2
      exact ⟨hv1.trans (by rw [hv2]; rfl), (by rw [hv2]; exact (List.cons.inj hN).1)⟩
    · refine sv_any rfl rfl fun ρ β W X cx => ?_
      exact dv_alloc (cs := #[.int .i64 0, .int .i64 0, .int .i64 0, .int .i64 0, .bool false, .slice none 0 0]) rfl (by kernel_rfl) rfl rfl (fun σ β' X' hs hb hv hx => ⟨hv, hx⟩)
    · refine sv_any rfl rfl fun ρ β W X cx => ?_
      exact dv_store (n := 6) rfl (dTn (cx.anc 2 rfl)).1 (dTn (cx.anc 1 rfl)).1 (by kernel_rfl) rfl rfl cx (dTn (cx.anc 2 rfl)).2 rfl (Nat.le_of_ble_eq_true rfl) rfl rfl rfl rfl (fun σ β' X' hs hb hx => by rw [hb 8, hb 26]; exact hx)
  intro σ β X W4 hD hX hst4 fr hfr
  obtain ⟨A26_4, hu_A26_4⟩ : ∃ z, sA (tg (β 26) 5) = z := ⟨_, rfl⟩
  obtain ⟨c26_4, hu_c26_4⟩ : ∃ z, sC (tg (β 26) 5) = z := ⟨_, rfl⟩
  obtain ⟨B8_4, hu_B8_4⟩ : ∃ z, pb (β 8) = z := ⟨_, rfl⟩
  simp only [zM, exq 0 (hX 0 _ rfl), exq 1 (hX 1 _ rfl), exq 2 (hX 2 _ rfl), exq 3 ((dTn (hD 1 lq)).2), exq 5 ((dTn (hD 3 lq))), hu_A26_4, hu_c26_4, hu_B8_4] at hst4
  dsimp only [mgT, vals, List.take, List.drop, List.cons_append, List.nil_append] at hfr
  simp only [ed 26 ((dTn (hD 1 lq)).1), ed 8 ((dTn (hD 2 lq)).1), hu_A26_4, hu_c26_4, hu_B8_4] at hfr
  clear hX hD hu_A26_4 hu_c26_4 hu_B8_4; subst hfr; clear σ β X
  refine then_normal ?_
  refine wp_seq ?_
  obtain ⟨x, hxe, hx⟩ : ∃ z : Int, 3 + xa % 65536 % 125 = z ∧ 3 ≤ z ∧ z < 128 := ⟨_, rfl, by omega, by omega⟩
  refine wp_region_P [0, 1, 3, 7, 15] [.k 27 (.int .i64 xa), tAn 28 .i64 xa 65535 (xa % 65536) (bits_mask xa 16 (by decide)), tRe 29 .i64 (xa % 65536) 125 ((xa % 65536) % 125) (Int.tmod_eq_emod_of_nonneg (by omega)), tW 30 .i64 (3 + ((xa % 65536) % 125)) x ((IntWalk.i64_in _ (by omega)).trans hxe), .k 2 (.int .i64 x)] [(2, 4, 1, 3), (24, 0, 4, 28)] hst4 fun W5 hst5 => ?_
  refine then_normal ?_
  refine wp_seq ?_
  refine wp_region_T [0, 1] [] [[5]] [] [.a 31, .a 9] (fun ix σ β X => match ix with | 0 => σ 31 = .slice (sA (β 31)) 125 125 ∧ X 5 = eO 5 1 (.slice (sA (β 31)) 125 125) 125 ((List.replicate 125 (0 : Int)).map (Value.int .u8)) | 1 => σ 9 = .slice (sA (β 31)) 125 125 | _ => True) [0, 1, 2, 3, 4, 5] [0, 1] [(9, 1, 1, 10), (21, 0, 1, 22)] hst5 ?_ ?_ ?_
  · exact fun ix _ _ _ _ _ _ hs hb hx h => match ix, h with
    | 0, h => by dsimp only at h ⊢; rw [← hs 31 rfl, ← hb 31 rfl, ← hx 5 rfl]; exact h
    | 1, h => by dsimp only at h ⊢; rw [← hs 9 rfl, ← hb 31 rfl]; exact h
    | _ + 2, _ => trivial
  · refine ⟨?_, ?_, trivial⟩
    · refine sv_any rfl rfl fun ρ β W X cx => ?_
      obtain ⟨i0, hi0, hz0, hz1, hz2⟩ := info_parts Tryd.infoU8
      exact dv_make (n := 125) rfl (by kernel_rfl) hi0 hz0 hz1 hz2 rfl (cx.sees.const _) (cx.sees.const _) (by omega) (by omega) (by omega) (by omega) rfl rfl (fun σ β' X' hs hb hv hx => ⟨hv, by rw [List.map_replicate]; exact hx⟩)
    · exact sv rfl rfl rfl rfl rfl _ (fun _ _ _ h => h) (fun β β' h => by rw [h 31 (by decide)]) fun ρ β W X cx => run_assign' rfl (dTn (cx.anc 0 rfl)).1
  intro σ β X W6 hD hX hst6 fr hfr
  obtain ⟨A31_6, hu_A31_6⟩ : ∃ z, sA (β 31) = z := ⟨_, rfl⟩
  simp only [zM, exq 0 (hX 0 _ rfl), exq 1 (hX 1 _ rfl), exq 2 (hX 2 _ rfl), exq 3 (hX 3 _ rfl), exq 4 (hX 4 _ rfl), exq 5 ((dTn (hD 0 lq)).2), hu_A31_6] at hst6
  dsimp only [mgT, vals, List.take, List.drop, List.cons_append, List.nil_append] at hfr
  simp only [ed 31 ((dTn (hD 0 lq)).1), ed 9 ((dTn (hD 1 lq))), hu_A31_6] at hfr
  clear hX hD hu_A31_6; subst hfr; clear σ β X
  refine then_normal ?_
  refine wp_seq ?_
  refine wp_seq ?_
  rw [← rwL_0 bs] at hst6
  refine wp_region_P [0] [.k 10 (.int .i64 0)] [(10, 0, 1, 11)] hst6 fun W7 hst7 => ?_
  refine then_normal ?_
  refine wp_block ?_
  refine wp_loopN (fun mz az W => ∃ k : Nat, ∃ u8_ : List Value, k ≤ 125 ∧ mz = 125 - k ∧ az = ⟨#[.slice LA0 l.length c0, .agg #[.int .i64 hi, .slice LA ls.length lc, .slice OA own.length oc, .int .i64 hz, .slice SA bs.length sc], .int .i64 x, undef, .pointer (some ⟨B4_1, 0, none⟩), undef, .bool false, .bool true, .pointer (some ⟨B8_4, 0, none⟩), .slice A31_6 125 125, .int .i64 ((k : Int)), undef, undef, undef, undef, undef, undef, undef, undef, undef, undef, undef, .bool true, .agg #[.int .i64 hi, .slice LA ls.length lc, .slice OA own.length oc, .int .i64 hz, .slice SA bs.length sc], .agg #[.int .i64 hi, .slice A24_3 ((ls.take 60).length) c24_3, .slice A24q_3 ((own.take 20).length) c24q_3, .int .i64 hz, .slice SA bs.length sc], .slice LA0 l.length c0, .agg #[.int .i64 (vminF l), .int .i64 (vmaxF l), .int .i64 (vpgF l), .int .i64 (vslF l), .bool (vhotF l), .slice A26_4 ((vrowF l).length) c26_4], .int .i64 xa, .int .i64 (xa % 65536), .int .i64 ((xa % 65536) % 125), .int .i64 x, .slice A31_6 125 125, (u8_.getD 0 undef), (u8_.getD 1 undef), (u8_.getD 2 undef), (u8_.getD 3 undef), (u8_.getD 4 undef), (u8_.getD 5 undef), (u8_.getD 6 undef), (u8_.getD 7 undef), (u8_.getD 8 undef), (u8_.getD 9 undef), (u8_.getD 10 undef), (u8_.getD 11 undef), (u8_.getD 12 undef), undef, undef, undef, undef, undef, undef, undef, undef, undef, undef, undef, undef, undef, undef, undef, undef, undef, undef, undef, undef, undef, undef, undef, undef, undef, undef, undef, undef, undef, undef, undef, undef, undef, undef, undef, undef, undef, undef, undef, undef, undef, undef, undef, undef, undef, undef, undef, undef, undef, undef, undef, undef, undef, undef, undef, undef, undef, undef, undef, undef, undef, undef, undef, undef, undef, undef, undef, undef, undef, undef, undef, undef, undef, undef, undef, undef, undef, undef, undef, undef, undef, undef, undef, undef, undef, undef, undef, undef, undef, undef, undef, undef, undef, undef, undef, undef, undef, undef, undef, undef, undef, undef, undef, undef, undef, undef, undef, undef, undef, undef, undef, undef, undef, undef, undef, undef, undef, undef, undef, undef, undef, undef], []⟩ ∧ St w [] [eO 3 1 (.slice A24_3 ((ls.take 60).length) c24_3) ((ls.take 60).length) ((ls.take 60).map (Value.int .i64)), eO 3 1 (.slice A24q_3 ((own.take 20).length) c24q_3) ((own.take 20).length) ((own.take 20).map (Value.int .i64)), eB B4_1 45 #[.int .i64 hi, .slice A24_3 ((ls.take 60).length) c24_3, .slice A24q_3 ((own.take 20).length) c24q_3, .int .i64 hz, .slice SA bs.length sc], eO 103 3 (.slice A26_4 ((vrowF l).length) c26_4) ((vrowF l).length) (flatR (vrowF l)), eB B8_4 27 #[.int .i64 (vminF l), .int .i64 (vmaxF l), .int .i64 (vpgF l), .int .i64 (vslF l), .bool (vhotF l), .slice A26_4 ((vrowF l).length) c26_4], eO 5 1 (.slice A31_6 125 125) 125 ((rwL bs k).map (Value.int .u8))] W) (125 - 0) ?_ ?_
  · -- the loop begins
    have hp9 := hst7.pick [0, 1, 2, 3, 4, 5] (by decide) rfl
    exact ⟨0, [undef, undef, undef, undef, undef, undef, undef, undef, undef, undef, undef, undef, undef], by omega, rfl, rfl, hp9⟩
  rintro n8 a8 W8 ⟨k, u8_, hk, rfl, rfl, hst8⟩
  have hsb := standF_bd bs (3 + (k : Int))
  refine wp_seq ?_
  refine wp_seq ?_
  refine wp_region_P [0, 1] [.k 32 (.int .i64 ((k : Int))), .k 33 (.bool (decide ((k : Int) < 125)))] [(32, 0, 2, 34)] hst8 fun W10 hst10 => ?_
  refine then_normal ?_
  rcases Bool.eq_false_or_eq_true (decide ((k : Int) < 125)) with hs11 | hs11
  · skip
    have hs11p : (k : Int) < 125 := by simpa using hs11
    refine wp_cond_true (show Act.eval _ _ = .bool true from (congrArg Value.bool hs11)) ?_
    refine wp_skip ?_
    refine then_normal ?_
    refine wp_seq ?_
    refine wp_block ?_
    refine wp_region_T [0, 0, 0, 4, 0, 16, 60, 124, 255, 511] [[], [], [], [2], [], [], [], [], [5], [5]] [[], [], [], [], [], [], [], [], [], [6]] [[], [], [], [], [], [], [], [], [], [5]] [.k 36 (.slice A31_6 125 125), .k 37 (.int .i64 ((k : Int))), .k 38 (.pointer (some ⟨B4_1, 4, none⟩)), .c 39 (.slice SA bs.length sc), .k 40 (.int .i64 ((k : Int))), tI 41 (3 + (k : Int)) (by omega), .c 42 (.int .i64 (standF bs (3 + (k : Int)))), tW 43 .u8 (standF bs (3 + (k : Int))) (standF bs (3 + (k : Int))) (IntWalk.u8_in _ (by omega)), .c 44 (.pointer (some ((ad A31_6).add k))), .n] (fun ix σ β X => match ix with | 0 => True | 1 => True | 2 => True | 3 => True | 4 => True | 5 => True | 6 => True | 7 => True | 8 => True | 9 => X 6 = eO 5 1 (.slice A31_6 125 125) 125 ((rwL bs (k + 1)).map (Value.int .u8)) | _ => True) [0, 1, 2, 3, 4, 6] [3, 6, 8, 9] [(36, 0, 9, 45)] hst10 ?_ ?_ ?_
    · exact fun ix _ _ _ _ _ _ hs hb hx h => match ix, h with
      | 9, h => by dsimp only at h ⊢; rw [← hx 6 rfl]; exact h
      | 0, _ | 1, _ | 2, _ | 3, _ | 4, _ | 5, _ | 6, _ | 7, _ | 8, _ | _ + 10, _ => trivial
    · refine ⟨?_, ?_, ?_, ?_, trivial⟩
      · exact s4 rfl (fun _ _ _ h => h) fun cx => run_load1 rfl (by kernel_rfl) (cx.anc 2 rfl) ((cx.blk (cx.init 2 _ rfl) rfl).cell 4)
      · exact sv_call rfl rfl rfl rfl rfl (fun _ _ _ h => h) fun ρ β W X cx => ⟨_, _, run_callF (args := #[.slice SA bs.length sc, .int .i64 (3 + (k : Int))]) rfl cx.sees rfl (by kernel_rfl) (map2 (cx.anc 3 rfl) (cx.anc 5 rfl)), stand_any _ _ bs (3 + (k : Int)) _ (hSA.ext cx.upd.to_ext) hbs⟩
      · exact s4 rfl (fun _ _ _ h => h) fun cx => run_indexSl (e := 5) (m := k) rfl (by kernel_rfl) (by kernel_rfl) (cx.anc 0 rfl) (cx.anc 1 rfl) (by omega) (by omega) (At.of_own (cx.row (cx.init 5 _ rfl) rfl)) ((by simp [rwL_len]))
      · refine sv_any rfl rfl fun ρ β W X cx => ?_
        exact dv_storeRow (m := k) (n := 125) rfl (cx.anc 8 rfl) (cx.anc 7 rfl) (by kernel_rfl) rfl rfl cx (cx.init 5 _ rfl) rfl (by omega) rfl (by rw [← List.map_set, rwL_set bs k (by omega)]) rfl rfl (fun σ β' X' hs hb hx => hx)
    intro σ β X W12 hD hX hst12 fr hfr
    simp only [zM, exq 0 (hX 0 _ rfl), exq 1 (hX 1 _ rfl), exq 2 (hX 2 _ rfl), exq 3 (hX 3 _ rfl), exq 4 (hX 4 _ rfl), exq 6 ((dTn (hD 9 lq)))] at hst12
    dsimp only [mgT, vals, List.take, List.drop, List.cons_append, List.nil_append] at hfr
    clear hX hD; subst hfr; clear σ β X
    refine blk_normal ?_
    refine then_normal ?_
    refine wp_region_P [0, 1, 3] [.k 34 (.int .i64 ((k : Int))), tI 35 ((k : Int) + 1) (by omega), .k 10 (.int .i64 ((k : Int) + 1))] [(10, 2, 1, 11), (23, 0, 2, 25)] hst12 fun W13 hst13 => ?_
    refine then_normal ?_
    refine ⟨125 - ((k + 1)), by omega, ?_⟩
    have hp14 := hst13.pick [0, 1, 2, 3, 4, 5] (by decide) rfl
    exact ⟨(k + 1), [.int .i64 ((k : Int)), .bool (decide ((k : Int) < 125)), .int .i64 ((k : Int)), .int .i64 ((k : Int) + 1), .slice A31_6 125 125, .int .i64 ((k : Int)), .pointer (some ⟨B4_1, 4, none⟩), .slice SA bs.length sc, .int .i64 ((k : Int)), .int .i64 (3 + (k : Int)), .int .i64 (standF bs (3 + (k : Int))), .int .u8 (standF bs (3 + (k : Int))), .pointer (some ((ad A31_6).add k))], by omega, rfl, rfl, hp14⟩
  have hs11p : ¬ ((k : Int) < 125) := by simpa using hs11
  refine wp_cond_false (show Act.eval _ _ = .bool false from (congrArg Value.bool hs11)) ?_
  refine wp_exit ?_
  refine then_exit ?_
  refine then_exit ?_
  refine blk_eq ?_
  refine then_normal ?_
  refine wp_seq ?_
  obtain rfl : k = 125 := by omega
  obtain ⟨RW, hRW⟩ : ∃ z, rwL bs 125 = z := ⟨_, rfl⟩
  have hRl : RW.length = 125 := by rw [← hRW]; exact rwL_len bs 125
  have hRu : ∀ b ∈ RW, 0 ≤ b ∧ b ≤ 255 := by rw [← hRW]; exact rwL_u8 bs 125
  rw [hRW] at hst10
  have hg1 := standF_own hRl (v := 1) hx
  have hg3 := standF_own (l := RW.set (x - 3).toNat 1) (by rw [List.length_set]; exact hRl) (v := 3) hx
  have hu1 := set_u8 hRu (x - 3).toNat (v := 1) (by decide)
  have hu3 := set_u8 hu1 (x - 3).toNat (v := 3) (by decide)
  have hc : ((ls.take 60) ++ [x]).contains x = true := by simp
  have hl60 : (ls.take 60).length ≤ 60 := by rw [List.length_take]; omega
  have hll : ((ls.take 60) ++ [x]).length ≤ 61 := by rw [List.length_append, List.length_take]; simp; omega
  have hl1 : (RW.set (x - 3).toNat 1).length = 125 := by rw [List.length_set]; exact hRl
  have hl3 : ((RW.set (x - 3).toNat 1).set (x - 3).toNat 3).length = 125 := by rw [List.length_set]; exact hl1
  refine wp_region_T [0, 0, 2, 7, 15] [[], [], [], [5], [5]] [[], [], [], [], [6]] [[], [], [], [], [5]] [.k 45 (.slice A31_6 125 125), .k 46 (.int .i64 x), tI 47 (x - 3) (by omega), .c 48 (.pointer (some ((ad A31_6).add ((x - 3).toNat)))), .n] (fun ix σ β X => match ix with | 0 => True | 1 => True | 2 => True | 3 => True | 4 => X 6 = eO 5 1 (.slice A31_6 125 125) 125 ((RW.set (x - 3).toNat 1).map (Value.int .u8)) | _ => True) [0, 1, 2, 3, 4, 6] [3, 4] [(45, 0, 4, 49)] hst10 ?_ ?_ ?_
  · exact fun ix _ _ _ _ _ _ hs hb hx h => match ix, h with
    | 4, h => by dsimp only at h ⊢; rw [← hx 6 rfl]; exact h
    | 0, _ | 1, _ | 2, _ | 3, _ | _ + 5, _ => trivial
  · refine ⟨?_, ?_, trivial⟩
    · exact s4 rfl (fun _ _ _ h => h) fun cx => run_indexSl (e := 5) (m := (x - 3).toNat) rfl (by kernel_rfl) (by kernel_rfl) (cx.anc 0 rfl) (cx.anc 2 rfl) (by omega) (by omega) (At.of_own (cx.row (cx.init 5 _ rfl) rfl)) ((by simp [hRl]))
    · refine sv_any rfl rfl fun ρ β W X cx => ?_
      exact dv_storeRow (m := (x - 3).toNat) (n := 125) rfl (cx.anc 3 rfl) (cx.sees.const _) (by kernel_rfl) rfl rfl cx (cx.init 5 _ rfl) rfl (by omega) rfl (by rw [← List.map_set]) rfl rfl (fun σ β' X' hs hb hx => hx)
  intro σ β X W15 hD hX hst15 fr hfr
  simp only [zM, exq 0 (hX 0 _ rfl), exq 1 (hX 1 _ rfl), exq 2 (hX 2 _ rfl), exq 3 (hX 3 _ rfl), exq 4 (hX 4 _ rfl), exq 6 ((dTn (hD 4 lq)))] at hst15
  dsimp only [mgT, vals, List.take, List.drop, List.cons_append, List.nil_append] at hfr
  clear hX hD; subst hfr; clear σ β X
  refine then_normal ?_
  refine wp_seq ?_
  refine wp_region_T [0, 1, 3, 0, 8, 31, 63, 127, 255] [[], [], [2], [], [], [6, 0], [], [], [2]] [[], [], [], [], [6], [7], [], [], [8]] [[], [], [], [], [], [0], [], [], [2]] [.k 49 (.pointer (some ⟨B4_1, 0, none⟩)), .k 50 (.pointer (some ⟨B4_1, 1, none⟩)), .c 51 (.slice A24_3 ((ls.take 60).length) c24_3), .k 52 (.int .i64 x), .a 53, .a 54, .k 55 (.pointer (some ⟨B4_1, 0, none⟩)), .k 56 (.pointer (some ⟨B4_1, 1, none⟩)), .n] (fun ix σ β X => match ix with | 0 => True | 1 => True | 2 => True | 3 => True | 4 => σ 53 = .slice (sA (β 53)) 1 1 ∧ X 6 = eO 3 1 (.slice (sA (β 53)) 1 1) 1 ([.int .i64 x]) | 5 => σ 54 = .slice (sA (β 54)) (((ls.take 60) ++ [x]).length) (sC (β 54)) ∧ X 7 = eO 3 1 (.slice (sA (β 54)) (((ls.take 60) ++ [x]).length) (sC (β 54))) (((ls.take 60) ++ [x]).length) (((ls.take 60) ++ [x]).map (Value.int .i64)) | 6 => True | 7 => True | 8 => X 8 = eB B4_1 45 #[.int .i64 hi, .slice (sA (β 54)) (((ls.take 60) ++ [x]).length) (sC (β 54)), .slice A24q_3 ((own.take 20).length) c24q_3, .int .i64 hz, .slice SA bs.length sc] | _ => True) [1, 3, 4, 5, 6, 7, 8] [2, 4, 5, 8] [(49, 0, 8, 57)] hst15 ?_ ?_ ?_
  · exact fun ix _ _ _ _ _ _ hs hb hx h => match ix, h with
    | 4, h => by dsimp only at h ⊢; rw [← hs 53 rfl, ← hb 53 rfl, ← hx 6 rfl]; exact h
    | 5, h => by dsimp only at h ⊢; rw [← hs 54 rfl, ← hb 54 rfl, ← hx 7 rfl]; exact h
    | 8, h => by dsimp only at h ⊢; rw [← hb 54 rfl, ← hx 8 rfl]; exact h
    | 0, _ | 1, _ | 2, _ | 3, _ | 6, _ | 7, _ | _ + 9, _ => trivial
  · refine ⟨?_, ?_, ?_, ?_, trivial⟩
    · exact s4 rfl (fun _ _ _ h => h) fun cx => run_load1 rfl (by kernel_rfl) (cx.anc 1 rfl) ((cx.blk (cx.init 2 _ rfl) rfl).cell 1)
    · refine sv_any rfl rfl fun ρ β W X cx => ?_
      have fF52 : ρ (.tmp 52) = .int .i64 x := (cx.anc 3 rfl)
      exact dv_lit (e := 3) (xs := [.int .i64 x]) rfl (by simp [go_sem, fF52]) rfl (by decide) rfl rfl (fun σ β' X' hs hb hv hx => ⟨hv, hx⟩)
    · refine sv_any rfl rfl fun ρ β W X cx => ?_
      obtain ⟨i0, hi0, hz0, hz1, hz2⟩ := info_parts Tryd.infoInt
      refine dv_append (n := (ls.take 60).length) (m := 1) (nm := ((ls.take 60) ++ [x]).length) (xs := (ls.take 60).map (Value.int .i64)) (news := [.int .i64 x]) (xs' := ((ls.take 60) ++ [x]).map (Value.int .i64)) rfl (ty := 28) rfl (by kernel_rfl) hi0 hz0 hz1 hz2 rfl (cx.anc 2 rfl) cx (cx.init 0 _ rfl) rfl (dTn (cx.anc 4 rfl)).1 (by first | (simp; done) | (simp; omega)) (At.of_own (cx.row (dTn (cx.anc 4 rfl)).2 rfl)) (by simp [Value.oneCell']) (by simp only [maxLen]; omega) (by omega) rfl rfl rfl (by simp) (by simp) (fun σ β' X' hs hb hv hx => ?_)
      exact ⟨hv, hx⟩
    · refine sv_any rfl rfl fun ρ β W X cx => ?_
      exact dv_store (n := 1) rfl (cx.anc 7 rfl) (dTn (cx.anc 5 rfl)).1 (by kernel_rfl) rfl rfl cx (cx.init 2 _ rfl) rfl (Nat.le_of_ble_eq_true rfl) rfl rfl rfl rfl (fun σ β' X' hs hb hx => by rw [hb 54]; exact hx)
  intro σ β X W16 hD hX hst16 fr hfr
  obtain ⟨A53_16, hu_A53_16⟩ : ∃ z, sA (β 53) = z := ⟨_, rfl⟩
  obtain ⟨A54_16, hu_A54_16⟩ : ∃ z, sA (β 54) = z := ⟨_, rfl⟩
  obtain ⟨c54_16, hu_c54_16⟩ : ∃ z, sC (β 54) = z := ⟨_, rfl⟩
  simp only [zM, exq 1 (hX 1 _ rfl), exq 3 (hX 3 _ rfl), exq 4 (hX 4 _ rfl), exq 5 (hX 5 _ rfl), exq 6 ((dTn (hD 4 lq)).2), exq 7 ((dTn (hD 5 lq)).2), exq 8 ((dTn (hD 8 lq))), hu_A53_16, hu_A54_16, hu_c54_16] at hst16
  dsimp only [mgT, vals, List.take, List.drop, List.cons_append, List.nil_append] at hfr
  simp only [ed 53 ((dTn (hD 4 lq)).1), ed 54 ((dTn (hD 5 lq)).1), hu_A53_16, hu_A54_16, hu_c54_16] at hfr
  clear hX hD hu_A53_16 hu_A54_16 hu_c54_16; subst hfr; clear σ β X
  refine then_normal ?_
  refine wp_seq ?_
  refine wp_region_T [0, 1, 3] [] [[], [7]] [] [.k 57 (.int .i64 x), .a 58, .a 11] (fun ix σ β X => match ix with | 0 => True | 1 => σ 58 = .slice (sA (β 58)) 1 1 ∧ X 7 = eO 3 1 (.slice (sA (β 58)) 1 1) 1 ([.int .i64 x]) | 2 => σ 11 = .slice (sA (β 58)) 1 1 | _ => True) [0, 1, 2, 3, 4, 5, 6, 7] [1, 2] [(11, 2, 1, 12), (45, 0, 2, 47)] hst16 ?_ ?_ ?_
  · exact fun ix _ _ _ _ _ _ hs hb hx h => match ix, h with
    | 1, h => by dsimp only at h ⊢; rw [← hs 58 rfl, ← hb 58 rfl, ← hx 7 rfl]; exact h
    | 2, h => by dsimp only at h ⊢; rw [← hs 11 rfl, ← hb 58 rfl]; exact h
    | 0, _ | _ + 3, _ => trivial
  · refine ⟨?_, ?_, trivial⟩
    · refine sv_any rfl rfl fun ρ β W X cx => ?_
      have fF57 : ρ (.tmp 57) = .int .i64 x := (cx.anc 0 rfl)
      exact dv_lit (e := 3) (xs := [.int .i64 x]) rfl (by simp [go_sem, fF57]) rfl (by decide) rfl rfl (fun σ β' X' hs hb hv hx => ⟨hv, hx⟩)
    · exact sv rfl rfl rfl rfl rfl _ (fun _ _ _ h => h) (fun β β' h => by rw [h 58 (by decide)]) fun ρ β W X cx => run_assign' rfl (dTn (cx.anc 1 rfl)).1
  intro σ β X W17 hD hX hst17 fr hfr
  obtain ⟨A58_17, hu_A58_17⟩ : ∃ z, sA (β 58) = z := ⟨_, rfl⟩
  simp only [zM, exq 0 (hX 0 _ rfl), exq 1 (hX 1 _ rfl), exq 2 (hX 2 _ rfl), exq 3 (hX 3 _ rfl), exq 4 (hX 4 _ rfl), exq 5 (hX 5 _ rfl), exq 6 (hX 6 _ rfl), exq 7 ((dTn (hD 1 lq)).2), hu_A58_17] at hst17
  dsimp only [mgT, vals, List.take, List.drop, List.cons_append, List.nil_append] at hfr
  simp only [ed 58 ((dTn (hD 1 lq)).1), ed 11 ((dTn (hD 2 lq))), hu_A58_17] at hfr
  clear hX hD hu_A58_17; subst hfr; clear σ β X
  refine then_normal ?_
  refine wp_seq ?_
  refine wp_region_T [0, 1, 3] [[], [], [2]] [[], [], [8]] [[], [], [2]] [.k 59 (.int .i64 x), .k 60 (.pointer (some ⟨B8_4, 0, none⟩)), .n] (fun ix σ β X => match ix with | 0 => True | 1 => True | 2 => X 8 = eB B8_4 27 #[.int .i64 x, .int .i64 (vmaxF l), .int .i64 (vpgF l), .int .i64 (vslF l), .bool (vhotF l), .slice A26_4 ((vrowF l).length) c26_4] | _ => True) [0, 1, 3, 4, 5, 6, 7, 8] [2] [(59, 0, 2, 61)] hst17 ?_ ?_ ?_
  · exact fun ix _ _ _ _ _ _ hs hb hx h => match ix, h with
    | 2, h => by dsimp only at h ⊢; rw [← hx 8 rfl]; exact h
    | 0, _ | 1, _ | _ + 3, _ => trivial
  · refine ⟨?_, trivial⟩
    · refine sv_any rfl rfl fun ρ β W X cx => ?_
      exact dv_store (n := 1) rfl (cx.anc 1 rfl) (cx.anc 0 rfl) (by kernel_rfl) rfl rfl cx (cx.init 2 _ rfl) rfl (Nat.le_of_ble_eq_true rfl) rfl rfl rfl rfl (fun σ β' X' hs hb hx => hx)
  intro σ β X W18 hD hX hst18 fr hfr
  simp only [zM, exq 0 (hX 0 _ rfl), exq 1 (hX 1 _ rfl), exq 3 (hX 3 _ rfl), exq 4 (hX 4 _ rfl), exq 5 (hX 5 _ rfl), exq 6 (hX 6 _ rfl), exq 7 (hX 7 _ rfl), exq 8 ((dTn (hD 2 lq)))] at hst18
  dsimp only [mgT, vals, List.take, List.drop, List.cons_append, List.nil_append] at hfr
  clear hX hD; subst hfr; clear σ β X
  refine then_normal ?_
  refine wp_seq ?_
  refine wp_region_T [0, 1] [[], [7]] [[], [8]] [[], [7]] [.k 61 (.pointer (some ⟨B8_4, 1, none⟩)), .n] (fun ix σ β X => match ix with | 0 => True | 1 => X 8 = eB B8_4 27 #[.int .i64 x, .int .i64 0, .int .i64 (vpgF l), .int .i64 (vslF l), .bool (vhotF l), .slice A26_4 ((vrowF l).length) c26_4] | _ => True) [0, 1, 2, 3, 4, 5, 6, 8] [1] [(61, 0, 1, 62)] hst18 ?_ ?_ ?_
  · exact fun ix _ _ _ _ _ _ hs hb hx h => match ix, h with
    | 1, h => by dsimp only at h ⊢; rw [← hx 8 rfl]; exact h
    | 0, _ | _ + 2, _ => trivial
  · refine ⟨?_, trivial⟩
    · refine sv_any rfl rfl fun ρ β W X cx => ?_
      exact dv_store (n := 1) rfl (cx.anc 0 rfl) (cx.sees.const _) (by kernel_rfl) rfl rfl cx (cx.init 7 _ rfl) rfl (Nat.le_of_ble_eq_true rfl) rfl rfl rfl rfl (fun σ β' X' hs hb hx => hx)
  intro σ β X W19 hD hX hst19 fr hfr
  simp only [zM, exq 0 (hX 0 _ rfl), exq 1 (hX 1 _ rfl), exq 2 (hX 2 _ rfl), exq 3 (hX 3 _ rfl), exq 4 (hX 4 _ rfl), exq 5 (hX 5 _ rfl), exq 6 (hX 6 _ rfl), exq 8 ((dTn (hD 1 lq)))] at hst19
  dsimp only [mgT, vals, List.take, List.drop, List.cons_append, List.nil_append] at hfr
  clear hX hD; subst hfr; clear σ β X
  refine then_normal ?_
  refine wp_seq ?_
  have hd21 : (visF hi ((ls.take 60) ++ [x]) [x] (standF (RW.set (x - 3).toNat 1)) x 0) = true := own1 hx hc hg1
  refine wp_region_T [0, 0, 2, 0, 0, 16, 63, 127] [[7], [], [5], [], [], [], [4, 6, 2]] [] [] [.c 62 (.agg #[.int .i64 x, .int .i64 0, .int .i64 (vpgF l), .int .i64 (vslF l), .bool (vhotF l), .slice A26_4 ((vrowF l).length) c26_4]), .k 63 (.pointer (some ⟨B4_1, 0, none⟩)), .c 64 (.agg #[.int .i64 hi, .slice A54_16 (((ls.take 60) ++ [x]).length) c54_16]), .k 65 (.slice A58_17 1 1), .k 66 (.slice A31_6 125 125), .c 67 (.iface 43 (.slice A31_6 125 125)), .c 68 (.bool true), .k 12 (.bool true)] (fun _ _ _ _ => True) [0, 1, 2, 3, 4, 5, 6, 7] [0, 2, 5, 6] [(12, 7, 1, 13), (49, 0, 7, 56)] hst19 ?_ ?_ ?_
  · exact fun _ _ _ _ _ _ _ _ _ _ h => h
  · refine ⟨?_, ?_, ?_, ?_, trivial⟩
    · exact s4 rfl (fun _ _ _ h => h) fun cx => run_loadB (n := 6) rfl (by kernel_rfl) (by kernel_rfl) (cx.out 8 rfl) (cx.blk (cx.init 7 _ rfl) rfl) (Nat.le_of_ble_eq_true rfl) rfl
    · exact s4 rfl (fun _ _ _ h => h) fun cx => run_loadB (n := 2) rfl (by kernel_rfl) (by kernel_rfl) (cx.anc 1 rfl) (cx.blk (cx.init 5 _ rfl) rfl) (Nat.le_of_ble_eq_true rfl) rfl
    · exact sv0 rfl rfl rfl rfl rfl (fun _ _ _ h => h) fun ρ β W X cx => by
        have fF66 : ρ (.tmp 66) = .slice A31_6 125 125 := (cx.anc 4 rfl)
        simp [go_sem, fF66]
    · exact sv_call rfl rfl rfl rfl rfl (fun _ _ _ h => h.trans (congrArg Value.bool hd21)) fun ρ β W X cx => ⟨_, _, run_callF (args := #[.agg #[.int .i64 x, .int .i64 0, .int .i64 (vpgF l), .int .i64 (vslF l), .bool (vhotF l), .slice A26_4 ((vrowF l).length) c26_4], .agg #[.int .i64 hi, .slice A54_16 (((ls.take 60) ++ [x]).length) c54_16], .slice A58_17 1 1, .iface 43 (.slice A31_6 125 125)]) rfl cx.sees rfl (by kernel_rfl) (map4 (cx.anc 0 rfl) (cx.anc 2 rfl) (cx.anc 3 rfl) (cx.anc 5 rfl)), visible_any _ _ _ _ _ _ _ _ _ _ _ ((ls.take 60) ++ [x]) _ _ [x] _ _ _ _ (At.of_own (cx.row (cx.init 4 _ rfl) rfl)) (by first | omega | decide | (simp; done) | (simp; omega)) (At.of_own (cx.row (cx.init 6 _ rfl) rfl)) (by first | omega | decide | (simp; done) | (simp; omega)) (stand_ok _ _ _ (RW.set (x - 3).toNat 1) _ (hl1.symm) (At.of_own (cx.row (cx.init 2 _ rfl) rfl)) hu1)⟩
  intro σ β X W20 hD hX hst20 fr hfr
  simp only [zM, exq 0 (hX 0 _ rfl), exq 1 (hX 1 _ rfl), exq 2 (hX 2 _ rfl), exq 3 (hX 3 _ rfl), exq 4 (hX 4 _ rfl), exq 5 (hX 5 _ rfl), exq 6 (hX 6 _ rfl), exq 7 (hX 7 _ rfl)] at hst20
  dsimp only [mgT, vals, List.take, List.drop, List.cons_append, List.nil_append] at hfr
  clear hX hD; subst hfr; clear σ β X
  refine then_normal ?_
  refine wp_seq ?_
  refine wp_region_T [0, 0, 2, 0, 0, 16, 63, 127, 255, 255, 511, 2047] [[7], [], [5], [], [], [], [4, 6, 2]] [] [] [.c 70 (.agg #[.int .i64 x, .int .i64 0, .int .i64 (vpgF l), .int .i64 (vslF l), .bool (vhotF l), .slice A26_4 ((vrowF l).length) c26_4]), .k 71 (.pointer (some ⟨B4_1, 0, none⟩)), .c 72 (.agg #[.int .i64 hi, .slice A54_16 (((ls.take 60) ++ [x]).length) c54_16]), .k 73 (.slice A58_17 1 1), .k 74 (.slice A31_6 125 125), .c 75 (.iface 43 (.slice A31_6 125 125)), .c 76 (.tuple #[.int .i64 (bes1F hi ((ls.take 60) ++ [x]) [x] (standF (RW.set (x - 3).toNat 1)) x), .int .i64 (bes2F hi ((ls.take 60) ++ [x]) [x] (standF (RW.set (x - 3).toNat 1)) 0)]), .k 69 (.tuple #[.int .i64 (bes1F hi ((ls.take 60) ++ [x]) [x] (standF (RW.set (x - 3).toNat 1)) x), .int .i64 (bes2F hi ((ls.take 60) ++ [x]) [x] (standF (RW.set (x - 3).toNat 1)) 0)]), .k 77 (.int .i64 (bes1F hi ((ls.take 60) ++ [x]) [x] (standF (RW.set (x - 3).toNat 1)) x)), .k 78 (.int .i64 (bes2F hi ((ls.take 60) ++ [x]) [x] (standF (RW.set (x - 3).toNat 1)) 0)), .k 13 (.int .i64 (bes1F hi ((ls.take 60) ++ [x]) [x] (standF (RW.set (x - 3).toNat 1)) x)), .k 14 (.int .i64 (bes2F hi ((ls.take 60) ++ [x]) [x] (standF (RW.set (x - 3).toNat 1)) 0))] (fun _ _ _ _ => True) [0, 1, 2, 3, 4, 5, 6, 7] [0, 2, 5, 6] [(13, 10, 2, 15), (54, 7, 1, 55), (0, 0, 7, 7), (0, 8, 2, 2)] hst20 ?_ ?_ ?_
  · exact fun _ _ _ _ _ _ _ _ _ _ h => h
  · refine ⟨?_, ?_, ?_, ?_, trivial⟩
    · exact s4 rfl (fun _ _ _ h => h) fun cx => run_loadB (n := 6) rfl (by kernel_rfl) (by kernel_rfl) (cx.out 8 rfl) (cx.blk (cx.init 7 _ rfl) rfl) (Nat.le_of_ble_eq_true rfl) rfl
    · exact s4 rfl (fun _ _ _ h => h) fun cx => run_loadB (n := 2) rfl (by kernel_rfl) (by kernel_rfl) (cx.anc 1 rfl) (cx.blk (cx.init 5 _ rfl) rfl) (Nat.le_of_ble_eq_true rfl) rfl
    · exact sv0 rfl rfl rfl rfl rfl (fun _ _ _ h => h) fun ρ β W X cx => by
        have fF74 : ρ (.tmp 74) = .slice A31_6 125 125 := (cx.anc 4 rfl)
        simp [go_sem, fF74]
    · exact sv_call rfl rfl rfl rfl rfl (fun _ _ _ h => h) fun ρ β W X cx => ⟨_, _, run_callF (args := #[.agg #[.int .i64 x, .int .i64 0, .int .i64 (vpgF l), .int .i64 (vslF l), .bool (vhotF l), .slice A26_4 ((vrowF l).length) c26_4], .agg #[.int .i64 hi, .slice A54_16 (((ls.take 60) ++ [x]).length) c54_16], .slice A58_17 1 1, .iface 43 (.slice A31_6 125 125)]) rfl cx.sees rfl (by kernel_rfl) (map4 (cx.anc 0 rfl) (cx.anc 2 rfl) (cx.anc 3 rfl) (cx.anc 5 rfl)), beside_any _ _ _ _ _ _ _ _ _ _ _ ((ls.take 60) ++ [x]) _ _ [x] _ _ _ _ (At.of_own (cx.row (cx.init 4 _ rfl) rfl)) (by first | omega | decide | (simp; done) | (simp; omega)) (At.of_own (cx.row (cx.init 6 _ rfl) rfl)) (by first | omega | decide | (simp; done) | (simp; omega)) (stand_ok _ _ _ (RW.set (x - 3).toNat 1) _ (hl1.symm) (At.of_own (cx.row (cx.init 2 _ rfl) rfl)) hu1)⟩
  intro σ β X W22 hD hX hst22 fr hfr
  simp only [zM, exq 0 (hX 0 _ rfl), exq 1 (hX 1 _ rfl), exq 2 (hX 2 _ rfl), exq 3 (hX 3 _ rfl), exq 4 (hX 4 _ rfl), exq 5 (hX 5 _ rfl), exq 6 (hX 6 _ rfl), exq 7 (hX 7 _ rfl)] at hst22
  dsimp only [mgT, vals, List.take, List.drop, List.cons_append, List.nil_append] at hfr
  clear hX hD; subst hfr; clear σ β X
  refine then_normal ?_
  refine wp_seq ?_
  refine wp_region_T [0, 0, 2, 0, 8, 31, 63, 127, 127, 255, 1023] [[7], [], [5], [], [], [4, 2]] [] [] [.c 80 (.agg #[.int .i64 x, .int .i64 0, .int .i64 (vpgF l), .int .i64 (vslF l), .bool (vhotF l), .slice A26_4 ((vrowF l).length) c26_4]), .k 81 (.pointer (some ⟨B4_1, 0, none⟩)), .c 82 (.agg #[.int .i64 hi, .slice A54_16 (((ls.take 60) ++ [x]).length) c54_16]), .k 83 (.slice A31_6 125 125), .c 84 (.iface 43 (.slice A31_6 125 125)), .c 85 (.tuple #[.int .i64 (bes1F hi ((ls.take 60) ++ [x]) ([] : List Int) (standF (RW.set (x - 3).toNat 1)) x), .int .i64 (bes2F hi ((ls.take 60) ++ [x]) ([] : List Int) (standF (RW.set (x - 3).toNat 1)) 0)]), .k 79 (.tuple #[.int .i64 (bes1F hi ((ls.take 60) ++ [x]) ([] : List Int) (standF (RW.set (x - 3).toNat 1)) x), .int .i64 (bes2F hi ((ls.take 60) ++ [x]) ([] : List Int) (standF (RW.set (x - 3).toNat 1)) 0)]), .k 86 (.int .i64 (bes1F hi ((ls.take 60) ++ [x]) ([] : List Int) (standF (RW.set (x - 3).toNat 1)) x)), .k 87 (.int .i64 (bes2F hi ((ls.take 60) ++ [x]) ([] : List Int) (standF (RW.set (x - 3).toNat 1)) 0)), .k 15 (.int .i64 (bes1F hi ((ls.take 60) ++ [x]) ([] : List Int) (standF (RW.set (x - 3).toNat 1)) x)), .k 16 (.int .i64 (bes2F hi ((ls.take 60) ++ [x]) ([] : List Int) (standF (RW.set (x - 3).toNat 1)) 0))] (fun _ _ _ _ => True) [0, 1, 2, 3, 4, 5, 6, 7] [0, 2, 4, 5] [(15, 9, 2, 17), (62, 6, 1, 63), (0, 0, 6, 6), (0, 7, 2, 2)] hst22 ?_ ?_ ?_
  · exact fun _ _ _ _ _ _ _ _ _ _ h => h
  · refine ⟨?_, ?_, ?_, ?_, trivial⟩
    · exact s4 rfl (fun _ _ _ h => h) fun cx => run_loadB (n := 6) rfl (by kernel_rfl) (by kernel_rfl) (cx.out 8 rfl) (cx.blk (cx.init 7 _ rfl) rfl) (Nat.le_of_ble_eq_true rfl) rfl
    · exact s4 rfl (fun _ _ _ h => h) fun cx => run_loadB (n := 2) rfl (by kernel_rfl) (by kernel_rfl) (cx.anc 1 rfl) (cx.blk (cx.init 5 _ rfl) rfl) (Nat.le_of_ble_eq_true rfl) rfl
    · exact sv0 rfl rfl rfl rfl rfl (fun _ _ _ h => h) fun ρ β W X cx => by
        have fF83 : ρ (.tmp 83) = .slice A31_6 125 125 := (cx.anc 3 rfl)
        simp [go_sem, fF83]
    · exact sv_call rfl rfl rfl rfl rfl (fun _ _ _ h => h) fun ρ β W X cx => ⟨_, _, run_callF (args := #[.agg #[.int .i64 x, .int .i64 0, .int .i64 (vpgF l), .int .i64 (vslF l), .bool (vhotF l), .slice A26_4 ((vrowF l).length) c26_4], .agg #[.int .i64 hi, .slice A54_16 (((ls.take 60) ++ [x]).length) c54_16], .slice none 0 0, .iface 43 (.slice A31_6 125 125)]) rfl cx.sees rfl (by kernel_rfl) (map4 (cx.anc 0 rfl) (cx.anc 2 rfl) (cx.sees.const _) (cx.anc 4 rfl)), beside_any _ _ _ _ _ _ _ _ _ _ _ ((ls.take 60) ++ [x]) _ _ ([] : List Int) _ _ _ _ (At.of_own (cx.row (cx.init 4 _ rfl) rfl)) (by first | omega | decide | (simp; done) | (simp; omega)) (At.nil _ _) (by first | omega | decide | (simp; done) | (simp; omega)) (stand_ok _ _ _ (RW.set (x - 3).toNat 1) _ (hl1.symm) (At.of_own (cx.row (cx.init 2 _ rfl) rfl)) hu1)⟩
  intro σ β X W23 hD hX hst23 fr hfr
  simp only [zM, exq 0 (hX 0 _ rfl), exq 1 (hX 1 _ rfl), exq 2 (hX 2 _ rfl), exq 3 (hX 3 _ rfl), exq 4 (hX 4 _ rfl), exq 5 (hX 5 _ rfl), exq 6 (hX 6 _ rfl), exq 7 (hX 7 _ rfl)] at hst23
  dsimp only [mgT, vals, List.take, List.drop, List.cons_append, List.nil_append] at hfr
  clear hX hD; subst hfr; clear σ β X
  refine then_normal ?_
  refine wp_seq ?_
  refine wp_region_T [0, 1, 3] [[], [], [7]] [[], [], [8]] [[], [], [7]] [.k 88 (.int .i64 x), .k 89 (.pointer (some ⟨B8_4, 1, none⟩)), .n] (fun ix σ β X => match ix with | 0 => True | 1 => True | 2 => X 8 = eB B8_4 27 #[.int .i64 x, .int .i64 x, .int .i64 (vpgF l), .int .i64 (vslF l), .bool (vhotF l), .slice A26_4 ((vrowF l).length) c26_4] | _ => True) [0, 1, 2, 3, 4, 5, 6, 8] [2] [(88, 0, 2, 90)] hst23 ?_ ?_ ?_
  · exact fun ix _ _ _ _ _ _ hs hb hx h => match ix, h with
    | 2, h => by dsimp only at h ⊢; rw [← hx 8 rfl]; exact h
    | 0, _ | 1, _ | _ + 3, _ => trivial
  · refine ⟨?_, trivial⟩
    · refine sv_any rfl rfl fun ρ β W X cx => ?_
      exact dv_store (n := 1) rfl (cx.anc 1 rfl) (cx.anc 0 rfl) (by kernel_rfl) rfl rfl cx (cx.init 7 _ rfl) rfl (Nat.le_of_ble_eq_true rfl) rfl rfl rfl rfl (fun σ β' X' hs hb hx => hx)
  intro σ β X W24 hD hX hst24 fr hfr
  simp only [zM, exq 0 (hX 0 _ rfl), exq 1 (hX 1 _ rfl), exq 2 (hX 2 _ rfl), exq 3 (hX 3 _ rfl), exq 4 (hX 4 _ rfl), exq 5 (hX 5 _ rfl), exq 6 (hX 6 _ rfl), exq 8 ((dTn (hD 2 lq)))] at hst24
  dsimp only [mgT, vals, List.take, List.drop, List.cons_append, List.nil_append] at hfr
  clear hX hD; subst hfr; clear σ β X
  refine then_normal ?_
  refine wp_seq ?_
  have hd26 : (visF hi ((ls.take 60) ++ [x]) [x] (standF (RW.set (x - 3).toNat 1)) x x) = false := own5 hx hc hg1
  refine wp_region_T [0, 0, 2, 0, 0, 16, 63, 127] [[7], [], [5], [], [], [], [4, 6, 2]] [] [] [.c 90 (.agg #[.int .i64 x, .int .i64 x, .int .i64 (vpgF l), .int .i64 (vslF l), .bool (vhotF l), .slice A26_4 ((vrowF l).length) c26_4]), .k 91 (.pointer (some ⟨B4_1, 0, none⟩)), .c 92 (.agg #[.int .i64 hi, .slice A54_16 (((ls.take 60) ++ [x]).length) c54_16]), .k 93 (.slice A58_17 1 1), .k 94 (.slice A31_6 125 125), .c 95 (.iface 43 (.slice A31_6 125 125)), .c 96 (.bool false), .k 17 (.bool false)] (fun _ _ _ _ => True) [0, 1, 2, 3, 4, 5, 6, 7] [0, 2, 5, 6] [(17, 7, 1, 18), (72, 0, 7, 79)] hst24 ?_ ?_ ?_
  · exact fun _ _ _ _ _ _ _ _ _ _ h => h
  · refine ⟨?_, ?_, ?_, ?_, trivial⟩
    · exact s4 rfl (fun _ _ _ h => h) fun cx => run_loadB (n := 6) rfl (by kernel_rfl) (by kernel_rfl) (cx.out 8 rfl) (cx.blk (cx.init 7 _ rfl) rfl) (Nat.le_of_ble_eq_true rfl) rfl
    · exact s4 rfl (fun _ _ _ h => h) fun cx => run_loadB (n := 2) rfl (by kernel_rfl) (by kernel_rfl) (cx.anc 1 rfl) (cx.blk (cx.init 5 _ rfl) rfl) (Nat.le_of_ble_eq_true rfl) rfl
    · exact sv0 rfl rfl rfl rfl rfl (fun _ _ _ h => h) fun ρ β W X cx => by
        have fF94 : ρ (.tmp 94) = .slice A31_6 125 125 := (cx.anc 4 rfl)
        simp [go_sem, fF94]
    · exact sv_call rfl rfl rfl rfl rfl (fun _ _ _ h => h.trans (congrArg Value.bool hd26)) fun ρ β W X cx => ⟨_, _, run_callF (args := #[.agg #[.int .i64 x, .int .i64 x, .int .i64 (vpgF l), .int .i64 (vslF l), .bool (vhotF l), .slice A26_4 ((vrowF l).length) c26_4], .agg #[.int .i64 hi, .slice A54_16 (((ls.take 60) ++ [x]).length) c54_16], .slice A58_17 1 1, .iface 43 (.slice A31_6 125 125)]) rfl cx.sees rfl (by kernel_rfl) (map4 (cx.anc 0 rfl) (cx.anc 2 rfl) (cx.anc 3 rfl) (cx.anc 5 rfl)), visible_any _ _ _ _ _ _ _ _ _ _ _ ((ls.take 60) ++ [x]) _ _ [x] _ _ _ _ (At.of_own (cx.row (cx.init 4 _ rfl) rfl)) (by first | omega | decide | (simp; done) | (simp; omega)) (At.of_own (cx.row (cx.init 6 _ rfl) rfl)) (by first | omega | decide | (simp; done) | (simp; omega)) (stand_ok _ _ _ (RW.set (x - 3).toNat 1) _ (hl1.symm) (At.of_own (cx.row (cx.init 2 _ rfl) rfl)) hu1)⟩
  intro σ β X W25 hD hX hst25 fr hfr
  simp only [zM, exq 0 (hX 0 _ rfl), exq 1 (hX 1 _ rfl), exq 2 (hX 2 _ rfl), exq 3 (hX 3 _ rfl), exq 4 (hX 4 _ rfl), exq 5 (hX 5 _ rfl), exq 6 (hX 6 _ rfl), exq 7 (hX 7 _ rfl)] at hst25
  dsimp only [mgT, vals, List.take, List.drop, List.cons_append, List.nil_append] at hfr
  clear hX hD; subst hfr; clear σ β X
  refine then_normal ?_
  refine wp_seq ?_
  refine wp_region_T [0, 1] [[], [7]] [[], [8]] [[], [7]] [.k 97 (.pointer (some ⟨B8_4, 0, none⟩)), .n] (fun ix σ β X => match ix with | 0 => True | 1 => X 8 = eB B8_4 27 #[.int .i64 2, .int .i64 x, .int .i64 (vpgF l), .int .i64 (vslF l), .bool (vhotF l), .slice A26_4 ((vrowF l).length) c26_4] | _ => True) [0, 1, 2, 3, 4, 5, 6, 8] [1] [(97, 0, 1, 98)] hst25 ?_ ?_ ?_
  · exact fun ix _ _ _ _ _ _ hs hb hx h => match ix, h with
    | 1, h => by dsimp only at h ⊢; rw [← hx 8 rfl]; exact h
    | 0, _ | _ + 2, _ => trivial
  · refine ⟨?_, trivial⟩
    · refine sv_any rfl rfl fun ρ β W X cx => ?_
      exact dv_store (n := 1) rfl (cx.anc 0 rfl) (cx.sees.const _) (by kernel_rfl) rfl rfl cx (cx.init 7 _ rfl) rfl (Nat.le_of_ble_eq_true rfl) rfl rfl rfl rfl (fun σ β' X' hs hb hx => hx)
  intro σ β X W27 hD hX hst27 fr hfr
  simp only [zM, exq 0 (hX 0 _ rfl), exq 1 (hX 1 _ rfl), exq 2 (hX 2 _ rfl), exq 3 (hX 3 _ rfl), exq 4 (hX 4 _ rfl), exq 5 (hX 5 _ rfl), exq 6 (hX 6 _ rfl), exq 8 ((dTn (hD 1 lq)))] at hst27
  dsimp only [mgT, vals, List.take, List.drop, List.cons_append, List.nil_append] at hfr
  clear hX hD; subst hfr; clear σ β X
  refine then_normal ?_
  refine wp_seq ?_
  have hd29 : (visF hi ((ls.take 60) ++ [x]) [x] (standF (RW.set (x - 3).toNat 1)) 2 x) = false := own6 hx hc hg1
  refine wp_region_T [0, 0, 2, 0, 0, 16, 63, 127] [[7], [], [5], [], [], [], [4, 6, 2]] [] [] [.c 98 (.agg #[.int .i64 2, .int .i64 x, .int .i64 (vpgF l), .int .i64 (vslF l), .bool (vhotF l), .slice A26_4 ((vrowF l).length) c26_4]), .k 99 (.pointer (some ⟨B4_1, 0, none⟩)), .c 100 (.agg #[.int .i64 hi, .slice A54_16 (((ls.take 60) ++ [x]).length) c54_16]), .k 101 (.slice A58_17 1 1), .k 102 (.slice A31_6 125 125), .c 103 (.iface 43 (.slice A31_6 125 125)), .c 104 (.bool false), .k 18 (.bool false)] (fun _ _ _ _ => True) [0, 1, 2, 3, 4, 5, 6, 7] [0, 2, 5, 6] [(18, 7, 1, 19), (79, 0, 7, 86)] hst27 ?_ ?_ ?_
  · exact fun _ _ _ _ _ _ _ _ _ _ h => h
  · refine ⟨?_, ?_, ?_, ?_, trivial⟩
    · exact s4 rfl (fun _ _ _ h => h) fun cx => run_loadB (n := 6) rfl (by kernel_rfl) (by kernel_rfl) (cx.out 8 rfl) (cx.blk (cx.init 7 _ rfl) rfl) (Nat.le_of_ble_eq_true rfl) rfl
    · exact s4 rfl (fun _ _ _ h => h) fun cx => run_loadB (n := 2) rfl (by kernel_rfl) (by kernel_rfl) (cx.anc 1 rfl) (cx.blk (cx.init 5 _ rfl) rfl) (Nat.le_of_ble_eq_true rfl) rfl
    · exact sv0 rfl rfl rfl rfl rfl (fun _ _ _ h => h) fun ρ β W X cx => by
        have fF102 : ρ (.tmp 102) = .slice A31_6 125 125 := (cx.anc 4 rfl)
        simp [go_sem, fF102]
    · exact sv_call rfl rfl rfl rfl rfl (fun _ _ _ h => h.trans (congrArg Value.bool hd29)) fun ρ β W X cx => ⟨_, _, run_callF (args := #[.agg #[.int .i64 2, .int .i64 x, .int .i64 (vpgF l), .int .i64 (vslF l), .bool (vhotF l), .slice A26_4 ((vrowF l).length) c26_4], .agg #[.int .i64 hi, .slice A54_16 (((ls.take 60) ++ [x]).length) c54_16], .slice A58_17 1 1, .iface 43 (.slice A31_6 125 125)]) rfl cx.sees rfl (by kernel_rfl) (map4 (cx.anc 0 rfl) (cx.anc 2 rfl) (cx.anc 3 rfl) (cx.anc 5 rfl)), visible_any _ _ _ _ _ _ _ _ _ _ _ ((ls.take 60) ++ [x]) _ _ [x] _ _ _ _ (At.of_own (cx.row (cx.init 4 _ rfl) rfl)) (by first | omega | decide | (simp; done) | (simp; omega)) (At.of_own (cx.row (cx.init 6 _ rfl) rfl)) (by first | omega | decide | (simp; done) | (simp; omega)) (stand_ok _ _ _ (RW.set (x - 3).toNat 1) _ (hl1.symm) (At.of_own (cx.row (cx.init 2 _ rfl) rfl)) hu1)⟩
  intro σ β X W28 hD hX hst28 fr hfr
  simp only [zM, exq 0 (hX 0 _ rfl), exq 1 (hX 1 _ rfl), exq 2 (hX 2 _ rfl), exq 3 (hX 3 _ rfl), exq 4 (hX 4 _ rfl), exq 5 (hX 5 _ rfl), exq 6 (hX 6 _ rfl), exq 7 (hX 7 _ rfl)] at hst28
  dsimp only [mgT, vals, List.take, List.drop, List.cons_append, List.nil_append] at hfr
  clear hX hD; subst hfr; clear σ β X
  refine then_normal ?_
  refine wp_seq ?_
  have hd31 : (visF hi ((ls.take 60) ++ [x]) ([] : List Int) (standF (RW.set (x - 3).toNat 1)) 2 x) = true := own7 hx hc
  refine wp_region_T [0, 0, 2, 0, 8, 31, 63] [[7], [], [5], [], [], [4, 2]] [] [] [.c 105 (.agg #[.int .i64 2, .int .i64 x, .int .i64 (vpgF l), .int .i64 (vslF l), .bool (vhotF l), .slice A26_4 ((vrowF l).length) c26_4]), .k 106 (.pointer (some ⟨B4_1, 0, none⟩)), .c 107 (.agg #[.int .i64 hi, .slice A54_16 (((ls.take 60) ++ [x]).length) c54_16]), .k 108 (.slice A31_6 125 125), .c 109 (.iface 43 (.slice A31_6 125 125)), .c 110 (.bool true), .k 19 (.bool true)] (fun _ _ _ _ => True) [0, 1, 2, 3, 4, 5, 6, 7] [0, 2, 4, 5] [(19, 6, 1, 20), (85, 0, 6, 91)] hst28 ?_ ?_ ?_
  · exact fun _ _ _ _ _ _ _ _ _ _ h => h
  · refine ⟨?_, ?_, ?_, ?_, trivial⟩
    · exact s4 rfl (fun _ _ _ h => h) fun cx => run_loadB (n := 6) rfl (by kernel_rfl) (by kernel_rfl) (cx.out 8 rfl) (cx.blk (cx.init 7 _ rfl) rfl) (Nat.le_of_ble_eq_true rfl) rfl
    · exact s4 rfl (fun _ _ _ h => h) fun cx => run_loadB (n := 2) rfl (by kernel_rfl) (by kernel_rfl) (cx.anc 1 rfl) (cx.blk (cx.init 5 _ rfl) rfl) (Nat.le_of_ble_eq_true rfl) rfl
    · exact sv0 rfl rfl rfl rfl rfl (fun _ _ _ h => h) fun ρ β W X cx => by
        have fF108 : ρ (.tmp 108) = .slice A31_6 125 125 := (cx.anc 3 rfl)
        simp [go_sem, fF108]
    · exact sv_call rfl rfl rfl rfl rfl (fun _ _ _ h => h.trans (congrArg Value.bool hd31)) fun ρ β W X cx => ⟨_, _, run_callF (args := #[.agg #[.int .i64 2, .int .i64 x, .int .i64 (vpgF l), .int .i64 (vslF l), .bool (vhotF l), .slice A26_4 ((vrowF l).length) c26_4], .agg #[.int .i64 hi, .slice A54_16 (((ls.take 60) ++ [x]).length) c54_16], .slice none 0 0, .iface 43 (.slice A31_6 125 125)]) rfl cx.sees rfl (by kernel_rfl) (map4 (cx.anc 0 rfl) (cx.anc 2 rfl) (cx.sees.const _) (cx.anc 4 rfl)), visible_any _ _ _ _ _ _ _ _ _ _ _ ((ls.take 60) ++ [x]) _ _ ([] : List Int) _ _ _ _ (At.of_own (cx.row (cx.init 4 _ rfl) rfl)) (by first | omega | decide | (simp; done) | (simp; omega)) (At.nil _ _) (by first | omega | decide | (simp; done) | (simp; omega)) (stand_ok _ _ _ (RW.set (x - 3).toNat 1) _ (hl1.symm) (At.of_own (cx.row (cx.init 2 _ rfl) rfl)) hu1)⟩
  intro σ β X W30 hD hX hst30 fr hfr
  simp only [zM, exq 0 (hX 0 _ rfl), exq 1 (hX 1 _ rfl), exq 2 (hX 2 _ rfl), exq 3 (hX 3 _ rfl), exq 4 (hX 4 _ rfl), exq 5 (hX 5 _ rfl), exq 6 (hX 6 _ rfl), exq 7 (hX 7 _ rfl)] at hst30
  dsimp only [mgT, vals, List.take, List.drop, List.cons_append, List.nil_append] at hfr
  clear hX hD; subst hfr; clear σ β X
  refine then_normal ?_
  refine wp_seq ?_
  refine wp_region_T [0, 0, 2, 7, 15] [[], [], [], [2], [2]] [[], [], [], [], [8]] [[], [], [], [], [2]] [.k 111 (.slice A31_6 125 125), .k 112 (.int .i64 x), tI 113 (x - 3) (by omega), .c 114 (.pointer (some ((ad A31_6).add ((x - 3).toNat)))), .n] (fun ix σ β X => match ix with | 0 => True | 1 => True | 2 => True | 3 => True | 4 => X 8 = eO 5 1 (.slice A31_6 125 125) 125 (((RW.set (x - 3).toNat 1).set (x - 3).toNat 3).map (Value.int .u8)) | _ => True) [0, 1, 3, 4, 5, 6, 7, 8] [3, 4] [(111, 0, 4, 115)] hst30 ?_ ?_ ?_
  · exact fun ix _ _ _ _ _ _ hs hb hx h => match ix, h with
    | 4, h => by dsimp only at h ⊢; rw [← hx 8 rfl]; exact h
    | 0, _ | 1, _ | 2, _ | 3, _ | _ + 5, _ => trivial
  · refine ⟨?_, ?_, trivial⟩
    · exact s4 rfl (fun _ _ _ h => h) fun cx => run_indexSl (e := 5) (m := (x - 3).toNat) rfl (by kernel_rfl) (by kernel_rfl) (cx.anc 0 rfl) (cx.anc 2 rfl) (by omega) (by omega) (At.of_own (cx.row (cx.init 2 _ rfl) rfl)) ((by simp [hRl]))
    · refine sv_any rfl rfl fun ρ β W X cx => ?_
      exact dv_storeRow (m := (x - 3).toNat) (n := 125) rfl (cx.anc 3 rfl) (cx.sees.const _) (by kernel_rfl) rfl rfl cx (cx.init 2 _ rfl) rfl (by omega) rfl (by rw [← List.map_set]) rfl rfl (fun σ β' X' hs hb hx => hx)
  intro σ β X W32 hD hX hst32 fr hfr
  simp only [zM, exq 0 (hX 0 _ rfl), exq 1 (hX 1 _ rfl), exq 3 (hX 3 _ rfl), exq 4 (hX 4 _ rfl), exq 5 (hX 5 _ rfl), exq 6 (hX 6 _ rfl), exq 7 (hX 7 _ rfl), exq 8 ((dTn (hD 4 lq)))] at hst32
  dsimp only [mgT, vals, List.take, List.drop, List.cons_append, List.nil_append] at hfr
  clear hX hD; subst hfr; clear σ β X
  refine then_normal ?_
  refine wp_seq ?_
  have hd34 : (visF hi ((ls.take 60) ++ [x]) [x] (standF ((RW.set (x - 3).toNat 1).set (x - 3).toNat 3)) 2 x) = true := own8 hx hc hg3
  refine wp_region_T [0, 0, 2, 0, 0, 16, 63, 127] [[6], [], [4], [], [], [], [3, 5, 7]] [] [] [.c 115 (.agg #[.int .i64 2, .int .i64 x, .int .i64 (vpgF l), .int .i64 (vslF l), .bool (vhotF l), .slice A26_4 ((vrowF l).length) c26_4]), .k 116 (.pointer (some ⟨B4_1, 0, none⟩)), .c 117 (.agg #[.int .i64 hi, .slice A54_16 (((ls.take 60) ++ [x]).length) c54_16]), .k 118 (.slice A58_17 1 1), .k 119 (.slice A31_6 125 125), .c 120 (.iface 43 (.slice A31_6 125 125)), .c 121 (.bool true), .k 20 (.bool true)] (fun _ _ _ _ => True) [0, 1, 2, 3, 4, 5, 6, 7] [0, 2, 5, 6] [(20, 7, 1, 21), (94, 0, 7, 101)] hst32 ?_ ?_ ?_
  · exact fun _ _ _ _ _ _ _ _ _ _ h => h
  · refine ⟨?_, ?_, ?_, ?_, trivial⟩
    · exact s4 rfl (fun _ _ _ h => h) fun cx => run_loadB (n := 6) rfl (by kernel_rfl) (by kernel_rfl) (cx.out 8 rfl) (cx.blk (cx.init 6 _ rfl) rfl) (Nat.le_of_ble_eq_true rfl) rfl
    · exact s4 rfl (fun _ _ _ h => h) fun cx => run_loadB (n := 2) rfl (by kernel_rfl) (by kernel_rfl) (cx.anc 1 rfl) (cx.blk (cx.init 4 _ rfl) rfl) (Nat.le_of_ble_eq_true rfl) rfl
    · exact sv0 rfl rfl rfl rfl rfl (fun _ _ _ h => h) fun ρ β W X cx => by
        have fF119 : ρ (.tmp 119) = .slice A31_6 125 125 := (cx.anc 4 rfl)
        simp [go_sem, fF119]
    · exact sv_call rfl rfl rfl rfl rfl (fun _ _ _ h => h.trans (congrArg Value.bool hd34)) fun ρ β W X cx => ⟨_, _, run_callF (args := #[.agg #[.int .i64 2, .int .i64 x, .int .i64 (vpgF l), .int .i64 (vslF l), .bool (vhotF l), .slice A26_4 ((vrowF l).length) c26_4], .agg #[.int .i64 hi, .slice A54_16 (((ls.take 60) ++ [x]).length) c54_16], .slice A58_17 1 1, .iface 43 (.slice A31_6 125 125)]) rfl cx.sees rfl (by kernel_rfl) (map4 (cx.anc 0 rfl) (cx.anc 2 rfl) (cx.anc 3 rfl) (cx.anc 5 rfl)), visible_any _ _ _ _ _ _ _ _ _ _ _ ((ls.take 60) ++ [x]) _ _ [x] _ _ _ _ (At.of_own (cx.row (cx.init 3 _ rfl) rfl)) (by first | omega | decide | (simp; done) | (simp; omega)) (At.of_own (cx.row (cx.init 5 _ rfl) rfl)) (by first | omega | decide | (simp; done) | (simp; omega)) (stand_ok _ _ _ ((RW.set (x - 3).toNat 1).set (x - 3).toNat 3) _ (hl3.symm) (At.of_own (cx.row (cx.init 7 _ rfl) rfl)) hu3)⟩
  intro σ β X W33 hD hX hst33 fr hfr
  simp only [zM, exq 0 (hX 0 _ rfl), exq 1 (hX 1 _ rfl), exq 2 (hX 2 _ rfl), exq 3 (hX 3 _ rfl), exq 4 (hX 4 _ rfl), exq 5 (hX 5 _ rfl), exq 6 (hX 6 _ rfl), exq 7 (hX 7 _ rfl)] at hst33
  dsimp only [mgT, vals, List.take, List.drop, List.cons_append, List.nil_append] at hfr
  clear hX hD; subst hfr; clear σ β X
  refine then_normal ?_
  refine wp_seq ?_
  refine wp_region_T [0, 1, 3] [[], [], [6]] [[], [], [8]] [[], [], [6]] [.k 122 (.int .i64 x), .k 123 (.pointer (some ⟨B8_4, 0, none⟩)), .n] (fun ix σ β X => match ix with | 0 => True | 1 => True | 2 => X 8 = eB B8_4 27 #[.int .i64 x, .int .i64 x, .int .i64 (vpgF l), .int .i64 (vslF l), .bool (vhotF l), .slice A26_4 ((vrowF l).length) c26_4] | _ => True) [0, 1, 2, 3, 4, 5, 7, 8] [2] [(122, 0, 2, 124)] hst33 ?_ ?_ ?_
  · exact fun ix _ _ _ _ _ _ hs hb hx h => match ix, h with
    | 2, h => by dsimp only at h ⊢; rw [← hx 8 rfl]; exact h
    | 0, _ | 1, _ | _ + 3, _ => trivial
  · refine ⟨?_, trivial⟩
    · refine sv_any rfl rfl fun ρ β W X cx => ?_
      exact dv_store (n := 1) rfl (cx.anc 1 rfl) (cx.anc 0 rfl) (by kernel_rfl) rfl rfl cx (cx.init 6 _ rfl) rfl (Nat.le_of_ble_eq_true rfl) rfl rfl rfl rfl (fun σ β' X' hs hb hx => hx)
  intro σ β X W35 hD hX hst35 fr hfr
  simp only [zM, exq 0 (hX 0 _ rfl), exq 1 (hX 1 _ rfl), exq 2 (hX 2 _ rfl), exq 3 (hX 3 _ rfl), exq 4 (hX 4 _ rfl), exq 5 (hX 5 _ rfl), exq 7 (hX 7 _ rfl), exq 8 ((dTn (hD 2 lq)))] at hst35
  dsimp only [mgT, vals, List.take, List.drop, List.cons_append, List.nil_append] at hfr
  clear hX hD; subst hfr; clear σ β X
  refine then_normal ?_
  refine wp_seq ?_
  refine wp_region_T [0, 1] [[], [7]] [[], [8]] [[], [7]] [.k 124 (.pointer (some ⟨B8_4, 1, none⟩)), .n] (fun ix σ β X => match ix with | 0 => True | 1 => X 8 = eB B8_4 27 #[.int .i64 x, .int .i64 0, .int .i64 (vpgF l), .int .i64 (vslF l), .bool (vhotF l), .slice A26_4 ((vrowF l).length) c26_4] | _ => True) [0, 1, 2, 3, 4, 5, 6, 8] [1] [(124, 0, 1, 125)] hst35 ?_ ?_ ?_
  · exact fun ix _ _ _ _ _ _ hs hb hx h => match ix, h with
    | 1, h => by dsimp only at h ⊢; rw [← hx 8 rfl]; exact h
    | 0, _ | _ + 2, _ => trivial
  · refine ⟨?_, trivial⟩
    · refine sv_any rfl rfl fun ρ β W X cx => ?_
      exact dv_store (n := 1) rfl (cx.anc 0 rfl) (cx.sees.const _) (by kernel_rfl) rfl rfl cx (cx.init 7 _ rfl) rfl (Nat.le_of_ble_eq_true rfl) rfl rfl rfl rfl (fun σ β' X' hs hb hx => hx)
  intro σ β X W36 hD hX hst36 fr hfr
  simp only [zM, exq 0 (hX 0 _ rfl), exq 1 (hX 1 _ rfl), exq 2 (hX 2 _ rfl), exq 3 (hX 3 _ rfl), exq 4 (hX 4 _ rfl), exq 5 (hX 5 _ rfl), exq 6 (hX 6 _ rfl), exq 8 ((dTn (hD 1 lq)))] at hst36
  dsimp only [mgT, vals, List.take, List.drop, List.cons_append, List.nil_append] at hfr
  clear hX hD; subst hfr; clear σ β X
  refine then_normal ?_
  refine wp_seq ?_
  have hd38 : (visF hi ((ls.take 60) ++ [x]) [x] (standF ((RW.set (x - 3).toNat 1).set (x - 3).toNat 3)) x 0) = false := own9 hx hc hg3
  refine wp_region_T [0, 0, 2, 0, 0, 16, 63, 127] [[7], [], [4], [], [], [], [3, 5, 6]] [] [] [.c 125 (.agg #[.int .i64 x, .int .i64 0, .int .i64 (vpgF l), .int .i64 (vslF l), .bool (vhotF l), .slice A26_4 ((vrowF l).length) c26_4]), .k 126 (.pointer (some ⟨B4_1, 0, none⟩)), .c 127 (.agg #[.int .i64 hi, .slice A54_16 (((ls.take 60) ++ [x]).length) c54_16]), .k 128 (.slice A58_17 1 1), .k 129 (.slice A31_6 125 125), .c 130 (.iface 43 (.slice A31_6 125 125)), .c 131 (.bool false), .k 21 (.bool false)] (fun _ _ _ _ => True) [0, 1, 2, 3, 4, 5, 6, 7] [0, 2, 5, 6] [(21, 7, 1, 22), (103, 0, 7, 110)] hst36 ?_ ?_ ?_
  · exact fun _ _ _ _ _ _ _ _ _ _ h => h
  · refine ⟨?_, ?_, ?_, ?_, trivial⟩
    · exact s4 rfl (fun _ _ _ h => h) fun cx => run_loadB (n := 6) rfl (by kernel_rfl) (by kernel_rfl) (cx.out 8 rfl) (cx.blk (cx.init 7 _ rfl) rfl) (Nat.le_of_ble_eq_true rfl) rfl
    · exact s4 rfl (fun _ _ _ h => h) fun cx => run_loadB (n := 2) rfl (by kernel_rfl) (by kernel_rfl) (cx.anc 1 rfl) (cx.blk (cx.init 4 _ rfl) rfl) (Nat.le_of_ble_eq_true rfl) rfl
    · exact sv0 rfl rfl rfl rfl rfl (fun _ _ _ h => h) fun ρ β W X cx => by
        have fF129 : ρ (.tmp 129) = .slice A31_6 125 125 := (cx.anc 4 rfl)
        simp [go_sem, fF129]
    · exact sv_call rfl rfl rfl rfl rfl (fun _ _ _ h => h.trans (congrArg Value.bool hd38)) fun ρ β W X cx => ⟨_, _, run_callF (args := #[.agg #[.int .i64 x, .int .i64 0, .int .i64 (vpgF l), .int .i64 (vslF l), .bool (vhotF l), .slice A26_4 ((vrowF l).length) c26_4], .agg #[.int .i64 hi, .slice A54_16 (((ls.take 60) ++ [x]).length) c54_16], .slice A58_17 1 1, .iface 43 (.slice A31_6 125 125)]) rfl cx.sees rfl (by kernel_rfl) (map4 (cx.anc 0 rfl) (cx.anc 2 rfl) (cx.anc 3 rfl) (cx.anc 5 rfl)), visible_any _ _ _ _ _ _ _ _ _ _ _ ((ls.take 60) ++ [x]) _ _ [x] _ _ _ _ (At.of_own (cx.row (cx.init 3 _ rfl) rfl)) (by first | omega | decide | (simp; done) | (simp; omega)) (At.of_own (cx.row (cx.init 5 _ rfl) rfl)) (by first | omega | decide | (simp; done) | (simp; omega)) (stand_ok _ _ _ ((RW.set (x - 3).toNat 1).set (x - 3).toNat 3) _ (hl3.symm) (At.of_own (cx.row (cx.init 6 _ rfl) rfl)) hu3)⟩
  intro σ β X W37 hD hX hst37 fr hfr
  simp only [zM, exq 0 (hX 0 _ rfl), exq 1 (hX 1 _ rfl), exq 2 (hX 2 _ rfl), exq 3 (hX 3 _ rfl), exq 4 (hX 4 _ rfl), exq 5 (hX 5 _ rfl), exq 6 (hX 6 _ rfl), exq 7 (hX 7 _ rfl)] at hst37
  dsimp only [mgT, vals, List.take, List.drop, List.cons_append, List.nil_append] at hfr
  clear hX hD; subst hfr; clear σ β X
  refine then_normal ?_
  refine wp_seq ?_
  have hd40 : ((bes1F hi ((ls.take 60) ++ [x]) [x] (standF (RW.set (x - 3).toNat 1)) x) == 0) = true := by rw [own2 hx hc hg1]; rfl
  have hd41 : ((bes2F hi ((ls.take 60) ++ [x]) [x] (standF (RW.set (x - 3).toNat 1)) 0) == 0) = true := by rw [own3]; rfl
  have hd42 : ((bes1F hi ((ls.take 60) ++ [x]) ([] : List Int) (standF (RW.set (x - 3).toNat 1)) x) == x) = true := by rw [own4 hx hc hg1]; simp
  refine wp_region_P [0, 1, 3, 7, 15, 31, 63, 127, 255, 511, 1023, 2047, 4095, 8191, 8191, 32767, 65535, 131071, 262143, 524287, 1048575, 2097151, 4194303, 8388607, 16777215, 33554431, 67108863, 134217727, 268435455, 536870911, 1073741823, 2147483647, 4294967295, 8589934591, 17179869183, 34359738367] [.k 132 (.bool true), .k 133 (.bool true), .k 134 (.bool true), .k 135 (.bool true), .k 136 (.bool true), .k 137 (.int .i64 (bes1F hi ((ls.take 60) ++ [x]) [x] (standF (RW.set (x - 3).toNat 1)) x)), .e 138 (.bool ((bes1F hi ((ls.take 60) ++ [x]) [x] (standF (RW.set (x - 3).toNat 1)) x) == 0)) (.bool true) (congrArg Value.bool hd40), .k 139 (.bool true), .k 140 (.bool true), .k 141 (.int .i64 (bes2F hi ((ls.take 60) ++ [x]) [x] (standF (RW.set (x - 3).toNat 1)) 0)), .e 142 (.bool ((bes2F hi ((ls.take 60) ++ [x]) [x] (standF (RW.set (x - 3).toNat 1)) 0) == 0)) (.bool true) (congrArg Value.bool hd41), .k 143 (.bool true), .k 144 (.bool true), .k 145 (.int .i64 (bes1F hi ((ls.take 60) ++ [x]) ([] : List Int) (standF (RW.set (x - 3).toNat 1)) x)), .k 146 (.int .i64 x), .e 147 (.bool ((bes1F hi ((ls.take 60) ++ [x]) ([] : List Int) (standF (RW.set (x - 3).toNat 1)) x) == x)) (.bool true) (congrArg Value.bool hd42), .k 148 (.bool true), .k 149 (.bool true), .k 150 (.bool false), .k 151 (.bool true), .k 152 (.bool true), .k 153 (.bool true), .k 154 (.bool false), .k 155 (.bool true), .k 156 (.bool true), .k 157 (.bool true), .k 158 (.bool true), .k 159 (.bool true), .k 160 (.bool true), .k 161 (.bool true), .k 162 (.bool true), .k 163 (.bool true), .k 164 (.bool false), .k 165 (.bool true), .k 166 (.bool true), .k 6 (.bool true)] [(6, 35, 1, 7), (125, 0, 35, 160)] hst37 fun W39 hst39 => ?_
  refine then_normal ?_
  refine wp_ret ?_
  refine bodyPost_ret (v := .bool true) (by simp [results, Tryd.results7, go_sem]) rfl ?_
  exact Ret.of rfl hst39.ext

end Go.Proofs.YtfjpglohcppjeaaDoor

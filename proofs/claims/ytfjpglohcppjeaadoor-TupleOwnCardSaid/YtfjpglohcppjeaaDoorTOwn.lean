/- the walk of TupleOwn. -/
import Derived.Test.YtfjpglohcppjeaaDoorT13
import Derived.Test.YtfjpglohcppjeaaDoorT5
namespace Go.Proofs.YtfjpglohcppjeaaDoor
open Go.RowKit
set_option linter.unusedVariables false

/-- the states of all ids, as far as they are written -/
def rwL (bs : List Int) (k : Nat) : List Int := (List.range 125).map fun i => if i < k then standF bs (3 + (i : Int)) else 0
theorem rwL_len (bs : List Int) (k : Nat) : (rwL bs k).length = 125 := by simp [rwL]
set_option maxRecDepth 100000 in
theorem rwL_0 (bs : List Int) : rwL bs 0 = List.replicate 125 0 := rfl
theorem rwL_set (bs : List Int) (k : Nat) (h : k < 125) : (rwL bs k).set k (standF bs (3 + (k : Int))) = rwL bs (k + 1) := by
  apply List.ext_getElem
  · simp [rwL]
  · intro i h1 h2
    simp only [rwL, List.length_set, List.length_map, List.length_range] at h1
    rw [List.getElem_set]
    simp only [rwL, List.getElem_map, List.getElem_range]
    by_cases e : k = i
    · subst e; simp
    · rw [if_neg e]
      by_cases h3 : i < k
      · rw [if_pos h3, if_pos (by omega)]
      · rw [if_neg h3, if_neg (by omega)]
theorem standF_bd (bs : List Int) (x : Int) : 0 ≤ standF bs x ∧ standF bs x ≤ 4 := by
  unfold standF
  split
  · omega
  · split
    · omega
    · have := Int.emod_nonneg (bs.getD ((x - 3) % (bs.length : Int)).toNat 0) (show (5 : Int) ≠ 0 by decide)
      have := Int.emod_lt_of_pos (bs.getD ((x - 3) % (bs.length : Int)).toNat 0) (show (0 : Int) < 5 by decide)
      omega
theorem rwL_u8 (bs : List Int) (k : Nat) : ∀ b ∈ rwL bs k, 0 ≤ b ∧ b ≤ 255 := by
  intro b hb
  simp only [rwL, List.mem_map, List.mem_range] at hb
  obtain ⟨i, _, rfl⟩ := hb
  have := standF_bd bs (3 + (i : Int))
  split <;> omega
theorem set_u8 {l : List Int} (h : ∀ b ∈ l, 0 ≤ b ∧ b ≤ 255) (m : Nat) {v : Int} (hv : 0 ≤ v ∧ v ≤ 255) : ∀ b ∈ l.set m v, 0 ≤ b ∧ b ≤ 255 := by
  intro b hb
  rcases List.mem_or_eq_of_mem_set hb with h1 | rfl
  · exact h b h1
  · exact hv
/-- states that are given one by one -/
theorem standF_own {l : List Int} (hl : l.length = 125) {x v : Int} (hx : 3 ≤ x ∧ x < 128) : standF (l.set (x - 3).toNat v) x = v % 5 := by
  have h1 : (l.set (x - 3).toNat v).length = 125 := by rw [List.length_set, hl]
  rw [standF, if_neg (by omega), if_neg (by rw [h1]; omega), h1]
  have h2 : ((x - 3) % ((125 : Nat) : Int)).toNat = (x - 3).toNat := by omega
  rw [h2, List.getD_eq_getElem?_getD, List.getElem?_set_self (by omega)]
  rfl
theorem own_on {x : Int} (hx : 3 ≤ x ∧ x < 128) : onF x = true := onF_iff.2 hx
theorem own_ended {hi x : Int} {ls : List Int} {g : Int → Int} (hx : 3 ≤ x ∧ x < 128) (hc : ls.contains x = true) : endedF hi ls g x = false := by
  rw [endedF, if_neg (by omega), hc]; simp
theorem own1 {hi x : Int} {ls : List Int} {g : Int → Int} (hx : 3 ≤ x ∧ x < 128) (hc : ls.contains x = true) (hg : g x = 1) : visF hi ls [x] g x 0 = true := by simp [visF, didF, mineF, hg]
theorem own2 {hi x : Int} {ls : List Int} {g : Int → Int} (hx : 3 ≤ x ∧ x < 128) (hc : ls.contains x = true) (hg : g x = 1) : bes1F hi ls [x] g x = 0 := by simp [bes1F, besF]
theorem own4 {hi x : Int} {ls : List Int} {g : Int → Int} (hx : 3 ≤ x ∧ x < 128) (hc : ls.contains x = true) (hg : g x = 1) : bes1F hi ls [] g x = x := by
  have h1 := own_ended (hi := hi) (g := g) hx hc
  have h2 := own_on hx
  rw [bes1F, if_pos (by simp [besF, h1, h2, hg])]
theorem own5 {hi x : Int} {ls : List Int} {g : Int → Int} (hx : 3 ≤ x ∧ x < 128) (hc : ls.contains x = true) (hg : g x = 1) : visF hi ls [x] g x x = false := by
  have : x ≠ 0 := by omega
  simp [visF, didF, mineF, hg, this]
theorem own6 {hi x : Int} {ls : List Int} {g : Int → Int} (hx : 3 ≤ x ∧ x < 128) (hc : ls.contains x = true) (hg : g x = 1) : visF hi ls [x] g 2 x = false := by
  have : x ≠ 0 := by omega
  simp [visF, didF, mineF, hg, this]
theorem own7 {hi x : Int} {ls : List Int} {g : Int → Int} (hx : 3 ≤ x ∧ x < 128) (hc : ls.contains x = true) : visF hi ls [] g 2 x = true := by
  have h1 := own_ended (hi := hi) (g := g) hx hc
  have h2 : endedF hi ls g 2 = true := by rw [endedF, if_pos rfl]
  simp [visF, didF, mineF, h1, h2]
theorem own8 {hi x : Int} {ls : List Int} {g : Int → Int} (hx : 3 ≤ x ∧ x < 128) (hc : ls.contains x = true) (hg : g x = 3) : visF hi ls [x] g 2 x = true := by
  have h1 := own_ended (hi := hi) (g := g) hx hc
  have h2 : endedF hi ls g 2 = true := by rw [endedF, if_pos rfl]
  simp [visF, didF, mineF, hg, h1, h2]
theorem own9 {hi x : Int} {ls : List Int} {g : Int → Int} (hx : 3 ≤ x ∧ x < 128) (hc : ls.contains x = true) (hg : g x = 3) : visF hi ls [x] g x 0 = false := by
  have h1 := own_ended (hi := hi) (g := g) hx hc
  simp [visF, didF, mineF, hg, h1]
theorem own3 {hi : Int} {ls own : List Int} {g : Int → Int} : bes2F hi ls own g 0 = 0 := by simp [bes2F]
set_option maxRecDepth 100000 in
set_option maxHeartbeats 8000000 in
theorem tupleown_any (LA0 : Option Addr) (c0 : Nat) (l : List Int) (hi hz : Int) (LA : Option Addr) (lc : Nat) (ls : List Int) (OA : Option Addr) (oc : Nat) (own : List Int) (SA : Option Addr) (sc : Nat) (bs : List Int) (xa : Int) (w : World) (hA0 : At w LA0 (l.map (Value.int .i64))) (hl0 : l.length ≤ 9223372036854775807) (hL : At w LA (ls.map (Value.int .i64))) (hO : At w OA (own.map (Value.int .i64))) (hlc : ls.length ≤ lc) (hoc : own.length ≤ oc) (hSA : At w SA (bs.map (Value.int .u8))) (hbs : ∀ b ∈ bs, 0 ≤ b ∧ b ≤ 255) (hN : NoneAt w) :
    Calls Tryd.prog 7 #[.slice LA0 l.length c0, .agg #[.int .i64 hi, .slice LA ls.length lc, .slice OA own.length oc, .int .i64 hz, .slice SA bs.length sc], .int .i64 xa] w (Ret (.bool true) w) := by
  go_enter Tryd.func7, Tryd.ntmps7
  have hst0 := St.start w
  refine wp_seq ?_
  refine wp_region_X [0, 0] [] [[0]] [] (fun ix σ β X => match ix with | 0 => σ 4 = .pointer (some ⟨(pb (β 4)), 0, none⟩) ∧ X 0 = eB (pb (β 4)) 45 #[.int .i64 hi, .slice LA ls.length lc, .slice OA own.length oc, .int .i64 hz, .slice SA bs.length sc] | 1 => σ 6 = .bool false | _ => True) [0] [4, 6] hst0 ?_ ?_ ?_
  · exact fun ix _ _ _ _ _ _ hs hb hx h => match ix, h with
    | 1, h => (hs _ rfl).symm.trans h
    | 0, h => by dsimp only at h ⊢; rw [← hs 4 rfl, ← hb 4 rfl, ← hx 0 rfl]; exact h
    | _ + 2, _ => trivial
  · refine ⟨⟨trivial, ?_⟩, ?_⟩
    · refine sv_any rfl rfl fun ρ β W X cx => ?_
      exact dv_box (cs := #[.int .i64 hi, .slice LA ls.length lc, .slice OA own.length oc, .int .i64 hz, .slice SA bs.length sc]) rfl (cx.out 1 rfl) rfl rfl rfl (fun σ β' X' hs hb hv hx => ⟨hv, hx⟩)
    · exact s0 rfl fun cx => run_assign' rfl (cx.sees.const _)
  intro σ β X W1 hD hX hst1 fr hfr
  obtain ⟨B4_1, hu_B4_1⟩ : ∃ z, pb (β 4) = z := ⟨_, rfl⟩
  simp only [zM, exq 0 ((hD 0 lq).2), hu_B4_1] at hst1
  simp only [zP, ed 4 ((hD 0 lq).1), ed 6 (hD 1 lq), hu_B4_1] at hfr
  clear hX hD hu_B4_1; subst hfr; clear σ β X
  refine then_normal ?_
  refine wp_seq ?_
  refine wp_region_X [0, 1] [] [] [] (fun ix σ β X => match ix with | 0 => σ 22 = .bool true | 1 => σ 7 = .bool true | _ => True) [0] [22, 7] hst1 ?_ ?_ ?_
  · exact fun ix _ _ _ _ _ _ hs hb hx h => match ix, h with
    | 0, h | 1, h => (hs _ rfl).symm.trans h
    | _ + 2, _ => trivial
  · refine ⟨⟨trivial, ?_⟩, ?_⟩
    · exact sv_call rfl rfl rfl rfl rfl (fun _ _ _ h => h) fun ρ β W X cx => ⟨_, _, run_callF (args := #[]) rfl cx.sees rfl (by kernel_rfl) map0, sanity_any _ (hN.ext cx.upd.to_ext)⟩
    · exact s0 rfl fun cx => run_assign' rfl (cx.anc 0 rfl)
  intro σ β X W2 hD hX hst2 fr hfr
  simp only [zM, exq 0 (hX 0 _ rfl)] at hst2
  simp only [zP, ed 22 (hD 0 lq), ed 7 (hD 1 lq)] at hfr
  clear hX hD; subst hfr; clear σ β X
  refine then_normal ?_
  refine wp_seq ?_
  refine wp_region_X [0, 1, 3] [[0], [], [0]] [[], [1, 2], [3]] [[], [], [0]] (fun ix σ β X => match ix with | 0 => σ 23 = .agg #[.int .i64 hi, .slice LA ls.length lc, .slice OA own.length oc, .int .i64 hz, .slice SA bs.length sc] | 1 => σ 24 = .agg #[.int .i64 hi, .slice (sA (tg (β 24) 1)) ((ls.take 60).length) (sC (tg (β 24) 1)), .slice (sA (tg (β 24) 2)) ((own.take 20).length) (sC (tg (β 24) 2)), .int .i64 hz, .slice SA bs.length sc] ∧ X 1 = eO 3 1 (.slice (sA (tg (β 24) 1)) ((ls.take 60).length) (sC (tg (β 24) 1))) ((ls.take 60).length) ((ls.take 60).map (Value.int .i64)) ∧ X 2 = eO 3 1 (.slice (sA (tg (β 24) 2)) ((own.take 20).length) (sC (tg (β 24) 2))) ((own.take 20).length) ((own.take 20).map (Value.int .i64)) | 2 => X 3 = eB B4_1 45 #[.int .i64 hi, .slice (sA (tg (β 24) 1)) ((ls.take 60).length) (sC (tg (β 24) 1)), .slice (sA (tg (β 24) 2)) ((own.take 20).length) (sC (tg (β 24) 2)), .int .i64 hz, .slice SA bs.length sc] | _ => True) [1, 2, 3] [23, 24] hst2 ?_ ?_ ?_
  · exact fun ix _ _ _ _ _ _ hs hb hx h => match ix, h with
    | 0, h => (hs _ rfl).symm.trans h
    | 1, h => by dsimp only at h ⊢; rw [← hs 24 rfl, ← hb 24 rfl, ← hx 1 rfl, ← hx 2 rfl]; exact h
    | 2, h => by dsimp only at h ⊢; rw [← hb 24 rfl, ← hx 3 rfl]; exact h
    | _ + 3, _ => trivial
  · refine ⟨⟨⟨trivial, ?_⟩, ?_⟩, ?_⟩
    · exact s0 rfl fun cx => run_loadB (n := 5) rfl (by kernel_rfl) (by kernel_rfl) (cx.out 4 rfl) (cx.blk (cx.init 0 _ rfl) rfl) (Nat.le_of_ble_eq_true rfl) rfl
    · refine sv_any rfl rfl fun ρ β W X cx => ?_
      refine DoesU.call (run_callF (args := #[.agg #[.int .i64 hi, .slice LA ls.length lc, .slice OA own.length oc, .int .i64 hz, .slice SA bs.length sc]]) rfl cx.sees rfl (by kernel_rfl) (map1 (cx.anc 0 rfl))) ?_
      refine (cut_any hi hz _ _ ls _ _ own _ _ _ _ (hL.ext cx.upd.to_ext) (hO.ext cx.upd.to_ext) hlc hoc).mono ?_
      rintro e W1 ⟨A4, c4, B4, d4, rfl, hc⟩
      refine ⟨_, rfl, post_st [eO 3 1 (.slice A4 (ls.take 60).length c4) (ls.take 60).length ((ls.take 60).map (Value.int .i64)), eO 3 1 (.slice B4 (own.take 20).length d4) (own.take 20).length ((own.take 20).map (Value.int .i64))] rfl rfl hc (fun σ β' X' hs hb hv hN => ?_)⟩
      have hv1 := (hv 24 rfl).1; have hv2 := (hv 24 rfl).2
      exact ⟨hv1.trans (by rw [hv2]; rfl), (by rw [hv2]; exact (List.cons.inj hN).1), (by rw [hv2]; exact (List.cons.inj (List.cons.inj hN).2).1)⟩
    · refine sv_any rfl rfl fun ρ β W X cx => ?_
      exact dv_store (n := 5) rfl (cx.out 4 rfl) (cx.anc 1 rfl).1 (by kernel_rfl) rfl rfl cx (cx.init 0 _ rfl) rfl (Nat.le_of_ble_eq_true rfl) rfl rfl rfl rfl (fun σ β' X' hs hb hx => by rw [hb 24]; exact hx)
  intro σ β X W3 hD hX hst3 fr hfr
  obtain ⟨A24_3, hu_A24_3⟩ : ∃ z, sA (tg (β 24) 1) = z := ⟨_, rfl⟩
  obtain ⟨c24_3, hu_c24_3⟩ : ∃ z, sC (tg (β 24) 1) = z := ⟨_, rfl⟩
  obtain ⟨A24q_3, hu_A24q_3⟩ : ∃ z, sA (tg (β 24) 2) = z := ⟨_, rfl⟩
  obtain ⟨c24q_3, hu_c24q_3⟩ : ∃ z, sC (tg (β 24) 2) = z := ⟨_, rfl⟩
  simp only [zM, exq 1 ((hD 1 lq).2.1), exq 2 ((hD 1 lq).2.2), exq 3 ((hD 2 lq)), hu_A24_3, hu_c24_3, hu_A24q_3, hu_c24q_3] at hst3
  simp only [zP, ed 23 (hD 0 lq), ed 24 ((hD 1 lq).1), hu_A24_3, hu_c24_3, hu_A24q_3, hu_c24q_3] at hfr
  clear hX hD hu_A24_3 hu_c24_3 hu_A24q_3 hu_c24q_3; subst hfr; clear σ β X
  refine then_normal ?_
  refine wp_seq ?_
  refine wp_region_X [0, 1, 0, 7] [[], [], [], [4]] [[], [3], [4], [5]] [[], [], [], [4]] (fun ix σ β X => match ix with | 0 => σ 25 = .slice LA0 l.length c0 | 1 => σ 26 = .agg #[.int .i64 (vminF l), .int .i64 (vmaxF l), .int .i64 (vpgF l), .int .i64 (vslF l), .bool (vhotF l), .slice (sA (tg (β 26) 5)) ((vrowF l).length) (sC (tg (β 26) 5))] ∧ X 3 = eO 103 3 (.slice (sA (tg (β 26) 5)) ((vrowF l).length) (sC (tg (β 26) 5))) ((vrowF l).length) (flatR (vrowF l)) | 2 => σ 8 = .pointer (some ⟨(pb (β 8)), 0, none⟩) ∧ X 4 = eB (pb (β 8)) 27 #[.int .i64 0, .int .i64 0, .int .i64 0, .int .i64 0, .bool false, .slice none 0 0] | 3 => X 5 = eB (pb (β 8)) 27 #[.int .i64 (vminF l), .int .i64 (vmaxF l), .int .i64 (vpgF l), .int .i64 (vslF l), .bool (vhotF l), .slice (sA (tg (β 26) 5)) ((vrowF l).length) (sC (tg (β 26) 5))] | _ => True) [0, 1, 2, 3, 5] [25, 26, 8] hst3 ?_ ?_ ?_
  · exact fun ix _ _ _ _ _ _ hs hb hx h => match ix, h with
    | 0, h => (hs _ rfl).symm.trans h
    | 1, h => by dsimp only at h ⊢; rw [← hs 26 rfl, ← hb 26 rfl, ← hx 3 rfl]; exact h
    | 2, h => by dsimp only at h ⊢; rw [← hs 8 rfl, ← hb 8 rfl, ← hx 4 rfl]; exact h
    | 3, h => by dsimp only at h ⊢; rw [← hb 8 rfl, ← hb 26 rfl, ← hx 5 rfl]; exact h
    | _ + 4, _ => trivial
  · refine ⟨⟨⟨⟨trivial, ?_⟩, ?_⟩, ?_⟩, ?_⟩
    · exact mo rfl
    · refine sv_any rfl rfl fun ρ β W X cx => ?_
      refine DoesU.call (run_callF (args := #[.slice LA0 l.length c0]) rfl cx.sees rfl (by kernel_rfl) (map1 (cx.anc 0 rfl))) ?_
      refine (made08_any _ _ l _ (hA0.ext cx.upd.to_ext) (by omega)).mono ?_
      rintro e W1 ⟨A4, c4, rfl, ho, hx⟩
      refine ⟨_, rfl, post_call [eO 103 3 (.slice A4 ((vrowF l).length) c4) ((vrowF l).length) (flatR (vrowF l))] rfl rfl hx (one_new (eO_new ho)) (List.pairwise_singleton _ _) (fun σ β' X' hs hb hv hN => ?_)⟩
      have hv1 := (hv 26 rfl).1; have hv2 := (hv 26 rfl).2
      exact ⟨hv1.trans (by rw [hv2]; rfl), (by rw [hv2]; exact (List.cons.inj hN).1)⟩
    · refine sv_any rfl rfl fun ρ β W X cx => ?_
      exact dv_alloc (cs := #[.int .i64 0, .int .i64 0, .int .i64 0, .int .i64 0, .bool false, .slice none 0 0]) rfl (by kernel_rfl) rfl rfl (fun σ β' X' hs hb hv hx => ⟨hv, hx⟩)
    · refine sv_any rfl rfl fun ρ β W X cx => ?_
      exact dv_store (n := 6) rfl (cx.anc 2 rfl).1 (cx.anc 1 rfl).1 (by kernel_rfl) rfl rfl cx (cx.anc 2 rfl).2 rfl (Nat.le_of_ble_eq_true rfl) rfl rfl rfl rfl (fun σ β' X' hs hb hx => by rw [hb 8, hb 26]; exact hx)
  intro σ β X W4 hD hX hst4 fr hfr
  obtain ⟨A26_4, hu_A26_4⟩ : ∃ z, sA (tg (β 26) 5) = z := ⟨_, rfl⟩
  obtain ⟨c26_4, hu_c26_4⟩ : ∃ z, sC (tg (β 26) 5) = z := ⟨_, rfl⟩
  obtain ⟨B8_4, hu_B8_4⟩ : ∃ z, pb (β 8) = z := ⟨_, rfl⟩
  simp only [zM, exq 0 (hX 0 _ rfl), exq 1 (hX 1 _ rfl), exq 2 (hX 2 _ rfl), exq 3 ((hD 1 lq).2), exq 5 ((hD 3 lq)), hu_A26_4, hu_c26_4, hu_B8_4] at hst4
  simp only [zP, ed 25 (hD 0 lq), ed 26 ((hD 1 lq).1), ed 8 ((hD 2 lq).1), hu_A26_4, hu_c26_4, hu_B8_4] at hfr
  clear hX hD hu_A26_4 hu_c26_4 hu_B8_4; subst hfr; clear σ β X
  refine then_normal ?_
  refine wp_seq ?_
  obtain ⟨x, hxe, hx⟩ : ∃ z : Int, 3 + xa % 65536 % 125 = z ∧ 3 ≤ z ∧ z < 128 := ⟨_, rfl, by omega, by omega⟩
  refine wp_region_X [0, 1, 3, 7, 15] [] [] [] (fun ix σ β X => match ix with | 0 => σ 27 = .int .i64 xa | 1 => σ 28 = .int .i64 (xa % 65536) | 2 => σ 29 = .int .i64 ((xa % 65536) % 125) | 3 => σ 30 = .int .i64 x | 4 => σ 2 = .int .i64 x | _ => True) [0, 1, 2, 3, 4] [27, 28, 29, 30, 2] hst4 ?_ ?_ ?_
  · exact fun ix _ _ _ _ _ _ hs hb hx h => match ix, h with
    | 0, h | 1, h | 2, h | 3, h | 4, h => (hs _ rfl).symm.trans h
    | _ + 5, _ => trivial
  · refine ⟨⟨⟨⟨⟨trivial, ?_⟩, ?_⟩, ?_⟩, ?_⟩, ?_⟩
    · exact mo rfl
    · exact s4 rfl (fun _ _ _ h => h) fun cx => run_and rfl (cx.anc 0 rfl) (cx.sees.const _) (bits_mask xa 16 (by decide))
    · exact s4 rfl (fun _ _ _ h => h) fun cx => run_rem rfl (cx.anc 1 rfl) (cx.sees.const _) (by decide) (Int.tmod_eq_emod_of_nonneg (by omega))
    · exact s4 rfl (fun _ _ _ h => h) fun cx => run_bin rfl (cx.sees.const _) (cx.anc 2 rfl) (congrArg (fun z => some (Value.int .i64 z)) ((IntWalk.i64_in _ (by omega)).trans hxe))
    · exact s0 rfl fun cx => run_assign' rfl (cx.anc 3 rfl)
  intro σ β X W5 hD hX hst5 fr hfr
  simp only [zM, exq 0 (hX 0 _ rfl), exq 1 (hX 1 _ rfl), exq 2 (hX 2 _ rfl), exq 3 (hX 3 _ rfl), exq 4 (hX 4 _ rfl)] at hst5
  simp only [zP, ed 27 (hD 0 lq), ed 28 (hD 1 lq), ed 29 (hD 2 lq), ed 30 (hD 3 lq), ed 2 (hD 4 lq)] at hfr
  clear hX hD; subst hfr; clear σ β X
  refine then_normal ?_
  refine wp_seq ?_
  refine wp_region_X [0, 1] [] [[5]] [] (fun ix σ β X => match ix with | 0 => σ 31 = .slice (sA (β 31)) 125 125 ∧ X 5 = eO 5 1 (.slice (sA (β 31)) 125 125) 125 ((List.replicate 125 (0 : Int)).map (Value.int .u8)) | 1 => σ 9 = .slice (sA (β 31)) 125 125 | _ => True) [0, 1, 2, 3, 4, 5] [31, 9] hst5 ?_ ?_ ?_
  · exact fun ix _ _ _ _ _ _ hs hb hx h => match ix, h with
    | 0, h => by dsimp only at h ⊢; rw [← hs 31 rfl, ← hb 31 rfl, ← hx 5 rfl]; exact h
    | 1, h => by dsimp only at h ⊢; rw [← hs 9 rfl, ← hb 31 rfl]; exact h
    | _ + 2, _ => trivial
  · refine ⟨⟨trivial, ?_⟩, ?_⟩
    · refine sv_any rfl rfl fun ρ β W X cx => ?_
      obtain ⟨i0, hi0, hz0, hz1, hz2⟩ := info_parts Tryd.infoU8
      exact dv_make (n := 125) rfl (by kernel_rfl) hi0 hz0 hz1 hz2 rfl (cx.sees.const _) (cx.sees.const _) (by omega) (by omega) (by omega) (by omega) rfl rfl (fun σ β' X' hs hb hv hx => ⟨hv, by rw [List.map_replicate]; exact hx⟩)
    · exact sv rfl rfl rfl rfl rfl _ (fun _ _ _ h => h) (fun β β' h => by rw [h 31 (by decide)]) fun ρ β W X cx => run_assign' rfl (cx.anc 0 rfl).1
  intro σ β X W6 hD hX hst6 fr hfr
  obtain ⟨A31_6, hu_A31_6⟩ : ∃ z, sA (β 31) = z := ⟨_, rfl⟩
  simp only [zM, exq 0 (hX 0 _ rfl), exq 1 (hX 1 _ rfl), exq 2 (hX 2 _ rfl), exq 3 (hX 3 _ rfl), exq 4 (hX 4 _ rfl), exq 5 ((hD 0 lq).2), hu_A31_6] at hst6
  simp only [zP, ed 31 ((hD 0 lq).1), ed 9 (hD 1 lq), hu_A31_6] at hfr
  clear hX hD hu_A31_6; subst hfr; clear σ β X
  refine then_normal ?_
  refine wp_seq ?_
  refine wp_seq ?_
  rw [← rwL_0 bs] at hst6
  refine wp_region_X [0] [] [] [] (fun ix σ β X => match ix with | 0 => σ 10 = .int .i64 0 | _ => True) [0, 1, 2, 3, 4, 5] [10] hst6 ?_ ?_ ?_
  · exact fun ix _ _ _ _ _ _ hs hb hx h => match ix, h with
    | 0, h => (hs _ rfl).symm.trans h
    | _ + 1, _ => trivial
  · refine ⟨trivial, ?_⟩
    · exact s0 rfl fun cx => run_assign' rfl (cx.sees.const _)
  intro σ β X W7 hD hX hst7 fr hfr
  simp only [zM, exq 0 (hX 0 _ rfl), exq 1 (hX 1 _ rfl), exq 2 (hX 2 _ rfl), exq 3 (hX 3 _ rfl), exq 4 (hX 4 _ rfl), exq 5 (hX 5 _ rfl)] at hst7
  simp only [zP, ed 10 (hD 0 lq)] at hfr
  clear hX hD; subst hfr; clear σ β X
  refine then_normal ?_
  refine wp_block ?_
  refine wp_loopN (fun mz az W => ∃ k : Nat, ∃ u8_ : List Value, k ≤ 125 ∧ mz = 125 - k ∧ az = ⟨#[.slice LA0 l.length c0, .agg #[.int .i64 hi, .slice LA ls.length lc, .slice OA own.length oc, .int .i64 hz, .slice SA bs.length sc], .int .i64 x, undef, .pointer (some ⟨B4_1, 0, none⟩), undef, .bool false, .bool true, .pointer (some ⟨B8_4, 0, none⟩), .slice A31_6 125 125, .int .i64 ((k : Int)), undef, undef, undef, undef, undef, undef, undef, undef, undef, undef, undef, .bool true, .agg #[.int .i64 hi, .slice LA ls.length lc, .slice OA own.length oc, .int .i64 hz, .slice SA bs.length sc], .agg #[.int .i64 hi, .slice A24_3 ((ls.take 60).length) c24_3, .slice A24q_3 ((own.take 20).length) c24q_3, .int .i64 hz, .slice SA bs.length sc], .slice LA0 l.length c0, .agg #[.int .i64 (vminF l), .int .i64 (vmaxF l), .int .i64 (vpgF l), .int .i64 (vslF l), .bool (vhotF l), .slice A26_4 ((vrowF l).length) c26_4], .int .i64 xa, .int .i64 (xa % 65536), .int .i64 ((xa % 65536) % 125), .int .i64 x, .slice A31_6 125 125, (u8_.getD 0 undef), (u8_.getD 1 undef), (u8_.getD 2 undef), (u8_.getD 3 undef), (u8_.getD 4 undef), (u8_.getD 5 undef), (u8_.getD 6 undef), (u8_.getD 7 undef), (u8_.getD 8 undef), (u8_.getD 9 undef), (u8_.getD 10 undef), (u8_.getD 11 undef), (u8_.getD 12 undef), undef, undef, undef, undef, undef, undef, undef, undef, undef, undef, undef, undef, undef, undef, undef, undef, undef, undef, undef, undef, undef, undef, undef, undef, undef, undef, undef, undef, undef, undef, undef, undef, undef, undef, undef, undef, undef, undef, undef, undef, undef, undef, undef, undef, undef, undef, undef, undef, undef, undef, undef, undef, undef, undef, undef, undef, undef, undef, undef, undef, undef, undef, undef, undef, undef, undef, undef, undef, undef, undef, undef, undef, undef, undef, undef, undef, undef, undef, undef, undef, undef, undef, undef, undef, undef, undef, undef, undef, undef, undef, undef, undef, undef, undef, undef, undef, undef, undef, undef, undef, undef, undef, undef, undef, undef, undef, undef, undef, undef, undef, undef, undef, undef, undef, undef, undef, undef, undef, undef, undef, undef, undef], []⟩ ∧ St w [] [eO 3 1 (.slice A24_3 ((ls.take 60).length) c24_3) ((ls.take 60).length) ((ls.take 60).map (Value.int .i64)), eO 3 1 (.slice A24q_3 ((own.take 20).length) c24q_3) ((own.take 20).length) ((own.take 20).map (Value.int .i64)), eB B4_1 45 #[.int .i64 hi, .slice A24_3 ((ls.take 60).length) c24_3, .slice A24q_3 ((own.take 20).length) c24q_3, .int .i64 hz, .slice SA bs.length sc], eO 103 3 (.slice A26_4 ((vrowF l).length) c26_4) ((vrowF l).length) (flatR (vrowF l)), eB B8_4 27 #[.int .i64 (vminF l), .int .i64 (vmaxF l), .int .i64 (vpgF l), .int .i64 (vslF l), .bool (vhotF l), .slice A26_4 ((vrowF l).length) c26_4], eO 5 1 (.slice A31_6 125 125) 125 ((rwL bs k).map (Value.int .u8))] W) (125 - 0) ?_ ?_
  · -- the loop begins
    have hp9 := hst7.pick [0, 1, 2, 3, 4, 5] (by decide) rfl
    exact ⟨0, [undef, undef, undef, undef, undef, undef, undef, undef, undef, undef, undef, undef, undef], by omega, rfl, rfl, hp9⟩
  rintro n8 a8 W8 ⟨k, u8_, hk, rfl, rfl, hst8⟩
  have hsb := standF_bd bs (3 + (k : Int))
  refine wp_seq ?_
  refine wp_seq ?_
  refine wp_region_X [0, 1] [] [] [] (fun ix σ β X => match ix with | 0 => σ 32 = .int .i64 ((k : Int)) | 1 => σ 33 = .bool (decide ((k : Int) < 125)) | _ => True) [0, 1, 2, 3, 4, 5] [32, 33] hst8 ?_ ?_ ?_
  · exact fun ix _ _ _ _ _ _ hs hb hx h => match ix, h with
    | 0, h | 1, h => (hs _ rfl).symm.trans h
    | _ + 2, _ => trivial
  · refine ⟨⟨trivial, ?_⟩, ?_⟩
    · exact mo rfl
    · exact s0 rfl fun cx => run_bin rfl (cx.anc 0 rfl) (cx.sees.const _) rfl
  intro σ β X W10 hD hX hst10 fr hfr
  simp only [zM, exq 0 (hX 0 _ rfl), exq 1 (hX 1 _ rfl), exq 2 (hX 2 _ rfl), exq 3 (hX 3 _ rfl), exq 4 (hX 4 _ rfl), exq 5 (hX 5 _ rfl)] at hst10
  simp only [zP, ed 32 (hD 0 lq), ed 33 (hD 1 lq)] at hfr
  clear hX hD; subst hfr; clear σ β X
  refine then_normal ?_
  rcases Bool.eq_false_or_eq_true (decide ((k : Int) < 125)) with hs11 | hs11
  · skip
    have hs11p : (k : Int) < 125 := by simpa using hs11
    refine wp_cond_true (show Act.eval _ _ = .bool true from (congrArg Value.bool hs11)) ?_
    refine wp_skip ?_
    refine then_normal ?_
    refine wp_seq ?_
    refine wp_block ?_
    refine wp_region_X [0, 0, 0, 4, 0, 16, 60, 124, 255, 511] [[], [], [], [2], [], [], [], [], [5], [5]] [[], [], [], [], [], [], [], [], [], [6]] [[], [], [], [], [], [], [], [], [], [5]] (fun ix σ β X => match ix with | 0 => σ 36 = .slice A31_6 125 125 | 1 => σ 37 = .int .i64 ((k : Int)) | 2 => σ 38 = .pointer (some ⟨B4_1, 4, none⟩) | 3 => σ 39 = .slice SA bs.length sc | 4 => σ 40 = .int .i64 ((k : Int)) | 5 => σ 41 = .int .i64 (3 + (k : Int)) | 6 => σ 42 = .int .i64 (standF bs (3 + (k : Int))) | 7 => σ 43 = .int .u8 (standF bs (3 + (k : Int))) | 8 => σ 44 = .pointer (some ((ad A31_6).add k)) | 9 => X 6 = eO 5 1 (.slice A31_6 125 125) 125 ((rwL bs (k + 1)).map (Value.int .u8)) | _ => True) [0, 1, 2, 3, 4, 6] [36, 37, 38, 39, 40, 41, 42, 43, 44] hst10 ?_ ?_ ?_
    · exact fun ix _ _ _ _ _ _ hs hb hx h => match ix, h with
      | 0, h | 1, h | 2, h | 3, h | 4, h | 5, h | 6, h | 7, h | 8, h => (hs _ rfl).symm.trans h
      | 9, h => by dsimp only at h ⊢; rw [← hx 6 rfl]; exact h
      | _ + 10, _ => trivial
    · refine ⟨⟨⟨⟨⟨⟨⟨⟨⟨⟨trivial, ?_⟩, ?_⟩, ?_⟩, ?_⟩, ?_⟩, ?_⟩, ?_⟩, ?_⟩, ?_⟩, ?_⟩
      · exact mo rfl
      · exact mo rfl
      · exact s0 rfl fun cx => run_fieldAddr' (k := 4) (n := 4) rfl (by kernel_rfl) (cx.out 4 rfl) rfl
      · exact s0 rfl fun cx => run_load1 rfl (by kernel_rfl) (cx.anc 2 rfl) ((cx.blk (cx.init 2 _ rfl) rfl).cell 4)
      · exact mo rfl
      · exact s4 rfl (fun _ _ _ h => h) fun cx => run_bin rfl (cx.sees.const _) (cx.anc 4 rfl) (congrArg (fun z => some (Value.int .i64 z)) ((IntWalk.i64_in _ (by omega)).trans (by omega)))
      · exact sv_call rfl rfl rfl rfl rfl (fun _ _ _ h => h) fun ρ β W X cx => ⟨_, _, run_callF (args := #[.slice SA bs.length sc, .int .i64 (3 + (k : Int))]) rfl cx.sees rfl (by kernel_rfl) (map2 (cx.anc 3 rfl) (cx.anc 5 rfl)), stand_any _ _ bs (3 + (k : Int)) _ (hSA.ext cx.upd.to_ext) hbs⟩
      · exact s4 rfl (fun _ _ _ h => h) fun cx => run_convI rfl (by kernel_rfl) (by kernel_rfl) (cx.anc 6 rfl) (IntWalk.u8_in _ (by omega))
      · exact s4 rfl (fun _ _ _ h => h) fun cx => run_indexSl (e := 5) (m := k) rfl (by kernel_rfl) (by kernel_rfl) (cx.anc 0 rfl) (cx.anc 1 rfl) (by omega) (by omega) (At.of_own (cx.row (cx.init 5 _ rfl) rfl)) ((by simp [rwL_len]))
      · refine sv_any rfl rfl fun ρ β W X cx => ?_
        exact dv_storeRow (m := k) (n := 125) rfl (cx.anc 8 rfl) (cx.anc 7 rfl) (by kernel_rfl) rfl rfl cx (cx.init 5 _ rfl) rfl (by omega) rfl (by rw [← List.map_set, rwL_set bs k (by omega)]) rfl rfl (fun σ β' X' hs hb hx => hx)
    intro σ β X W12 hD hX hst12 fr hfr
    simp only [zM, exq 0 (hX 0 _ rfl), exq 1 (hX 1 _ rfl), exq 2 (hX 2 _ rfl), exq 3 (hX 3 _ rfl), exq 4 (hX 4 _ rfl), exq 6 ((hD 9 lq))] at hst12
    simp only [zP, ed 36 (hD 0 lq), ed 37 (hD 1 lq), ed 38 (hD 2 lq), ed 39 (hD 3 lq), ed 40 (hD 4 lq), ed 41 (hD 5 lq), ed 42 (hD 6 lq), ed 43 (hD 7 lq), ed 44 (hD 8 lq)] at hfr
    clear hX hD; subst hfr; clear σ β X
    refine blk_normal ?_
    refine then_normal ?_
    refine wp_region_X [0, 1, 3] [] [] [] (fun ix σ β X => match ix with | 0 => σ 34 = .int .i64 ((k : Int)) | 1 => σ 35 = .int .i64 ((k : Int) + 1) | 2 => σ 10 = .int .i64 ((k : Int) + 1) | _ => True) [0, 1, 2, 3, 4, 5] [34, 35, 10] hst12 ?_ ?_ ?_
    · exact fun ix _ _ _ _ _ _ hs hb hx h => match ix, h with
      | 0, h | 1, h | 2, h => (hs _ rfl).symm.trans h
      | _ + 3, _ => trivial
    · refine ⟨⟨⟨trivial, ?_⟩, ?_⟩, ?_⟩
      · exact mo rfl
      · exact s4 rfl (fun _ _ _ h => h) fun cx => run_bin rfl (cx.anc 0 rfl) (cx.sees.const _) (congrArg (fun z => some (Value.int .i64 z)) ((IntWalk.i64_in _ (by omega)).trans (by omega)))
      · exact s0 rfl fun cx => run_assign' rfl (cx.anc 1 rfl)
    intro σ β X W13 hD hX hst13 fr hfr
    simp only [zM, exq 0 (hX 0 _ rfl), exq 1 (hX 1 _ rfl), exq 2 (hX 2 _ rfl), exq 3 (hX 3 _ rfl), exq 4 (hX 4 _ rfl), exq 5 (hX 5 _ rfl)] at hst13
    simp only [zP, ed 34 (hD 0 lq), ed 35 (hD 1 lq), ed 10 (hD 2 lq)] at hfr
    clear hX hD; subst hfr; clear σ β X
    refine then_normal ?_
    refine ⟨125 - ((k + 1)), by omega, ?_⟩
    have hp14 := hst13.pick [0, 1, 2, 3, 4, 5] (by decide) rfl
    exact ⟨(k + 1), [.int .i64 ((k : Int)), .bool (decide ((k : Int) < 125)), .int .i64 ((k : Int)), .int .i64 ((k : Int) + 1), .slice A31_6 125 125, .int .i64 ((k : Int)), .pointer (some ⟨B4_1, 4, none⟩), .slice SA bs.length sc, .int .i64 ((k : Int)), .int .i64 (3 + (k : Int)), .int .i64 (standF bs (3 + (k : Int))), .int .u8 (standF bs (3 + (k : Int))), .pointer (some ((ad A31_6).add k))], by omega, rfl, rfl, hp14⟩
  have hs11p : ¬ ((k : Int) < 125) := by simpa using hs11
  refine wp_cond_false (show Act.eval _ _ = .bool false from (congrArg Value.bool hs11)) ?_
  refine wp_exit ?_
  refine then_exit ?_
  refine then_exit ?_
  refine blk_eq ?_
  refine then_normal ?_
  refine wp_seq ?_
  obtain rfl : k = 125 := by omega
  obtain ⟨RW, hRW⟩ : ∃ z, rwL bs 125 = z := ⟨_, rfl⟩
  have hRl : RW.length = 125 := by rw [← hRW]; exact rwL_len bs 125
  have hRu : ∀ b ∈ RW, 0 ≤ b ∧ b ≤ 255 := by rw [← hRW]; exact rwL_u8 bs 125
  rw [hRW] at hst10
  have hg1 := standF_own hRl (v := 1) hx
  have hg3 := standF_own (l := RW.set (x - 3).toNat 1) (by rw [List.length_set]; exact hRl) (v := 3) hx
  have hu1 := set_u8 hRu (x - 3).toNat (v := 1) (by decide)
  have hu3 := set_u8 hu1 (x - 3).toNat (v := 3) (by decide)
  have hc : ((ls.take 60) ++ [x]).contains x = true := by simp
  have hl60 : (ls.take 60).length ≤ 60 := by rw [List.length_take]; omega
  have hll : ((ls.take 60) ++ [x]).length ≤ 61 := by rw [List.length_append, List.length_take]; simp; omega
  have hl1 : (RW.set (x - 3).toNat 1).length = 125 := by rw [List.length_set]; exact hRl
  have hl3 : ((RW.set (x - 3).toNat 1).set (x - 3).toNat 3).length = 125 := by rw [List.length_set]; exact hl1
  refine wp_region_X [0, 0, 2, 7, 15] [[], [], [], [5], [5]] [[], [], [], [], [6]] [[], [], [], [], [5]] (fun ix σ β X => match ix with | 0 => σ 45 = .slice A31_6 125 125 | 1 => σ 46 = .int .i64 x | 2 => σ 47 = .int .i64 (x - 3) | 3 => σ 48 = .pointer (some ((ad A31_6).add ((x - 3).toNat))) | 4 => X 6 = eO 5 1 (.slice A31_6 125 125) 125 ((RW.set (x - 3).toNat 1).map (Value.int .u8)) | _ => True) [0, 1, 2, 3, 4, 6] [45, 46, 47, 48] hst10 ?_ ?_ ?_
  · exact fun ix _ _ _ _ _ _ hs hb hx h => match ix, h with
    | 0, h | 1, h | 2, h | 3, h => (hs _ rfl).symm.trans h
    | 4, h => by dsimp only at h ⊢; rw [← hx 6 rfl]; exact h
    | _ + 5, _ => trivial
  · refine ⟨⟨⟨⟨⟨trivial, ?_⟩, ?_⟩, ?_⟩, ?_⟩, ?_⟩
    · exact mo rfl
    · exact mo rfl
    · exact s4 rfl (fun _ _ _ h => h) fun cx => run_bin rfl (cx.anc 1 rfl) (cx.sees.const _) (congrArg (fun z => some (Value.int .i64 z)) ((IntWalk.i64_in _ (by omega)).trans (by omega)))
    · exact s4 rfl (fun _ _ _ h => h) fun cx => run_indexSl (e := 5) (m := (x - 3).toNat) rfl (by kernel_rfl) (by kernel_rfl) (cx.anc 0 rfl) (cx.anc 2 rfl) (by omega) (by omega) (At.of_own (cx.row (cx.init 5 _ rfl) rfl)) ((by simp [hRl]))
    · refine sv_any rfl rfl fun ρ β W X cx => ?_
      exact dv_storeRow (m := (x - 3).toNat) (n := 125) rfl (cx.anc 3 rfl) (cx.sees.const _) (by kernel_rfl) rfl rfl cx (cx.init 5 _ rfl) rfl (by omega) rfl (by rw [← List.map_set]) rfl rfl (fun σ β' X' hs hb hx => hx)
  intro σ β X W15 hD hX hst15 fr hfr
  simp only [zM, exq 0 (hX 0 _ rfl), exq 1 (hX 1 _ rfl), exq 2 (hX 2 _ rfl), exq 3 (hX 3 _ rfl), exq 4 (hX 4 _ rfl), exq 6 ((hD 4 lq))] at hst15
  simp only [zP, ed 45 (hD 0 lq), ed 46 (hD 1 lq), ed 47 (hD 2 lq), ed 48 (hD 3 lq)] at hfr
  clear hX hD; subst hfr; clear σ β X
  refine then_normal ?_
  refine wp_seq ?_
  refine wp_region_X [0, 1, 3, 0, 8, 31, 63, 127, 255] [[], [], [2], [], [], [6, 0], [], [], [2]] [[], [], [], [], [6], [7], [], [], [8]] [[], [], [], [], [], [0], [], [], [2]] (fun ix σ β X => match ix with | 0 => σ 49 = .pointer (some ⟨B4_1, 0, none⟩) | 1 => σ 50 = .pointer (some ⟨B4_1, 1, none⟩) | 2 => σ 51 = .slice A24_3 ((ls.take 60).length) c24_3 | 3 => σ 52 = .int .i64 x | 4 => σ 53 = .slice (sA (β 53)) 1 1 ∧ X 6 = eO 3 1 (.slice (sA (β 53)) 1 1) 1 ([.int .i64 x]) | 5 => σ 54 = .slice (sA (β 54)) (((ls.take 60) ++ [x]).length) (sC (β 54)) ∧ X 7 = eO 3 1 (.slice (sA (β 54)) (((ls.take 60) ++ [x]).length) (sC (β 54))) (((ls.take 60) ++ [x]).length) (((ls.take 60) ++ [x]).map (Value.int .i64)) | 6 => σ 55 = .pointer (some ⟨B4_1, 0, none⟩) | 7 => σ 56 = .pointer (some ⟨B4_1, 1, none⟩) | 8 => X 8 = eB B4_1 45 #[.int .i64 hi, .slice (sA (β 54)) (((ls.take 60) ++ [x]).length) (sC (β 54)), .slice A24q_3 ((own.take 20).length) c24q_3, .int .i64 hz, .slice SA bs.length sc] | _ => True) [1, 3, 4, 5, 6, 7, 8] [49, 50, 51, 52, 53, 54, 55, 56] hst15 ?_ ?_ ?_
  · exact fun ix _ _ _ _ _ _ hs hb hx h => match ix, h with
    | 0, h | 1, h | 2, h | 3, h | 6, h | 7, h => (hs _ rfl).symm.trans h
    | 4, h => by dsimp only at h ⊢; rw [← hs 53 rfl, ← hb 53 rfl, ← hx 6 rfl]; exact h
    | 5, h => by dsimp only at h ⊢; rw [← hs 54 rfl, ← hb 54 rfl, ← hx 7 rfl]; exact h
    | 8, h => by dsimp only at h ⊢; rw [← hb 54 rfl, ← hx 8 rfl]; exact h
    | _ + 9, _ => trivial
  · refine ⟨⟨⟨⟨⟨⟨⟨⟨⟨trivial, ?_⟩, ?_⟩, ?_⟩, ?_⟩, ?_⟩, ?_⟩, ?_⟩, ?_⟩, ?_⟩
    · exact s0 rfl fun cx => run_fieldAddr' (k := 0) (n := 0) rfl (by kernel_rfl) (cx.out 4 rfl) rfl
    · exact s0 rfl fun cx => run_fieldAddr' (k := 1) (n := 1) rfl (by kernel_rfl) (cx.anc 0 rfl) rfl
    · exact s0 rfl fun cx => run_load1 rfl (by kernel_rfl) (cx.anc 1 rfl) ((cx.blk (cx.init 2 _ rfl) rfl).cell 1)
    · exact mo rfl
    · refine sv_any rfl rfl fun ρ β W X cx => ?_
      have fF52 : ρ (.tmp 52) = .int .i64 x := (cx.anc 3 rfl)
      exact dv_lit (e := 3) (xs := [.int .i64 x]) rfl (by simp [go_sem, fF52, cx.sees.const]) rfl (by decide) rfl rfl (fun σ β' X' hs hb hv hx => ⟨hv, hx⟩)
    · refine sv_any rfl rfl fun ρ β W X cx => ?_
      obtain ⟨i0, hi0, hz0, hz1, hz2⟩ := info_parts Tryd.infoInt
      refine dv_append (n := (ls.take 60).length) (m := 1) (nm := ((ls.take 60) ++ [x]).length) (xs := (ls.take 60).map (Value.int .i64)) (news := [.int .i64 x]) (xs' := ((ls.take 60) ++ [x]).map (Value.int .i64)) rfl (ty := 28) rfl (by kernel_rfl) hi0 hz0 hz1 hz2 rfl (cx.anc 2 rfl) cx (cx.init 0 _ rfl) rfl (cx.anc 4 rfl).1 (by first | (simp; done) | (simp; omega)) (At.of_own (cx.row (cx.anc 4 rfl).2 rfl)) (by simp [Value.oneCell']) (by simp only [maxLen]; omega) (by omega) rfl rfl rfl (by simp) (by simp) (fun σ β' X' hs hb hv hx => ?_)
      exact ⟨hv, hx⟩
    · exact s0 rfl fun cx => run_fieldAddr' (k := 0) (n := 0) rfl (by kernel_rfl) (cx.out 4 rfl) rfl
    · exact s0 rfl fun cx => run_fieldAddr' (k := 1) (n := 1) rfl (by kernel_rfl) (cx.anc 6 rfl) rfl
    · refine sv_any rfl rfl fun ρ β W X cx => ?_
      exact dv_store (n := 1) rfl (cx.anc 7 rfl) (cx.anc 5 rfl).1 (by kernel_rfl) rfl rfl cx (cx.init 2 _ rfl) rfl (Nat.le_of_ble_eq_true rfl) rfl rfl rfl rfl (fun σ β' X' hs hb hx => by rw [hb 54]; exact hx)
  intro σ β X W16 hD hX hst16 fr hfr
  obtain ⟨A53_16, hu_A53_16⟩ : ∃ z, sA (β 53) = z := ⟨_, rfl⟩
  obtain ⟨A54_16, hu_A54_16⟩ : ∃ z, sA (β 54) = z := ⟨_, rfl⟩
  obtain ⟨c54_16, hu_c54_16⟩ : ∃ z, sC (β 54) = z := ⟨_, rfl⟩
  simp only [zM, exq 1 (hX 1 _ rfl), exq 3 (hX 3 _ rfl), exq 4 (hX 4 _ rfl), exq 5 (hX 5 _ rfl), exq 6 ((hD 4 lq).2), exq 7 ((hD 5 lq).2), exq 8 ((hD 8 lq)), hu_A53_16, hu_A54_16, hu_c54_16] at hst16
  simp only [zP, ed 49 (hD 0 lq), ed 50 (hD 1 lq), ed 51 (hD 2 lq), ed 52 (hD 3 lq), ed 53 ((hD 4 lq).1), ed 54 ((hD 5 lq).1), ed 55 (hD 6 lq), ed 56 (hD 7 lq), hu_A53_16, hu_A54_16, hu_c54_16] at hfr
  clear hX hD hu_A53_16 hu_A54_16 hu_c54_16; subst hfr; clear σ β X
  refine then_normal ?_
  refine wp_seq ?_
  refine wp_region_X [0, 1, 3] [] [[], [7]] [] (fun ix σ β X => match ix with | 0 => σ 57 = .int .i64 x | 1 => σ 58 = .slice (sA (β 58)) 1 1 ∧ X 7 = eO 3 1 (.slice (sA (β 58)) 1 1) 1 ([.int .i64 x]) | 2 => σ 11 = .slice (sA (β 58)) 1 1 | _ => True) [0, 1, 2, 3, 4, 5, 6, 7] [57, 58, 11] hst16 ?_ ?_ ?_
  · exact fun ix _ _ _ _ _ _ hs hb hx h => match ix, h with
    | 0, h => (hs _ rfl).symm.trans h
    | 1, h => by dsimp only at h ⊢; rw [← hs 58 rfl, ← hb 58 rfl, ← hx 7 rfl]; exact h
    | 2, h => by dsimp only at h ⊢; rw [← hs 11 rfl, ← hb 58 rfl]; exact h
    | _ + 3, _ => trivial
  · refine ⟨⟨⟨trivial, ?_⟩, ?_⟩, ?_⟩
    · exact mo rfl
    · refine sv_any rfl rfl fun ρ β W X cx => ?_
      have fF57 : ρ (.tmp 57) = .int .i64 x := (cx.anc 0 rfl)
      exact dv_lit (e := 3) (xs := [.int .i64 x]) rfl (by simp [go_sem, fF57, cx.sees.const]) rfl (by decide) rfl rfl (fun σ β' X' hs hb hv hx => ⟨hv, hx⟩)
    · exact sv rfl rfl rfl rfl rfl _ (fun _ _ _ h => h) (fun β β' h => by rw [h 58 (by decide)]) fun ρ β W X cx => run_assign' rfl (cx.anc 1 rfl).1
  intro σ β X W17 hD hX hst17 fr hfr
  obtain ⟨A58_17, hu_A58_17⟩ : ∃ z, sA (β 58) = z := ⟨_, rfl⟩
  simp only [zM, exq 0 (hX 0 _ rfl), exq 1 (hX 1 _ rfl), exq 2 (hX 2 _ rfl), exq 3 (hX 3 _ rfl), exq 4 (hX 4 _ rfl), exq 5 (hX 5 _ rfl), exq 6 (hX 6 _ rfl), exq 7 ((hD 1 lq).2), hu_A58_17] at hst17
  simp only [zP, ed 57 (hD 0 lq), ed 58 ((hD 1 lq).1), ed 11 (hD 2 lq), hu_A58_17] at hfr
  clear hX hD hu_A58_17; subst hfr; clear σ β X
  refine then_normal ?_
  refine wp_seq ?_
  refine wp_region_X [0, 1, 3] [[], [], [2]] [[], [], [8]] [[], [], [2]] (fun ix σ β X => match ix with | 0 => σ 59 = .int .i64 x | 1 => σ 60 = .pointer (some ⟨B8_4, 0, none⟩) | 2 => X 8 = eB B8_4 27 #[.int .i64 x, .int .i64 (vmaxF l), .int .i64 (vpgF l), .int .i64 (vslF l), .bool (vhotF l), .slice A26_4 ((vrowF l).length) c26_4] | _ => True) [0, 1, 3, 4, 5, 6, 7, 8] [59, 60] hst17 ?_ ?_ ?_
  · exact fun ix _ _ _ _ _ _ hs hb hx h => match ix, h with
    | 0, h | 1, h => (hs _ rfl).symm.trans h
    | 2, h => by dsimp only at h ⊢; rw [← hx 8 rfl]; exact h
    | _ + 3, _ => trivial
  · refine ⟨⟨⟨trivial, ?_⟩, ?_⟩, ?_⟩
    · exact mo rfl
    · exact s0 rfl fun cx => run_fieldAddr' (k := 0) (n := 0) rfl (by kernel_rfl) (cx.out 8 rfl) rfl
    · refine sv_any rfl rfl fun ρ β W X cx => ?_
      exact dv_store (n := 1) rfl (cx.anc 1 rfl) (cx.anc 0 rfl) (by kernel_rfl) rfl rfl cx (cx.init 2 _ rfl) rfl (Nat.le_of_ble_eq_true rfl) rfl rfl rfl rfl (fun σ β' X' hs hb hx => hx)
  intro σ β X W18 hD hX hst18 fr hfr
  simp only [zM, exq 0 (hX 0 _ rfl), exq 1 (hX 1 _ rfl), exq 3 (hX 3 _ rfl), exq 4 (hX 4 _ rfl), exq 5 (hX 5 _ rfl), exq 6 (hX 6 _ rfl), exq 7 (hX 7 _ rfl), exq 8 ((hD 2 lq))] at hst18
  simp only [zP, ed 59 (hD 0 lq), ed 60 (hD 1 lq)] at hfr
  clear hX hD; subst hfr; clear σ β X
  refine then_normal ?_
  refine wp_seq ?_
  refine wp_region_X [0, 1] [[], [7]] [[], [8]] [[], [7]] (fun ix σ β X => match ix with | 0 => σ 61 = .pointer (some ⟨B8_4, 1, none⟩) | 1 => X 8 = eB B8_4 27 #[.int .i64 x, .int .i64 0, .int .i64 (vpgF l), .int .i64 (vslF l), .bool (vhotF l), .slice A26_4 ((vrowF l).length) c26_4] | _ => True) [0, 1, 2, 3, 4, 5, 6, 8] [61] hst18 ?_ ?_ ?_
  · exact fun ix _ _ _ _ _ _ hs hb hx h => match ix, h with
    | 0, h => (hs _ rfl).symm.trans h
    | 1, h => by dsimp only at h ⊢; rw [← hx 8 rfl]; exact h
    | _ + 2, _ => trivial
  · refine ⟨⟨trivial, ?_⟩, ?_⟩
    · exact s0 rfl fun cx => run_fieldAddr' (k := 1) (n := 1) rfl (by kernel_rfl) (cx.out 8 rfl) rfl
    · refine sv_any rfl rfl fun ρ β W X cx => ?_
      exact dv_store (n := 1) rfl (cx.anc 0 rfl) (cx.sees.const _) (by kernel_rfl) rfl rfl cx (cx.init 7 _ rfl) rfl (Nat.le_of_ble_eq_true rfl) rfl rfl rfl rfl (fun σ β' X' hs hb hx => hx)
  intro σ β X W19 hD hX hst19 fr hfr
  simp only [zM, exq 0 (hX 0 _ rfl), exq 1 (hX 1 _ rfl), exq 2 (hX 2 _ rfl), exq 3 (hX 3 _ rfl), exq 4 (hX 4 _ rfl), exq 5 (hX 5 _ rfl), exq 6 (hX 6 _ rfl), exq 8 ((hD 1 lq))] at hst19
  simp only [zP, ed 61 (hD 0 lq)] at hfr
  clear hX hD; subst hfr; clear σ β X
  refine then_normal ?_
  refine wp_seq ?_
  have hd21 : (visF hi ((ls.take 60) ++ [x]) [x] (standF (RW.set (x - 3).toNat 1)) x 0) = true := own1 hx hc hg1
  refine wp_region_X [0, 0, 2, 0, 0, 16, 63, 127] [[7], [], [5], [], [], [], [4, 6, 2]] [] [] (fun ix σ β X => match ix with | 0 => σ 62 = .agg #[.int .i64 x, .int .i64 0, .int .i64 (vpgF l), .int .i64 (vslF l), .bool (vhotF l), .slice A26_4 ((vrowF l).length) c26_4] | 1 => σ 63 = .pointer (some ⟨B4_1, 0, none⟩) | 2 => σ 64 = .agg #[.int .i64 hi, .slice A54_16 (((ls.take 60) ++ [x]).length) c54_16] | 3 => σ 65 = .slice A58_17 1 1 | 4 => σ 66 = .slice A31_6 125 125 | 5 => σ 67 = .iface 43 (.slice A31_6 125 125) | 6 => σ 68 = .bool (visF hi ((ls.take 60) ++ [x]) [x] (standF (RW.set (x - 3).toNat 1)) x 0) | 7 => σ 12 = .bool true | _ => True) [0, 1, 2, 3, 4, 5, 6, 7] [62, 63, 64, 65, 66, 67, 68, 12] hst19 ?_ ?_ ?_
  · exact fun ix _ _ _ _ _ _ hs hb hx h => match ix, h with
    | 0, h | 1, h | 2, h | 3, h | 4, h | 5, h | 6, h | 7, h => (hs _ rfl).symm.trans h
    | _ + 8, _ => trivial
  · refine ⟨⟨⟨⟨⟨⟨⟨⟨trivial, ?_⟩, ?_⟩, ?_⟩, ?_⟩, ?_⟩, ?_⟩, ?_⟩, ?_⟩
    · exact s0 rfl fun cx => run_loadB (n := 6) rfl (by kernel_rfl) (by kernel_rfl) (cx.out 8 rfl) (cx.blk (cx.init 7 _ rfl) rfl) (Nat.le_of_ble_eq_true rfl) rfl
    · exact s0 rfl fun cx => run_fieldAddr' (k := 0) (n := 0) rfl (by kernel_rfl) (cx.out 4 rfl) rfl
    · exact s0 rfl fun cx => run_loadB (n := 2) rfl (by kernel_rfl) (by kernel_rfl) (cx.anc 1 rfl) (cx.blk (cx.init 5 _ rfl) rfl) (Nat.le_of_ble_eq_true rfl) rfl
    · exact mo rfl
    · exact mo rfl
    · exact sv0 rfl rfl rfl rfl rfl (fun _ _ _ h => h) fun ρ β W X cx => by
        have fF66 : ρ (.tmp 66) = .slice A31_6 125 125 := (cx.anc 4 rfl)
        simp [go_sem, cx.sees.const, fF66]
    · exact sv_call rfl rfl rfl rfl rfl (fun _ _ _ h => h) fun ρ β W X cx => ⟨_, _, run_callF (args := #[.agg #[.int .i64 x, .int .i64 0, .int .i64 (vpgF l), .int .i64 (vslF l), .bool (vhotF l), .slice A26_4 ((vrowF l).length) c26_4], .agg #[.int .i64 hi, .slice A54_16 (((ls.take 60) ++ [x]).length) c54_16], .slice A58_17 1 1, .iface 43 (.slice A31_6 125 125)]) rfl cx.sees rfl (by kernel_rfl) (map4 (cx.anc 0 rfl) (cx.anc 2 rfl) (cx.anc 3 rfl) (cx.anc 5 rfl)), visible_any _ _ _ _ _ _ _ _ _ _ _ ((ls.take 60) ++ [x]) _ _ [x] _ _ _ _ (At.of_own (cx.row (cx.init 4 _ rfl) rfl)) (by first | omega | decide | (simp; done) | (simp; omega)) (At.of_own (cx.row (cx.init 6 _ rfl) rfl)) (by first | omega | decide | (simp; done) | (simp; omega)) (stand_ok _ _ _ (RW.set (x - 3).toNat 1) _ (hl1.symm) (At.of_own (cx.row (cx.init 2 _ rfl) rfl)) hu1)⟩
    · exact s0 rfl fun cx => run_assign' rfl (Eq.trans (cx.anc 6 rfl) (congrArg Value.bool hd21))
  intro σ β X W20 hD hX hst20 fr hfr
  simp only [zM, exq 0 (hX 0 _ rfl), exq 1 (hX 1 _ rfl), exq 2 (hX 2 _ rfl), exq 3 (hX 3 _ rfl), exq 4 (hX 4 _ rfl), exq 5 (hX 5 _ rfl), exq 6 (hX 6 _ rfl), exq 7 (hX 7 _ rfl)] at hst20
  simp only [zP, ed 62 (hD 0 lq), ed 63 (hD 1 lq), ed 64 (hD 2 lq), ed 65 (hD 3 lq), ed 66 (hD 4 lq), ed 67 (hD 5 lq), ed 68 (hD 6 lq), ed 12 (hD 7 lq)] at hfr
  clear hX hD; subst hfr; clear σ β X
  refine then_normal ?_
  refine wp_seq ?_
  refine wp_region_X [0, 0, 2, 0, 0, 16, 63, 127, 255, 255, 511, 2047] [[7], [], [5], [], [], [], [4, 6, 2]] [] [] (fun ix σ β X => match ix with | 0 => σ 70 = .agg #[.int .i64 x, .int .i64 0, .int .i64 (vpgF l), .int .i64 (vslF l), .bool (vhotF l), .slice A26_4 ((vrowF l).length) c26_4] | 1 => σ 71 = .pointer (some ⟨B4_1, 0, none⟩) | 2 => σ 72 = .agg #[.int .i64 hi, .slice A54_16 (((ls.take 60) ++ [x]).length) c54_16] | 3 => σ 73 = .slice A58_17 1 1 | 4 => σ 74 = .slice A31_6 125 125 | 5 => σ 75 = .iface 43 (.slice A31_6 125 125) | 6 => σ 76 = .tuple #[.int .i64 (bes1F hi ((ls.take 60) ++ [x]) [x] (standF (RW.set (x - 3).toNat 1)) x), .int .i64 (bes2F hi ((ls.take 60) ++ [x]) [x] (standF (RW.set (x - 3).toNat 1)) 0)] | 7 => σ 69 = .tuple #[.int .i64 (bes1F hi ((ls.take 60) ++ [x]) [x] (standF (RW.set (x - 3).toNat 1)) x), .int .i64 (bes2F hi ((ls.take 60) ++ [x]) [x] (standF (RW.set (x - 3).toNat 1)) 0)] | 8 => σ 77 = .int .i64 (bes1F hi ((ls.take 60) ++ [x]) [x] (standF (RW.set (x - 3).toNat 1)) x) | 9 => σ 78 = .int .i64 (bes2F hi ((ls.take 60) ++ [x]) [x] (standF (RW.set (x - 3).toNat 1)) 0) | 10 => σ 13 = .int .i64 (bes1F hi ((ls.take 60) ++ [x]) [x] (standF (RW.set (x - 3).toNat 1)) x) | 11 => σ 14 = .int .i64 (bes2F hi ((ls.take 60) ++ [x]) [x] (standF (RW.set (x - 3).toNat 1)) 0) | _ => True) [0, 1, 2, 3, 4, 5, 6, 7] [70, 71, 72, 73, 74, 75, 76, 69, 77, 78, 13, 14] hst20 ?_ ?_ ?_
  · exact fun ix _ _ _ _ _ _ hs hb hx h => match ix, h with
    | 0, h | 1, h | 2, h | 3, h | 4, h | 5, h | 6, h | 7, h | 8, h | 9, h | 10, h | 11, h => (hs _ rfl).symm.trans h
    | _ + 12, _ => trivial
  · refine ⟨⟨⟨⟨⟨⟨⟨⟨⟨⟨⟨⟨trivial, ?_⟩, ?_⟩, ?_⟩, ?_⟩, ?_⟩, ?_⟩, ?_⟩, ?_⟩, ?_⟩, ?_⟩, ?_⟩, ?_⟩
    · exact s0 rfl fun cx => run_loadB (n := 6) rfl (by kernel_rfl) (by kernel_rfl) (cx.out 8 rfl) (cx.blk (cx.init 7 _ rfl) rfl) (Nat.le_of_ble_eq_true rfl) rfl
    · exact s0 rfl fun cx => run_fieldAddr' (k := 0) (n := 0) rfl (by kernel_rfl) (cx.out 4 rfl) rfl
    · exact s0 rfl fun cx => run_loadB (n := 2) rfl (by kernel_rfl) (by kernel_rfl) (cx.anc 1 rfl) (cx.blk (cx.init 5 _ rfl) rfl) (Nat.le_of_ble_eq_true rfl) rfl
    · exact mo rfl
    · exact mo rfl
    · exact sv0 rfl rfl rfl rfl rfl (fun _ _ _ h => h) fun ρ β W X cx => by
        have fF74 : ρ (.tmp 74) = .slice A31_6 125 125 := (cx.anc 4 rfl)
        simp [go_sem, cx.sees.const, fF74]
    · exact sv_call rfl rfl rfl rfl rfl (fun _ _ _ h => h) fun ρ β W X cx => ⟨_, _, run_callF (args := #[.agg #[.int .i64 x, .int .i64 0, .int .i64 (vpgF l), .int .i64 (vslF l), .bool (vhotF l), .slice A26_4 ((vrowF l).length) c26_4], .agg #[.int .i64 hi, .slice A54_16 (((ls.take 60) ++ [x]).length) c54_16], .slice A58_17 1 1, .iface 43 (.slice A31_6 125 125)]) rfl cx.sees rfl (by kernel_rfl) (map4 (cx.anc 0 rfl) (cx.anc 2 rfl) (cx.anc 3 rfl) (cx.anc 5 rfl)), beside_any _ _ _ _ _ _ _ _ _ _ _ ((ls.take 60) ++ [x]) _ _ [x] _ _ _ _ (At.of_own (cx.row (cx.init 4 _ rfl) rfl)) (by first | omega | decide | (simp; done) | (simp; omega)) (At.of_own (cx.row (cx.init 6 _ rfl) rfl)) (by first | omega | decide | (simp; done) | (simp; omega)) (stand_ok _ _ _ (RW.set (x - 3).toNat 1) _ (hl1.symm) (At.of_own (cx.row (cx.init 2 _ rfl) rfl)) hu1)⟩
    · exact s0 rfl fun cx => run_move' rfl (cx.anc 6 rfl)
    · exact s0 rfl fun cx => run_extract' rfl (cx.anc 7 rfl) rfl
    · exact s0 rfl fun cx => run_extract' rfl (cx.anc 7 rfl) rfl
    · exact s0 rfl fun cx => run_assign' rfl (cx.anc 8 rfl)
    · exact s0 rfl fun cx => run_assign' rfl (cx.anc 9 rfl)
  intro σ β X W22 hD hX hst22 fr hfr
  simp only [zM, exq 0 (hX 0 _ rfl), exq 1 (hX 1 _ rfl), exq 2 (hX 2 _ rfl), exq 3 (hX 3 _ rfl), exq 4 (hX 4 _ rfl), exq 5 (hX 5 _ rfl), exq 6 (hX 6 _ rfl), exq 7 (hX 7 _ rfl)] at hst22
  simp only [zP, ed 70 (hD 0 lq), ed 71 (hD 1 lq), ed 72 (hD 2 lq), ed 73 (hD 3 lq), ed 74 (hD 4 lq), ed 75 (hD 5 lq), ed 76 (hD 6 lq), ed 69 (hD 7 lq), ed 77 (hD 8 lq), ed 78 (hD 9 lq), ed 13 (hD 10 lq), ed 14 (hD 11 lq)] at hfr
  clear hX hD; subst hfr; clear σ β X
  refine then_normal ?_
  refine wp_seq ?_
  refine wp_region_X [0, 0, 2, 0, 8, 31, 63, 127, 127, 255, 1023] [[7], [], [5], [], [], [4, 2]] [] [] (fun ix σ β X => match ix with | 0 => σ 80 = .agg #[.int .i64 x, .int .i64 0, .int .i64 (vpgF l), .int .i64 (vslF l), .bool (vhotF l), .slice A26_4 ((vrowF l).length) c26_4] | 1 => σ 81 = .pointer (some ⟨B4_1, 0, none⟩) | 2 => σ 82 = .agg #[.int .i64 hi, .slice A54_16 (((ls.take 60) ++ [x]).length) c54_16] | 3 => σ 83 = .slice A31_6 125 125 | 4 => σ 84 = .iface 43 (.slice A31_6 125 125) | 5 => σ 85 = .tuple #[.int .i64 (bes1F hi ((ls.take 60) ++ [x]) ([] : List Int) (standF (RW.set (x - 3).toNat 1)) x), .int .i64 (bes2F hi ((ls.take 60) ++ [x]) ([] : List Int) (standF (RW.set (x - 3).toNat 1)) 0)] | 6 => σ 79 = .tuple #[.int .i64 (bes1F hi ((ls.take 60) ++ [x]) ([] : List Int) (standF (RW.set (x - 3).toNat 1)) x), .int .i64 (bes2F hi ((ls.take 60) ++ [x]) ([] : List Int) (standF (RW.set (x - 3).toNat 1)) 0)] | 7 => σ 86 = .int .i64 (bes1F hi ((ls.take 60) ++ [x]) ([] : List Int) (standF (RW.set (x - 3).toNat 1)) x) | 8 => σ 87 = .int .i64 (bes2F hi ((ls.take 60) ++ [x]) ([] : List Int) (standF (RW.set (x - 3).toNat 1)) 0) | 9 => σ 15 = .int .i64 (bes1F hi ((ls.take 60) ++ [x]) ([] : List Int) (standF (RW.set (x - 3).toNat 1)) x) | 10 => σ 16 = .int .i64 (bes2F hi ((ls.take 60) ++ [x]) ([] : List Int) (standF (RW.set (x - 3).toNat 1)) 0) | _ => True) [0, 1, 2, 3, 4, 5, 6, 7] [80, 81, 82, 83, 84, 85, 79, 86, 87, 15, 16] hst22 ?_ ?_ ?_
  · exact fun ix _ _ _ _ _ _ hs hb hx h => match ix, h with
    | 0, h | 1, h | 2, h | 3, h | 4, h | 5, h | 6, h | 7, h | 8, h | 9, h | 10, h => (hs _ rfl).symm.trans h
    | _ + 11, _ => trivial
  · refine ⟨⟨⟨⟨⟨⟨⟨⟨⟨⟨⟨trivial, ?_⟩, ?_⟩, ?_⟩, ?_⟩, ?_⟩, ?_⟩, ?_⟩, ?_⟩, ?_⟩, ?_⟩, ?_⟩
    · exact s0 rfl fun cx => run_loadB (n := 6) rfl (by kernel_rfl) (by kernel_rfl) (cx.out 8 rfl) (cx.blk (cx.init 7 _ rfl) rfl) (Nat.le_of_ble_eq_true rfl) rfl
    · exact s0 rfl fun cx => run_fieldAddr' (k := 0) (n := 0) rfl (by kernel_rfl) (cx.out 4 rfl) rfl
    · exact s0 rfl fun cx => run_loadB (n := 2) rfl (by kernel_rfl) (by kernel_rfl) (cx.anc 1 rfl) (cx.blk (cx.init 5 _ rfl) rfl) (Nat.le_of_ble_eq_true rfl) rfl
    · exact mo rfl
    · exact sv0 rfl rfl rfl rfl rfl (fun _ _ _ h => h) fun ρ β W X cx => by
        have fF83 : ρ (.tmp 83) = .slice A31_6 125 125 := (cx.anc 3 rfl)
        simp [go_sem, cx.sees.const, fF83]
    · exact sv_call rfl rfl rfl rfl rfl (fun _ _ _ h => h) fun ρ β W X cx => ⟨_, _, run_callF (args := #[.agg #[.int .i64 x, .int .i64 0, .int .i64 (vpgF l), .int .i64 (vslF l), .bool (vhotF l), .slice A26_4 ((vrowF l).length) c26_4], .agg #[.int .i64 hi, .slice A54_16 (((ls.take 60) ++ [x]).length) c54_16], .slice none 0 0, .iface 43 (.slice A31_6 125 125)]) rfl cx.sees rfl (by kernel_rfl) (map4 (cx.anc 0 rfl) (cx.anc 2 rfl) (cx.sees.const _) (cx.anc 4 rfl)), beside_any _ _ _ _ _ _ _ _ _ _ _ ((ls.take 60) ++ [x]) _ _ ([] : List Int) _ _ _ _ (At.of_own (cx.row (cx.init 4 _ rfl) rfl)) (by first | omega | decide | (simp; done) | (simp; omega)) (At.nil _ _) (by first | omega | decide | (simp; done) | (simp; omega)) (stand_ok _ _ _ (RW.set (x - 3).toNat 1) _ (hl1.symm) (At.of_own (cx.row (cx.init 2 _ rfl) rfl)) hu1)⟩
    · exact s0 rfl fun cx => run_move' rfl (cx.anc 5 rfl)
    · exact s0 rfl fun cx => run_extract' rfl (cx.anc 6 rfl) rfl
    · exact s0 rfl fun cx => run_extract' rfl (cx.anc 6 rfl) rfl
    · exact s0 rfl fun cx => run_assign' rfl (cx.anc 7 rfl)
    · exact s0 rfl fun cx => run_assign' rfl (cx.anc 8 rfl)
  intro σ β X W23 hD hX hst23 fr hfr
  simp only [zM, exq 0 (hX 0 _ rfl), exq 1 (hX 1 _ rfl), exq 2 (hX 2 _ rfl), exq 3 (hX 3 _ rfl), exq 4 (hX 4 _ rfl), exq 5 (hX 5 _ rfl), exq 6 (hX 6 _ rfl), exq 7 (hX 7 _ rfl)] at hst23
  simp only [zP, ed 80 (hD 0 lq), ed 81 (hD 1 lq), ed 82 (hD 2 lq), ed 83 (hD 3 lq), ed 84 (hD 4 lq), ed 85 (hD 5 lq), ed 79 (hD 6 lq), ed 86 (hD 7 lq), ed 87 (hD 8 lq), ed 15 (hD 9 lq), ed 16 (hD 10 lq)] at hfr
  clear hX hD; subst hfr; clear σ β X
  refine then_normal ?_
  refine wp_seq ?_
  refine wp_region_X [0, 1, 3] [[], [], [7]] [[], [], [8]] [[], [], [7]] (fun ix σ β X => match ix with | 0 => σ 88 = .int .i64 x | 1 => σ 89 = .pointer (some ⟨B8_4, 1, none⟩) | 2 => X 8 = eB B8_4 27 #[.int .i64 x, .int .i64 x, .int .i64 (vpgF l), .int .i64 (vslF l), .bool (vhotF l), .slice A26_4 ((vrowF l).length) c26_4] | _ => True) [0, 1, 2, 3, 4, 5, 6, 8] [88, 89] hst23 ?_ ?_ ?_
  · exact fun ix _ _ _ _ _ _ hs hb hx h => match ix, h with
    | 0, h | 1, h => (hs _ rfl).symm.trans h
    | 2, h => by dsimp only at h ⊢; rw [← hx 8 rfl]; exact h
    | _ + 3, _ => trivial
  · refine ⟨⟨⟨trivial, ?_⟩, ?_⟩, ?_⟩
    · exact mo rfl
    · exact s0 rfl fun cx => run_fieldAddr' (k := 1) (n := 1) rfl (by kernel_rfl) (cx.out 8 rfl) rfl
    · refine sv_any rfl rfl fun ρ β W X cx => ?_
      exact dv_store (n := 1) rfl (cx.anc 1 rfl) (cx.anc 0 rfl) (by kernel_rfl) rfl rfl cx (cx.init 7 _ rfl) rfl (Nat.le_of_ble_eq_true rfl) rfl rfl rfl rfl (fun σ β' X' hs hb hx => hx)
  intro σ β X W24 hD hX hst24 fr hfr
  simp only [zM, exq 0 (hX 0 _ rfl), exq 1 (hX 1 _ rfl), exq 2 (hX 2 _ rfl), exq 3 (hX 3 _ rfl), exq 4 (hX 4 _ rfl), exq 5 (hX 5 _ rfl), exq 6 (hX 6 _ rfl), exq 8 ((hD 2 lq))] at hst24
  simp only [zP, ed 88 (hD 0 lq), ed 89 (hD 1 lq)] at hfr
  clear hX hD; subst hfr; clear σ β X
  refine then_normal ?_
  refine wp_seq ?_
  have hd26 : (visF hi ((ls.take 60) ++ [x]) [x] (standF (RW.set (x - 3).toNat 1)) x x) = false := own5 hx hc hg1
  refine wp_region_X [0, 0, 2, 0, 0, 16, 63, 127] [[7], [], [5], [], [], [], [4, 6, 2]] [] [] (fun ix σ β X => match ix with | 0 => σ 90 = .agg #[.int .i64 x, .int .i64 x, .int .i64 (vpgF l), .int .i64 (vslF l), .bool (vhotF l), .slice A26_4 ((vrowF l).length) c26_4] | 1 => σ 91 = .pointer (some ⟨B4_1, 0, none⟩) | 2 => σ 92 = .agg #[.int .i64 hi, .slice A54_16 (((ls.take 60) ++ [x]).length) c54_16] | 3 => σ 93 = .slice A58_17 1 1 | 4 => σ 94 = .slice A31_6 125 125 | 5 => σ 95 = .iface 43 (.slice A31_6 125 125) | 6 => σ 96 = .bool (visF hi ((ls.take 60) ++ [x]) [x] (standF (RW.set (x - 3).toNat 1)) x x) | 7 => σ 17 = .bool false | _ => True) [0, 1, 2, 3, 4, 5, 6, 7] [90, 91, 92, 93, 94, 95, 96, 17] hst24 ?_ ?_ ?_
  · exact fun ix _ _ _ _ _ _ hs hb hx h => match ix, h with
    | 0, h | 1, h | 2, h | 3, h | 4, h | 5, h | 6, h | 7, h => (hs _ rfl).symm.trans h
    | _ + 8, _ => trivial
  · refine ⟨⟨⟨⟨⟨⟨⟨⟨trivial, ?_⟩, ?_⟩, ?_⟩, ?_⟩, ?_⟩, ?_⟩, ?_⟩, ?_⟩
    · exact s0 rfl fun cx => run_loadB (n := 6) rfl (by kernel_rfl) (by kernel_rfl) (cx.out 8 rfl) (cx.blk (cx.init 7 _ rfl) rfl) (Nat.le_of_ble_eq_true rfl) rfl
    · exact s0 rfl fun cx => run_fieldAddr' (k := 0) (n := 0) rfl (by kernel_rfl) (cx.out 4 rfl) rfl
    · exact s0 rfl fun cx => run_loadB (n := 2) rfl (by kernel_rfl) (by kernel_rfl) (cx.anc 1 rfl) (cx.blk (cx.init 5 _ rfl) rfl) (Nat.le_of_ble_eq_true rfl) rfl
    · exact mo rfl
    · exact mo rfl
    · exact sv0 rfl rfl rfl rfl rfl (fun _ _ _ h => h) fun ρ β W X cx => by
        have fF94 : ρ (.tmp 94) = .slice A31_6 125 125 := (cx.anc 4 rfl)
        simp [go_sem, cx.sees.const, fF94]
    · exact sv_call rfl rfl rfl rfl rfl (fun _ _ _ h => h) fun ρ β W X cx => ⟨_, _, run_callF (args := #[.agg #[.int .i64 x, .int .i64 x, .int .i64 (vpgF l), .int .i64 (vslF l), .bool (vhotF l), .slice A26_4 ((vrowF l).length) c26_4], .agg #[.int .i64 hi, .slice A54_16 (((ls.take 60) ++ [x]).length) c54_16], .slice A58_17 1 1, .iface 43 (.slice A31_6 125 125)]) rfl cx.sees rfl (by kernel_rfl) (map4 (cx.anc 0 rfl) (cx.anc 2 rfl) (cx.anc 3 rfl) (cx.anc 5 rfl)), visible_any _ _ _ _ _ _ _ _ _ _ _ ((ls.take 60) ++ [x]) _ _ [x] _ _ _ _ (At.of_own (cx.row (cx.init 4 _ rfl) rfl)) (by first | omega | decide | (simp; done) | (simp; omega)) (At.of_own (cx.row (cx.init 6 _ rfl) rfl)) (by first | omega | decide | (simp; done) | (simp; omega)) (stand_ok _ _ _ (RW.set (x - 3).toNat 1) _ (hl1.symm) (At.of_own (cx.row (cx.init 2 _ rfl) rfl)) hu1)⟩
    · exact s0 rfl fun cx => run_assign' rfl (Eq.trans (cx.anc 6 rfl) (congrArg Value.bool hd26))
  intro σ β X W25 hD hX hst25 fr hfr
  simp only [zM, exq 0 (hX 0 _ rfl), exq 1 (hX 1 _ rfl), exq 2 (hX 2 _ rfl), exq 3 (hX 3 _ rfl), exq 4 (hX 4 _ rfl), exq 5 (hX 5 _ rfl), exq 6 (hX 6 _ rfl), exq 7 (hX 7 _ rfl)] at hst25
  simp only [zP, ed 90 (hD 0 lq), ed 91 (hD 1 lq), ed 92 (hD 2 lq), ed 93 (hD 3 lq), ed 94 (hD 4 lq), ed 95 (hD 5 lq), ed 96 (hD 6 lq), ed 17 (hD 7 lq)] at hfr
  clear hX hD; subst hfr; clear σ β X
  refine then_normal ?_
  refine wp_seq ?_
  refine wp_region_X [0, 1] [[], [7]] [[], [8]] [[], [7]] (fun ix σ β X => match ix with | 0 => σ 97 = .pointer (some ⟨B8_4, 0, none⟩) | 1 => X 8 = eB B8_4 27 #[.int .i64 2, .int .i64 x, .int .i64 (vpgF l), .int .i64 (vslF l), .bool (vhotF l), .slice A26_4 ((vrowF l).length) c26_4] | _ => True) [0, 1, 2, 3, 4, 5, 6, 8] [97] hst25 ?_ ?_ ?_
  · exact fun ix _ _ _ _ _ _ hs hb hx h => match ix, h with
    | 0, h => (hs _ rfl).symm.trans h
    | 1, h => by dsimp only at h ⊢; rw [← hx 8 rfl]; exact h
    | _ + 2, _ => trivial
  · refine ⟨⟨trivial, ?_⟩, ?_⟩
    · exact s0 rfl fun cx => run_fieldAddr' (k := 0) (n := 0) rfl (by kernel_rfl) (cx.out 8 rfl) rfl
    · refine sv_any rfl rfl fun ρ β W X cx => ?_
      exact dv_store (n := 1) rfl (cx.anc 0 rfl) (cx.sees.const _) (by kernel_rfl) rfl rfl cx (cx.init 7 _ rfl) rfl (Nat.le_of_ble_eq_true rfl) rfl rfl rfl rfl (fun σ β' X' hs hb hx => hx)
  intro σ β X W27 hD hX hst27 fr hfr
  simp only [zM, exq 0 (hX 0 _ rfl), exq 1 (hX 1 _ rfl), exq 2 (hX 2 _ rfl), exq 3 (hX 3 _ rfl), exq 4 (hX 4 _ rfl), exq 5 (hX 5 _ rfl), exq 6 (hX 6 _ rfl), exq 8 ((hD 1 lq))] at hst27
  simp only [zP, ed 97 (hD 0 lq)] at hfr
  clear hX hD; subst hfr; clear σ β X
  refine then_normal ?_
  refine wp_seq ?_
  have hd29 : (visF hi ((ls.take 60) ++ [x]) [x] (standF (RW.set (x - 3).toNat 1)) 2 x) = false := own6 hx hc hg1
  refine wp_region_X [0, 0, 2, 0, 0, 16, 63, 127] [[7], [], [5], [], [], [], [4, 6, 2]] [] [] (fun ix σ β X => match ix with | 0 => σ 98 = .agg #[.int .i64 2, .int .i64 x, .int .i64 (vpgF l), .int .i64 (vslF l), .bool (vhotF l), .slice A26_4 ((vrowF l).length) c26_4] | 1 => σ 99 = .pointer (some ⟨B4_1, 0, none⟩) | 2 => σ 100 = .agg #[.int .i64 hi, .slice A54_16 (((ls.take 60) ++ [x]).length) c54_16] | 3 => σ 101 = .slice A58_17 1 1 | 4 => σ 102 = .slice A31_6 125 125 | 5 => σ 103 = .iface 43 (.slice A31_6 125 125) | 6 => σ 104 = .bool (visF hi ((ls.take 60) ++ [x]) [x] (standF (RW.set (x - 3).toNat 1)) 2 x) | 7 => σ 18 = .bool false | _ => True) [0, 1, 2, 3, 4, 5, 6, 7] [98, 99, 100, 101, 102, 103, 104, 18] hst27 ?_ ?_ ?_
  · exact fun ix _ _ _ _ _ _ hs hb hx h => match ix, h with
    | 0, h | 1, h | 2, h | 3, h | 4, h | 5, h | 6, h | 7, h => (hs _ rfl).symm.trans h
    | _ + 8, _ => trivial
  · refine ⟨⟨⟨⟨⟨⟨⟨⟨trivial, ?_⟩, ?_⟩, ?_⟩, ?_⟩, ?_⟩, ?_⟩, ?_⟩, ?_⟩
    · exact s0 rfl fun cx => run_loadB (n := 6) rfl (by kernel_rfl) (by kernel_rfl) (cx.out 8 rfl) (cx.blk (cx.init 7 _ rfl) rfl) (Nat.le_of_ble_eq_true rfl) rfl
    · exact s0 rfl fun cx => run_fieldAddr' (k := 0) (n := 0) rfl (by kernel_rfl) (cx.out 4 rfl) rfl
    · exact s0 rfl fun cx => run_loadB (n := 2) rfl (by kernel_rfl) (by kernel_rfl) (cx.anc 1 rfl) (cx.blk (cx.init 5 _ rfl) rfl) (Nat.le_of_ble_eq_true rfl) rfl
    · exact mo rfl
    · exact mo rfl
    · exact sv0 rfl rfl rfl rfl rfl (fun _ _ _ h => h) fun ρ β W X cx => by
        have fF102 : ρ (.tmp 102) = .slice A31_6 125 125 := (cx.anc 4 rfl)
        simp [go_sem, cx.sees.const, fF102]
    · exact sv_call rfl rfl rfl rfl rfl (fun _ _ _ h => h) fun ρ β W X cx => ⟨_, _, run_callF (args := #[.agg #[.int .i64 2, .int .i64 x, .int .i64 (vpgF l), .int .i64 (vslF l), .bool (vhotF l), .slice A26_4 ((vrowF l).length) c26_4], .agg #[.int .i64 hi, .slice A54_16 (((ls.take 60) ++ [x]).length) c54_16], .slice A58_17 1 1, .iface 43 (.slice A31_6 125 125)]) rfl cx.sees rfl (by kernel_rfl) (map4 (cx.anc 0 rfl) (cx.anc 2 rfl) (cx.anc 3 rfl) (cx.anc 5 rfl)), visible_any _ _ _ _ _ _ _ _ _ _ _ ((ls.take 60) ++ [x]) _ _ [x] _ _ _ _ (At.of_own (cx.row (cx.init 4 _ rfl) rfl)) (by first | omega | decide | (simp; done) | (simp; omega)) (At.of_own (cx.row (cx.init 6 _ rfl) rfl)) (by first | omega | decide | (simp; done) | (simp; omega)) (stand_ok _ _ _ (RW.set (x - 3).toNat 1) _ (hl1.symm) (At.of_own (cx.row (cx.init 2 _ rfl) rfl)) hu1)⟩
    · exact s0 rfl fun cx => run_assign' rfl (Eq.trans (cx.anc 6 rfl) (congrArg Value.bool hd29))
  intro σ β X W28 hD hX hst28 fr hfr
  simp only [zM, exq 0 (hX 0 _ rfl), exq 1 (hX 1 _ rfl), exq 2 (hX 2 _ rfl), exq 3 (hX 3 _ rfl), exq 4 (hX 4 _ rfl), exq 5 (hX 5 _ rfl), exq 6 (hX 6 _ rfl), exq 7 (hX 7 _ rfl)] at hst28
  simp only [zP, ed 98 (hD 0 lq), ed 99 (hD 1 lq), ed 100 (hD 2 lq), ed 101 (hD 3 lq), ed 102 (hD 4 lq), ed 103 (hD 5 lq), ed 104 (hD 6 lq), ed 18 (hD 7 lq)] at hfr
  clear hX hD; subst hfr; clear σ β X
  refine then_normal ?_
  refine wp_seq ?_
  have hd31 : (visF hi ((ls.take 60) ++ [x]) ([] : List Int) (standF (RW.set (x - 3).toNat 1)) 2 x) = true := own7 hx hc
  refine wp_region_X [0, 0, 2, 0, 8, 31, 63] [[7], [], [5], [], [], [4, 2]] [] [] (fun ix σ β X => match ix with | 0 => σ 105 = .agg #[.int .i64 2, .int .i64 x, .int .i64 (vpgF l), .int .i64 (vslF l), .bool (vhotF l), .slice A26_4 ((vrowF l).length) c26_4] | 1 => σ 106 = .pointer (some ⟨B4_1, 0, none⟩) | 2 => σ 107 = .agg #[.int .i64 hi, .slice A54_16 (((ls.take 60) ++ [x]).length) c54_16] | 3 => σ 108 = .slice A31_6 125 125 | 4 => σ 109 = .iface 43 (.slice A31_6 125 125) | 5 => σ 110 = .bool (visF hi ((ls.take 60) ++ [x]) ([] : List Int) (standF (RW.set (x - 3).toNat 1)) 2 x) | 6 => σ 19 = .bool true | _ => True) [0, 1, 2, 3, 4, 5, 6, 7] [105, 106, 107, 108, 109, 110, 19] hst28 ?_ ?_ ?_
  · exact fun ix _ _ _ _ _ _ hs hb hx h => match ix, h with
    | 0, h | 1, h | 2, h | 3, h | 4, h | 5, h | 6, h => (hs _ rfl).symm.trans h
    | _ + 7, _ => trivial
  · refine ⟨⟨⟨⟨⟨⟨⟨trivial, ?_⟩, ?_⟩, ?_⟩, ?_⟩, ?_⟩, ?_⟩, ?_⟩
    · exact s0 rfl fun cx => run_loadB (n := 6) rfl (by kernel_rfl) (by kernel_rfl) (cx.out 8 rfl) (cx.blk (cx.init 7 _ rfl) rfl) (Nat.le_of_ble_eq_true rfl) rfl
    · exact s0 rfl fun cx => run_fieldAddr' (k := 0) (n := 0) rfl (by kernel_rfl) (cx.out 4 rfl) rfl
    · exact s0 rfl fun cx => run_loadB (n := 2) rfl (by kernel_rfl) (by kernel_rfl) (cx.anc 1 rfl) (cx.blk (cx.init 5 _ rfl) rfl) (Nat.le_of_ble_eq_true rfl) rfl
    · exact mo rfl
    · exact sv0 rfl rfl rfl rfl rfl (fun _ _ _ h => h) fun ρ β W X cx => by
        have fF108 : ρ (.tmp 108) = .slice A31_6 125 125 := (cx.anc 3 rfl)
        simp [go_sem, cx.sees.const, fF108]
    · exact sv_call rfl rfl rfl rfl rfl (fun _ _ _ h => h) fun ρ β W X cx => ⟨_, _, run_callF (args := #[.agg #[.int .i64 2, .int .i64 x, .int .i64 (vpgF l), .int .i64 (vslF l), .bool (vhotF l), .slice A26_4 ((vrowF l).length) c26_4], .agg #[.int .i64 hi, .slice A54_16 (((ls.take 60) ++ [x]).length) c54_16], .slice none 0 0, .iface 43 (.slice A31_6 125 125)]) rfl cx.sees rfl (by kernel_rfl) (map4 (cx.anc 0 rfl) (cx.anc 2 rfl) (cx.sees.const _) (cx.anc 4 rfl)), visible_any _ _ _ _ _ _ _ _ _ _ _ ((ls.take 60) ++ [x]) _ _ ([] : List Int) _ _ _ _ (At.of_own (cx.row (cx.init 4 _ rfl) rfl)) (by first | omega | decide | (simp; done) | (simp; omega)) (At.nil _ _) (by first | omega | decide | (simp; done) | (simp; omega)) (stand_ok _ _ _ (RW.set (x - 3).toNat 1) _ (hl1.symm) (At.of_own (cx.row (cx.init 2 _ rfl) rfl)) hu1)⟩
    · exact s0 rfl fun cx => run_assign' rfl (Eq.trans (cx.anc 5 rfl) (congrArg Value.bool hd31))
  intro σ β X W30 hD hX hst30 fr hfr
  simp only [zM, exq 0 (hX 0 _ rfl), exq 1 (hX 1 _ rfl), exq 2 (hX 2 _ rfl), exq 3 (hX 3 _ rfl), exq 4 (hX 4 _ rfl), exq 5 (hX 5 _ rfl), exq 6 (hX 6 _ rfl), exq 7 (hX 7 _ rfl)] at hst30
  simp only [zP, ed 105 (hD 0 lq), ed 106 (hD 1 lq), ed 107 (hD 2 lq), ed 108 (hD 3 lq), ed 109 (hD 4 lq), ed 110 (hD 5 lq), ed 19 (hD 6 lq)] at hfr
  clear hX hD; subst hfr; clear σ β X
  refine then_normal ?_
  refine wp_seq ?_
  refine wp_region_X [0, 0, 2, 7, 15] [[], [], [], [2], [2]] [[], [], [], [], [8]] [[], [], [], [], [2]] (fun ix σ β X => match ix with | 0 => σ 111 = .slice A31_6 125 125 | 1 => σ 112 = .int .i64 x | 2 => σ 113 = .int .i64 (x - 3) | 3 => σ 114 = .pointer (some ((ad A31_6).add ((x - 3).toNat))) | 4 => X 8 = eO 5 1 (.slice A31_6 125 125) 125 (((RW.set (x - 3).toNat 1).set (x - 3).toNat 3).map (Value.int .u8)) | _ => True) [0, 1, 3, 4, 5, 6, 7, 8] [111, 112, 113, 114] hst30 ?_ ?_ ?_
  · exact fun ix _ _ _ _ _ _ hs hb hx h => match ix, h with
    | 0, h | 1, h | 2, h | 3, h => (hs _ rfl).symm.trans h
    | 4, h => by dsimp only at h ⊢; rw [← hx 8 rfl]; exact h
    | _ + 5, _ => trivial
  · refine ⟨⟨⟨⟨⟨trivial, ?_⟩, ?_⟩, ?_⟩, ?_⟩, ?_⟩
    · exact mo rfl
    · exact mo rfl
    · exact s4 rfl (fun _ _ _ h => h) fun cx => run_bin rfl (cx.anc 1 rfl) (cx.sees.const _) (congrArg (fun z => some (Value.int .i64 z)) ((IntWalk.i64_in _ (by omega)).trans (by omega)))
    · exact s4 rfl (fun _ _ _ h => h) fun cx => run_indexSl (e := 5) (m := (x - 3).toNat) rfl (by kernel_rfl) (by kernel_rfl) (cx.anc 0 rfl) (cx.anc 2 rfl) (by omega) (by omega) (At.of_own (cx.row (cx.init 2 _ rfl) rfl)) ((by simp [hRl]))
    · refine sv_any rfl rfl fun ρ β W X cx => ?_
      exact dv_storeRow (m := (x - 3).toNat) (n := 125) rfl (cx.anc 3 rfl) (cx.sees.const _) (by kernel_rfl) rfl rfl cx (cx.init 2 _ rfl) rfl (by omega) rfl (by rw [← List.map_set]) rfl rfl (fun σ β' X' hs hb hx => hx)
  intro σ β X W32 hD hX hst32 fr hfr
  simp only [zM, exq 0 (hX 0 _ rfl), exq 1 (hX 1 _ rfl), exq 3 (hX 3 _ rfl), exq 4 (hX 4 _ rfl), exq 5 (hX 5 _ rfl), exq 6 (hX 6 _ rfl), exq 7 (hX 7 _ rfl), exq 8 ((hD 4 lq))] at hst32
  simp only [zP, ed 111 (hD 0 lq), ed 112 (hD 1 lq), ed 113 (hD 2 lq), ed 114 (hD 3 lq)] at hfr
  clear hX hD; subst hfr; clear σ β X
  refine then_normal ?_
  refine wp_seq ?_
  have hd34 : (visF hi ((ls.take 60) ++ [x]) [x] (standF ((RW.set (x - 3).toNat 1).set (x - 3).toNat 3)) 2 x) = true := own8 hx hc hg3
  refine wp_region_X [0, 0, 2, 0, 0, 16, 63, 127] [[6], [], [4], [], [], [], [3, 5, 7]] [] [] (fun ix σ β X => match ix with | 0 => σ 115 = .agg #[.int .i64 2, .int .i64 x, .int .i64 (vpgF l), .int .i64 (vslF l), .bool (vhotF l), .slice A26_4 ((vrowF l).length) c26_4] | 1 => σ 116 = .pointer (some ⟨B4_1, 0, none⟩) | 2 => σ 117 = .agg #[.int .i64 hi, .slice A54_16 (((ls.take 60) ++ [x]).length) c54_16] | 3 => σ 118 = .slice A58_17 1 1 | 4 => σ 119 = .slice A31_6 125 125 | 5 => σ 120 = .iface 43 (.slice A31_6 125 125) | 6 => σ 121 = .bool (visF hi ((ls.take 60) ++ [x]) [x] (standF ((RW.set (x - 3).toNat 1).set (x - 3).toNat 3)) 2 x) | 7 => σ 20 = .bool true | _ => True) [0, 1, 2, 3, 4, 5, 6, 7] [115, 116, 117, 118, 119, 120, 121, 20] hst32 ?_ ?_ ?_
  · exact fun ix _ _ _ _ _ _ hs hb hx h => match ix, h with
    | 0, h | 1, h | 2, h | 3, h | 4, h | 5, h | 6, h | 7, h => (hs _ rfl).symm.trans h
    | _ + 8, _ => trivial
  · refine ⟨⟨⟨⟨⟨⟨⟨⟨trivial, ?_⟩, ?_⟩, ?_⟩, ?_⟩, ?_⟩, ?_⟩, ?_⟩, ?_⟩
    · exact s0 rfl fun cx => run_loadB (n := 6) rfl (by kernel_rfl) (by kernel_rfl) (cx.out 8 rfl) (cx.blk (cx.init 6 _ rfl) rfl) (Nat.le_of_ble_eq_true rfl) rfl
    · exact s0 rfl fun cx => run_fieldAddr' (k := 0) (n := 0) rfl (by kernel_rfl) (cx.out 4 rfl) rfl
    · exact s0 rfl fun cx => run_loadB (n := 2) rfl (by kernel_rfl) (by kernel_rfl) (cx.anc 1 rfl) (cx.blk (cx.init 4 _ rfl) rfl) (Nat.le_of_ble_eq_true rfl) rfl
    · exact mo rfl
    · exact mo rfl
    · exact sv0 rfl rfl rfl rfl rfl (fun _ _ _ h => h) fun ρ β W X cx => by
        have fF119 : ρ (.tmp 119) = .slice A31_6 125 125 := (cx.anc 4 rfl)
        simp [go_sem, cx.sees.const, fF119]
    · exact sv_call rfl rfl rfl rfl rfl (fun _ _ _ h => h) fun ρ β W X cx => ⟨_, _, run_callF (args := #[.agg #[.int .i64 2, .int .i64 x, .int .i64 (vpgF l), .int .i64 (vslF l), .bool (vhotF l), .slice A26_4 ((vrowF l).length) c26_4], .agg #[.int .i64 hi, .slice A54_16 (((ls.take 60) ++ [x]).length) c54_16], .slice A58_17 1 1, .iface 43 (.slice A31_6 125 125)]) rfl cx.sees rfl (by kernel_rfl) (map4 (cx.anc 0 rfl) (cx.anc 2 rfl) (cx.anc 3 rfl) (cx.anc 5 rfl)), visible_any _ _ _ _ _ _ _ _ _ _ _ ((ls.take 60) ++ [x]) _ _ [x] _ _ _ _ (At.of_own (cx.row (cx.init 3 _ rfl) rfl)) (by first | omega | decide | (simp; done) | (simp; omega)) (At.of_own (cx.row (cx.init 5 _ rfl) rfl)) (by first | omega | decide | (simp; done) | (simp; omega)) (stand_ok _ _ _ ((RW.set (x - 3).toNat 1).set (x - 3).toNat 3) _ (hl3.symm) (At.of_own (cx.row (cx.init 7 _ rfl) rfl)) hu3)⟩
    · exact s0 rfl fun cx => run_assign' rfl (Eq.trans (cx.anc 6 rfl) (congrArg Value.bool hd34))
  intro σ β X W33 hD hX hst33 fr hfr
  simp only [zM, exq 0 (hX 0 _ rfl), exq 1 (hX 1 _ rfl), exq 2 (hX 2 _ rfl), exq 3 (hX 3 _ rfl), exq 4 (hX 4 _ rfl), exq 5 (hX 5 _ rfl), exq 6 (hX 6 _ rfl), exq 7 (hX 7 _ rfl)] at hst33
  simp only [zP, ed 115 (hD 0 lq), ed 116 (hD 1 lq), ed 117 (hD 2 lq), ed 118 (hD 3 lq), ed 119 (hD 4 lq), ed 120 (hD 5 lq), ed 121 (hD 6 lq), ed 20 (hD 7 lq)] at hfr
  clear hX hD; subst hfr; clear σ β X
  refine then_normal ?_
  refine wp_seq ?_
  refine wp_region_X [0, 1, 3] [[], [], [6]] [[], [], [8]] [[], [], [6]] (fun ix σ β X => match ix with | 0 => σ 122 = .int .i64 x | 1 => σ 123 = .pointer (some ⟨B8_4, 0, none⟩) | 2 => X 8 = eB B8_4 27 #[.int .i64 x, .int .i64 x, .int .i64 (vpgF l), .int .i64 (vslF l), .bool (vhotF l), .slice A26_4 ((vrowF l).length) c26_4] | _ => True) [0, 1, 2, 3, 4, 5, 7, 8] [122, 123] hst33 ?_ ?_ ?_
  · exact fun ix _ _ _ _ _ _ hs hb hx h => match ix, h with
    | 0, h | 1, h => (hs _ rfl).symm.trans h
    | 2, h => by dsimp only at h ⊢; rw [← hx 8 rfl]; exact h
    | _ + 3, _ => trivial
  · refine ⟨⟨⟨trivial, ?_⟩, ?_⟩, ?_⟩
    · exact mo rfl
    · exact s0 rfl fun cx => run_fieldAddr' (k := 0) (n := 0) rfl (by kernel_rfl) (cx.out 8 rfl) rfl
    · refine sv_any rfl rfl fun ρ β W X cx => ?_
      exact dv_store (n := 1) rfl (cx.anc 1 rfl) (cx.anc 0 rfl) (by kernel_rfl) rfl rfl cx (cx.init 6 _ rfl) rfl (Nat.le_of_ble_eq_true rfl) rfl rfl rfl rfl (fun σ β' X' hs hb hx => hx)
  intro σ β X W35 hD hX hst35 fr hfr
  simp only [zM, exq 0 (hX 0 _ rfl), exq 1 (hX 1 _ rfl), exq 2 (hX 2 _ rfl), exq 3 (hX 3 _ rfl), exq 4 (hX 4 _ rfl), exq 5 (hX 5 _ rfl), exq 7 (hX 7 _ rfl), exq 8 ((hD 2 lq))] at hst35
  simp only [zP, ed 122 (hD 0 lq), ed 123 (hD 1 lq)] at hfr
  clear hX hD; subst hfr; clear σ β X
  refine then_normal ?_
  refine wp_seq ?_
  refine wp_region_X [0, 1] [[], [7]] [[], [8]] [[], [7]] (fun ix σ β X => match ix with | 0 => σ 124 = .pointer (some ⟨B8_4, 1, none⟩) | 1 => X 8 = eB B8_4 27 #[.int .i64 x, .int .i64 0, .int .i64 (vpgF l), .int .i64 (vslF l), .bool (vhotF l), .slice A26_4 ((vrowF l).length) c26_4] | _ => True) [0, 1, 2, 3, 4, 5, 6, 8] [124] hst35 ?_ ?_ ?_
  · exact fun ix _ _ _ _ _ _ hs hb hx h => match ix, h with
    | 0, h => (hs _ rfl).symm.trans h
    | 1, h => by dsimp only at h ⊢; rw [← hx 8 rfl]; exact h
    | _ + 2, _ => trivial
  · refine ⟨⟨trivial, ?_⟩, ?_⟩
    · exact s0 rfl fun cx => run_fieldAddr' (k := 1) (n := 1) rfl (by kernel_rfl) (cx.out 8 rfl) rfl
    · refine sv_any rfl rfl fun ρ β W X cx => ?_
      exact dv_store (n := 1) rfl (cx.anc 0 rfl) (cx.sees.const _) (by kernel_rfl) rfl rfl cx (cx.init 7 _ rfl) rfl (Nat.le_of_ble_eq_true rfl) rfl rfl rfl rfl (fun σ β' X' hs hb hx => hx)
  intro σ β X W36 hD hX hst36 fr hfr
  simp only [zM, exq 0 (hX 0 _ rfl), exq 1 (hX 1 _ rfl), exq 2 (hX 2 _ rfl), exq 3 (hX 3 _ rfl), exq 4 (hX 4 _ rfl), exq 5 (hX 5 _ rfl), exq 6 (hX 6 _ rfl), exq 8 ((hD 1 lq))] at hst36
  simp only [zP, ed 124 (hD 0 lq)] at hfr
  clear hX hD; subst hfr; clear σ β X
  refine then_normal ?_
  refine wp_seq ?_
  have hd38 : (visF hi ((ls.take 60) ++ [x]) [x] (standF ((RW.set (x - 3).toNat 1).set (x - 3).toNat 3)) x 0) = false := own9 hx hc hg3
  refine wp_region_X [0, 0, 2, 0, 0, 16, 63, 127] [[7], [], [4], [], [], [], [3, 5, 6]] [] [] (fun ix σ β X => match ix with | 0 => σ 125 = .agg #[.int .i64 x, .int .i64 0, .int .i64 (vpgF l), .int .i64 (vslF l), .bool (vhotF l), .slice A26_4 ((vrowF l).length) c26_4] | 1 => σ 126 = .pointer (some ⟨B4_1, 0, none⟩) | 2 => σ 127 = .agg #[.int .i64 hi, .slice A54_16 (((ls.take 60) ++ [x]).length) c54_16] | 3 => σ 128 = .slice A58_17 1 1 | 4 => σ 129 = .slice A31_6 125 125 | 5 => σ 130 = .iface 43 (.slice A31_6 125 125) | 6 => σ 131 = .bool (visF hi ((ls.take 60) ++ [x]) [x] (standF ((RW.set (x - 3).toNat 1).set (x - 3).toNat 3)) x 0) | 7 => σ 21 = .bool false | _ => True) [0, 1, 2, 3, 4, 5, 6, 7] [125, 126, 127, 128, 129, 130, 131, 21] hst36 ?_ ?_ ?_
  · exact fun ix _ _ _ _ _ _ hs hb hx h => match ix, h with
    | 0, h | 1, h | 2, h | 3, h | 4, h | 5, h | 6, h | 7, h => (hs _ rfl).symm.trans h
    | _ + 8, _ => trivial
  · refine ⟨⟨⟨⟨⟨⟨⟨⟨trivial, ?_⟩, ?_⟩, ?_⟩, ?_⟩, ?_⟩, ?_⟩, ?_⟩, ?_⟩
    · exact s0 rfl fun cx => run_loadB (n := 6) rfl (by kernel_rfl) (by kernel_rfl) (cx.out 8 rfl) (cx.blk (cx.init 7 _ rfl) rfl) (Nat.le_of_ble_eq_true rfl) rfl
    · exact s0 rfl fun cx => run_fieldAddr' (k := 0) (n := 0) rfl (by kernel_rfl) (cx.out 4 rfl) rfl
    · exact s0 rfl fun cx => run_loadB (n := 2) rfl (by kernel_rfl) (by kernel_rfl) (cx.anc 1 rfl) (cx.blk (cx.init 4 _ rfl) rfl) (Nat.le_of_ble_eq_true rfl) rfl
    · exact mo rfl
    · exact mo rfl
    · exact sv0 rfl rfl rfl rfl rfl (fun _ _ _ h => h) fun ρ β W X cx => by
        have fF129 : ρ (.tmp 129) = .slice A31_6 125 125 := (cx.anc 4 rfl)
        simp [go_sem, cx.sees.const, fF129]
    · exact sv_call rfl rfl rfl rfl rfl (fun _ _ _ h => h) fun ρ β W X cx => ⟨_, _, run_callF (args := #[.agg #[.int .i64 x, .int .i64 0, .int .i64 (vpgF l), .int .i64 (vslF l), .bool (vhotF l), .slice A26_4 ((vrowF l).length) c26_4], .agg #[.int .i64 hi, .slice A54_16 (((ls.take 60) ++ [x]).length) c54_16], .slice A58_17 1 1, .iface 43 (.slice A31_6 125 125)]) rfl cx.sees rfl (by kernel_rfl) (map4 (cx.anc 0 rfl) (cx.anc 2 rfl) (cx.anc 3 rfl) (cx.anc 5 rfl)), visible_any _ _ _ _ _ _ _ _ _ _ _ ((ls.take 60) ++ [x]) _ _ [x] _ _ _ _ (At.of_own (cx.row (cx.init 3 _ rfl) rfl)) (by first | omega | decide | (simp; done) | (simp; omega)) (At.of_own (cx.row (cx.init 5 _ rfl) rfl)) (by first | omega | decide | (simp; done) | (simp; omega)) (stand_ok _ _ _ ((RW.set (x - 3).toNat 1).set (x - 3).toNat 3) _ (hl3.symm) (At.of_own (cx.row (cx.init 6 _ rfl) rfl)) hu3)⟩
    · exact s0 rfl fun cx => run_assign' rfl (Eq.trans (cx.anc 6 rfl) (congrArg Value.bool hd38))
  intro σ β X W37 hD hX hst37 fr hfr
  simp only [zM, exq 0 (hX 0 _ rfl), exq 1 (hX 1 _ rfl), exq 2 (hX 2 _ rfl), exq 3 (hX 3 _ rfl), exq 4 (hX 4 _ rfl), exq 5 (hX 5 _ rfl), exq 6 (hX 6 _ rfl), exq 7 (hX 7 _ rfl)] at hst37
  simp only [zP, ed 125 (hD 0 lq), ed 126 (hD 1 lq), ed 127 (hD 2 lq), ed 128 (hD 3 lq), ed 129 (hD 4 lq), ed 130 (hD 5 lq), ed 131 (hD 6 lq), ed 21 (hD 7 lq)] at hfr
  clear hX hD; subst hfr; clear σ β X
  refine then_normal ?_
  refine wp_seq ?_
  have hd40 : ((bes1F hi ((ls.take 60) ++ [x]) [x] (standF (RW.set (x - 3).toNat 1)) x) == 0) = true := by rw [own2 hx hc hg1]; rfl
  have hd41 : ((bes2F hi ((ls.take 60) ++ [x]) [x] (standF (RW.set (x - 3).toNat 1)) 0) == 0) = true := by rw [own3]; rfl
  have hd42 : ((bes1F hi ((ls.take 60) ++ [x]) ([] : List Int) (standF (RW.set (x - 3).toNat 1)) x) == x) = true := by rw [own4 hx hc hg1]; simp
  refine wp_region_X [0, 1, 3, 7, 15, 31, 63, 127, 255, 511, 1023, 2047, 4095, 8191, 8191, 32767, 65535, 131071, 262143, 524287, 1048575, 2097151, 4194303, 8388607, 16777215, 33554431, 67108863, 134217727, 268435455, 536870911, 1073741823, 2147483647, 4294967295, 8589934591, 17179869183, 34359738367] [] [] [] (fun ix σ β X => match ix with | 0 => σ 132 = .bool true | 1 => σ 133 = .bool true | 2 => σ 134 = .bool true | 3 => σ 135 = .bool true | 4 => σ 136 = .bool true | 5 => σ 137 = .int .i64 (bes1F hi ((ls.take 60) ++ [x]) [x] (standF (RW.set (x - 3).toNat 1)) x) | 6 => σ 138 = .bool ((bes1F hi ((ls.take 60) ++ [x]) [x] (standF (RW.set (x - 3).toNat 1)) x) == 0) | 7 => σ 139 = .bool true | 8 => σ 140 = .bool true | 9 => σ 141 = .int .i64 (bes2F hi ((ls.take 60) ++ [x]) [x] (standF (RW.set (x - 3).toNat 1)) 0) | 10 => σ 142 = .bool ((bes2F hi ((ls.take 60) ++ [x]) [x] (standF (RW.set (x - 3).toNat 1)) 0) == 0) | 11 => σ 143 = .bool true | 12 => σ 144 = .bool true | 13 => σ 145 = .int .i64 (bes1F hi ((ls.take 60) ++ [x]) ([] : List Int) (standF (RW.set (x - 3).toNat 1)) x) | 14 => σ 146 = .int .i64 x | 15 => σ 147 = .bool ((bes1F hi ((ls.take 60) ++ [x]) ([] : List Int) (standF (RW.set (x - 3).toNat 1)) x) == x) | 16 => σ 148 = .bool true | 17 => σ 149 = .bool true | 18 => σ 150 = .bool false | 19 => σ 151 = .bool true | 20 => σ 152 = .bool true | 21 => σ 153 = .bool true | 22 => σ 154 = .bool false | 23 => σ 155 = .bool true | 24 => σ 156 = .bool true | 25 => σ 157 = .bool true | 26 => σ 158 = .bool true | 27 => σ 159 = .bool true | 28 => σ 160 = .bool true | 29 => σ 161 = .bool true | 30 => σ 162 = .bool true | 31 => σ 163 = .bool true | 32 => σ 164 = .bool false | 33 => σ 165 = .bool true | 34 => σ 166 = .bool true | 35 => σ 6 = .bool true | _ => True) [0, 1, 2, 3, 4, 5, 6, 7] [132, 133, 134, 135, 136, 137, 138, 139, 140, 141, 142, 143, 144, 145, 146, 147, 148, 149, 150, 151, 152, 153, 154, 155, 156, 157, 158, 159, 160, 161, 162, 163, 164, 165, 166, 6] hst37 ?_ ?_ ?_
  · exact fun ix _ _ _ _ _ _ hs hb hx h => match ix, h with
    | 0, h | 1, h | 2, h | 3, h | 4, h | 5, h | 6, h | 7, h | 8, h | 9, h | 10, h | 11, h | 12, h | 13, h | 14, h | 15, h | 16, h | 17, h | 18, h | 19, h | 20, h | 21, h | 22, h | 23, h | 24, h | 25, h | 26, h | 27, h | 28, h | 29, h | 30, h | 31, h | 32, h | 33, h | 34, h | 35, h => (hs _ rfl).symm.trans h
    | _ + 36, _ => trivial
  · refine ⟨⟨⟨⟨⟨⟨⟨⟨⟨⟨⟨⟨⟨⟨⟨⟨⟨⟨⟨⟨⟨⟨⟨⟨⟨⟨⟨⟨⟨⟨⟨⟨⟨⟨⟨⟨trivial, ?_⟩, ?_⟩, ?_⟩, ?_⟩, ?_⟩, ?_⟩, ?_⟩, ?_⟩, ?_⟩, ?_⟩, ?_⟩, ?_⟩, ?_⟩, ?_⟩, ?_⟩, ?_⟩, ?_⟩, ?_⟩, ?_⟩, ?_⟩, ?_⟩, ?_⟩, ?_⟩, ?_⟩, ?_⟩, ?_⟩, ?_⟩, ?_⟩, ?_⟩, ?_⟩, ?_⟩, ?_⟩, ?_⟩, ?_⟩, ?_⟩, ?_⟩
    · exact mo rfl
    · exact s0 rfl fun cx => run_move' rfl (cx.anc 0 rfl)
    · exact s1 rfl (fun cx => (cx.anc 1 rfl)) fun cx => run_move' rfl (cx.out 12 rfl)
    · exact s0 rfl fun cx => run_pick_t rfl (cx.anc 1 rfl) (cx.anc 2 rfl)
    · exact s0 rfl fun cx => run_move' rfl (cx.anc 3 rfl)
    · exact s1 rfl (fun cx => (cx.anc 4 rfl)) fun cx => run_move' rfl (cx.out 13 rfl)
    · exact s1 rfl (fun cx => (cx.anc 4 rfl)) fun cx => run_bin rfl (cx.anc 5 rfl) (cx.sees.const _) rfl
    · exact s0 rfl fun cx => run_pick_t rfl (cx.anc 4 rfl) (Eq.trans (cx.anc 6 rfl) (congrArg Value.bool hd40))
    · exact s0 rfl fun cx => run_move' rfl (cx.anc 7 rfl)
    · exact s1 rfl (fun cx => (cx.anc 8 rfl)) fun cx => run_move' rfl (cx.out 14 rfl)
    · exact s1 rfl (fun cx => (cx.anc 8 rfl)) fun cx => run_bin rfl (cx.anc 9 rfl) (cx.sees.const _) rfl
    · exact s0 rfl fun cx => run_pick_t rfl (cx.anc 8 rfl) (Eq.trans (cx.anc 10 rfl) (congrArg Value.bool hd41))
    · exact s0 rfl fun cx => run_move' rfl (cx.anc 11 rfl)
    · exact s1 rfl (fun cx => (cx.anc 12 rfl)) fun cx => run_move' rfl (cx.out 15 rfl)
    · exact s1 rfl (fun cx => (cx.anc 12 rfl)) fun cx => run_move' rfl (cx.out 2 rfl)
    · exact s1 rfl (fun cx => (cx.anc 12 rfl)) fun cx => run_bin rfl (cx.anc 13 rfl) (cx.anc 14 rfl) rfl
    · exact s0 rfl fun cx => run_pick_t rfl (cx.anc 12 rfl) (Eq.trans (cx.anc 15 rfl) (congrArg Value.bool hd42))
    · exact s0 rfl fun cx => run_move' rfl (cx.anc 16 rfl)
    · exact s1 rfl (fun cx => (cx.anc 17 rfl)) fun cx => run_move' rfl (cx.out 17 rfl)
    · exact s1 rfl (fun cx => (cx.anc 17 rfl)) fun cx => run_not rfl (cx.anc 18 rfl) rfl
    · exact s0 rfl fun cx => run_pick_t rfl (cx.anc 17 rfl) (cx.anc 19 rfl)
    · exact s0 rfl fun cx => run_move' rfl (cx.anc 20 rfl)
    · exact s1 rfl (fun cx => (cx.anc 21 rfl)) fun cx => run_move' rfl (cx.out 18 rfl)
    · exact s1 rfl (fun cx => (cx.anc 21 rfl)) fun cx => run_not rfl (cx.anc 22 rfl) rfl
    · exact s0 rfl fun cx => run_pick_t rfl (cx.anc 21 rfl) (cx.anc 23 rfl)
    · exact s0 rfl fun cx => run_move' rfl (cx.anc 24 rfl)
    · exact s1 rfl (fun cx => (cx.anc 25 rfl)) fun cx => run_move' rfl (cx.out 19 rfl)
    · exact s0 rfl fun cx => run_pick_t rfl (cx.anc 25 rfl) (cx.anc 26 rfl)
    · exact s0 rfl fun cx => run_move' rfl (cx.anc 27 rfl)
    · exact s1 rfl (fun cx => (cx.anc 28 rfl)) fun cx => run_move' rfl (cx.out 20 rfl)
    · exact s0 rfl fun cx => run_pick_t rfl (cx.anc 28 rfl) (cx.anc 29 rfl)
    · exact s0 rfl fun cx => run_move' rfl (cx.anc 30 rfl)
    · exact s1 rfl (fun cx => (cx.anc 31 rfl)) fun cx => run_move' rfl (cx.out 21 rfl)
    · exact s1 rfl (fun cx => (cx.anc 31 rfl)) fun cx => run_not rfl (cx.anc 32 rfl) rfl
    · exact s0 rfl fun cx => run_pick_t rfl (cx.anc 31 rfl) (cx.anc 33 rfl)
    · exact s0 rfl fun cx => run_assign' rfl (cx.anc 34 rfl)
  intro σ β X W39 hD hX hst39 fr hfr
  simp only [zM, exq 0 (hX 0 _ rfl), exq 1 (hX 1 _ rfl), exq 2 (hX 2 _ rfl), exq 3 (hX 3 _ rfl), exq 4 (hX 4 _ rfl), exq 5 (hX 5 _ rfl), exq 6 (hX 6 _ rfl), exq 7 (hX 7 _ rfl)] at hst39
  simp only [zP, ed 132 (hD 0 lq), ed 133 (hD 1 lq), ed 134 (hD 2 lq), ed 135 (hD 3 lq), ed 136 (hD 4 lq), ed 137 (hD 5 lq), ed 138 (hD 6 lq), ed 139 (hD 7 lq), ed 140 (hD 8 lq), ed 141 (hD 9 lq), ed 142 (hD 10 lq), ed 143 (hD 11 lq), ed 144 (hD 12 lq), ed 145 (hD 13 lq), ed 146 (hD 14 lq), ed 147 (hD 15 lq), ed 148 (hD 16 lq), ed 149 (hD 17 lq), ed 150 (hD 18 lq), ed 151 (hD 19 lq), ed 152 (hD 20 lq), ed 153 (hD 21 lq), ed 154 (hD 22 lq), ed 155 (hD 23 lq), ed 156 (hD 24 lq), ed 157 (hD 25 lq), ed 158 (hD 26 lq), ed 159 (hD 27 lq), ed 160 (hD 28 lq), ed 161 (hD 29 lq), ed 162 (hD 30 lq), ed 163 (hD 31 lq), ed 164 (hD 32 lq), ed 165 (hD 33 lq), ed 166 (hD 34 lq), ed 6 (hD 35 lq)] at hfr
  clear hX hD; subst hfr; clear σ β X
  refine then_normal ?_
  refine wp_ret ?_
  refine bodyPost_ret (v := .bool true) (by simp [results, Tryd.results7, go_sem]) rfl ?_
  exact Ret.of rfl hst39.ext

end Go.Proofs.YtfjpglohcppjeaaDoor

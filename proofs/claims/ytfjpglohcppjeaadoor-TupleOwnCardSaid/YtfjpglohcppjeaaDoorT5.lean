/- A version built from integers. -/
import Derived.Test.YtfjpglohcppjeaaDoorT4
namespace Go.Proofs.YtfjpglohcppjeaaDoor
open Go.RowKit
set_option linter.unusedVariables false

def curL (s : List Int) (k : Nat) : List Int := (List.range 8).map fun i => if i < k then s.getD i 0 % 65536 else 0
def mk8 (s : List Int) : List Int := (List.range 8).map fun i => s.getD i 0 % 65536
theorem curL_len (s : List Int) (k : Nat) : (curL s k).length = 8 := by simp [curL]
theorem mk8_len (s : List Int) : (mk8 s).length = 8 := by simp [mk8]
theorem curL_0 (s : List Int) : curL s 0 = List.replicate 8 0 := rfl
theorem curL_set (s : List Int) (k : Nat) (h : k < 8) : (curL s k).set k (s.getD k 0 % 65536) = curL s (k + 1) := by
  apply List.ext_getElem
  · simp [curL]
  · intro i h1 h2
    simp only [curL, List.length_set, List.length_map, List.length_range] at h1
    rw [List.getElem_set]
    simp only [curL, List.getElem_map, List.getElem_range]
    by_cases e : k = i
    · subst e; simp
    · rw [if_neg e]
      by_cases h3 : i < k
      · rw [if_pos h3, if_pos (by omega)]
      · rw [if_neg h3, if_neg (by omega)]
theorem curL_end (s : List Int) (k : Nat) (h : 8 ≤ k ∨ s.length ≤ k) : curL s k = mk8 s := by
  apply List.ext_getElem
  · simp [curL, mk8]
  · intro i h1 h2
    simp only [curL, List.length_map, List.length_range] at h1
    simp only [curL, mk8, List.getElem_map, List.getElem_range]
    by_cases h3 : i < k
    · rw [if_pos h3]
    · have h4 : s.getD i 0 = 0 := by simp [show s.length ≤ i by omega]
      rw [if_neg h3, h4]; rfl
theorem mk8_bd (s : List Int) (i : Nat) : 0 ≤ (mk8 s).getD i 0 ∧ (mk8 s).getD i 0 ≤ 65535 := by
  rcases Nat.lt_or_ge i 8 with h | h
  · have e : (mk8 s).getD i 0 = s.getD i 0 % 65536 := by simp [mk8, h]
    rw [e]; omega
  · have e : (mk8 s).getD i 0 = 0 := by simp [mk8, h]
    rw [e]; omega
theorem At.drop8 {w : World} {A : Option Addr} {s : List Int} (h : At w A ((mk8 s).map (Value.int .i64))) : At w (if 8 = 4 then A else A.map (·.add (4 * 1))) (((mk8 s).drop 4).map (Value.int .i64)) := by
  have := h.drop 4 8 (by simp [mk8_len])
  rw [List.map_drop]
  exact this
def vminF (s : List Int) : Int := 2 + (mk8 s).getD 0 0 % 126
def vmaxF (s : List Int) : Int := if decide (0 < (mk8 s).getD 1 0 % 3) = true then 3 + (mk8 s).getD 1 0 / 3 % 125 else 0
def vpgF (s : List Int) : Int := if ((mk8 s).getD 2 0 % 2 == 1) = true then (mk8 s).getD 2 0 / 2 % 400 else -1
def vslF (s : List Int) : Int := if ((mk8 s).getD 2 0 % 2 == 1) = true then (mk8 s).getD 3 0 / 4 % 24 else 0
def vhotF (s : List Int) : Bool := (mk8 s).getD 2 0 % 3 == 1
def vrowF (s : List Int) : List Val := madeR ((mk8 s).getD 3 0 % 4).toNat ((mk8 s).drop 4)
def VerPost (s : List Int) (w : World) (e : Ending) (w' : World) : Prop := ∃ A c, e = .returned (.agg #[.int .i64 (vminF s), .int .i64 (vmaxF s), .int .i64 (vpgF s), .int .i64 (vslF s), .bool (vhotF s), .slice A (vrowF s).length c]) ∧
  w'.ownsRow w.heap.size 103 3 (.slice A (vrowF s).length c) (vrowF s).length (flatR (vrowF s)) ∧ Ext w w'
theorem VerPost.of {s : List Int} {w w' : World} {a b n1 n2 : Int} {ho : Bool} {rr : List Val} {A : Option Addr} {c : Nat} (ha : a = vminF s) (hb : b = vmaxF s) (h1 : n1 = vpgF s) (h2 : n2 = vslF s) (hh : ho = vhotF s) (hr : rr = vrowF s)
    (ho' : w'.ownsRow w.heap.size 103 3 (.slice A rr.length c) rr.length (flatR rr)) (hx : Ext w w') : VerPost s w (.returned (.agg #[.int .i64 a, .int .i64 b, .int .i64 n1, .int .i64 n2, .bool ho, .slice A rr.length c])) w' := by
  subst ha hb h1 h2 hh hr
  exact ⟨A, c, rfl, ho', hx⟩
set_option maxRecDepth 100000 in
set_option maxHeartbeats 2000000 in
theorem made08_any (LA : Option Addr) (lc : Nat) (s : List Int) (w : World) (hA : At w LA (s.map (Value.int .i64))) (hll : s.length ≤ 9223372036854775807) :
    Calls Tryd.prog 14 #[.slice LA s.length lc] w (VerPost s w) := by
  go_enter Tryd.func14, Tryd.ntmps14
  have hst0 := St.start w
  refine wp_seq ?_
  refine wp_region_X [0] [] [[0]] [] (fun ix σ β X => match ix with | 0 => σ 2 = .pointer (some ⟨(pb (β 2)), 0, none⟩) ∧ X 0 = eB (pb (β 2)) 27 #[.int .i64 0, .int .i64 0, .int .i64 0, .int .i64 0, .bool false, .slice none 0 0] | _ => True) [0] [2] hst0 ?_ ?_ ?_
  · exact fun ix _ _ _ _ _ _ hs hb hx h => match ix, h with
    | 0, h => by dsimp only at h ⊢; rw [← hs 2 rfl, ← hb 2 rfl, ← hx 0 rfl]; exact h
    | _ + 1, _ => trivial
  · refine ⟨trivial, ?_⟩
    · refine sv_any rfl rfl fun ρ β W X cx => ?_
      exact dv_alloc (cs := #[.int .i64 0, .int .i64 0, .int .i64 0, .int .i64 0, .bool false, .slice none 0 0]) rfl (by kernel_rfl) rfl rfl (fun σ β' X' hs hb hv hx => ⟨hv, hx⟩)
  intro σ β X W1 hD hX hst1 fr hfr
  obtain ⟨B2_1, hu_B2_1⟩ : ∃ z, pb (β 2) = z := ⟨_, rfl⟩
  simp only [zM, exq 0 ((hD 0 lq).2), hu_B2_1] at hst1
  simp only [zP, ed 2 ((hD 0 lq).1), hu_B2_1] at hfr
  clear hX hD hu_B2_1; subst hfr; clear σ β X
  refine then_normal ?_
  refine wp_seq ?_
  refine wp_region_X [0, 1] [] [[1]] [] (fun ix σ β X => match ix with | 0 => σ 6 = .slice (sA (β 6)) 8 8 ∧ X 1 = eO 3 1 (.slice (sA (β 6)) 8 8) 8 ((List.replicate 8 (0 : Int)).map (Value.int .i64)) | 1 => σ 3 = .slice (sA (β 6)) 8 8 | _ => True) [0, 1] [6, 3] hst1 ?_ ?_ ?_
  · exact fun ix _ _ _ _ _ _ hs hb hx h => match ix, h with
    | 0, h => by dsimp only at h ⊢; rw [← hs 6 rfl, ← hb 6 rfl, ← hx 1 rfl]; exact h
    | 1, h => by dsimp only at h ⊢; rw [← hs 3 rfl, ← hb 6 rfl]; exact h
    | _ + 2, _ => trivial
  · refine ⟨⟨trivial, ?_⟩, ?_⟩
    · refine sv_any rfl rfl fun ρ β W X cx => ?_
      obtain ⟨i0, hi0, hz0, hz1, hz2⟩ := info_parts Tryd.infoInt
      exact dv_make (n := 8) rfl (by kernel_rfl) hi0 hz0 hz1 hz2 rfl (cx.sees.const _) (cx.sees.const _) (by omega) (by omega) (by omega) (by omega) rfl rfl (fun σ β' X' hs hb hv hx => ⟨hv, by rw [List.map_replicate]; exact hx⟩)
    · exact sv rfl rfl rfl rfl rfl _ (fun _ _ _ h => h) (fun β β' h => by rw [h 6 (by decide)]) fun ρ β W X cx => run_assign' rfl (cx.anc 0 rfl).1
  intro σ β X W2 hD hX hst2 fr hfr
  obtain ⟨A6_2, hu_A6_2⟩ : ∃ z, sA (β 6) = z := ⟨_, rfl⟩
  simp only [zM, exq 0 (hX 0 _ rfl), exq 1 ((hD 0 lq).2), hu_A6_2] at hst2
  simp only [zP, ed 6 ((hD 0 lq).1), ed 3 (hD 1 lq), hu_A6_2] at hfr
  clear hX hD hu_A6_2; subst hfr; clear σ β X
  refine then_normal ?_
  refine wp_seq ?_
  refine wp_seq ?_
  refine wp_region_X [0] [] [] [] (fun ix σ β X => match ix with | 0 => σ 4 = .int .i64 0 | _ => True) [0, 1] [4] hst2 ?_ ?_ ?_
  · exact fun ix _ _ _ _ _ _ hs hb hx h => match ix, h with
    | 0, h => (hs _ rfl).symm.trans h
    | _ + 1, _ => trivial
  · refine ⟨trivial, ?_⟩
    · exact s0 rfl fun cx => run_assign' rfl (cx.sees.const _)
  intro σ β X W3 hD hX hst3 fr hfr
  simp only [zM, exq 0 (hX 0 _ rfl), exq 1 (hX 1 _ rfl)] at hst3
  simp only [zP, ed 4 (hD 0 lq)] at hfr
  clear hX hD; subst hfr; clear σ β X
  refine then_normal ?_
  refine wp_block ?_
  refine wp_loopN (fun mz az W => ∃ k : Nat, ∃ u4_ : List Value, k ≤ 8 ∧ mz = 8 - k ∧ az = ⟨#[.slice LA s.length lc, undef, .pointer (some ⟨B2_1, 0, none⟩), .slice A6_2 8 8, .int .i64 ((k : Int)), undef, .slice A6_2 8 8, (u4_.getD 0 undef), (u4_.getD 1 undef), (u4_.getD 2 undef), (u4_.getD 3 undef), (u4_.getD 4 undef), (u4_.getD 5 undef), (u4_.getD 6 undef), (u4_.getD 7 undef), (u4_.getD 8 undef), (u4_.getD 9 undef), (u4_.getD 10 undef), (u4_.getD 11 undef), (u4_.getD 12 undef), (u4_.getD 13 undef), (u4_.getD 14 undef), (u4_.getD 15 undef), (u4_.getD 16 undef), (u4_.getD 17 undef), undef, undef, undef, undef, undef, undef, undef, undef, undef, undef, undef, undef, undef, undef, undef, undef, undef, undef, undef, undef, undef, undef, undef, undef, undef, undef, undef, undef, undef, undef, undef, undef, undef, undef, undef, undef, undef, undef, undef, undef, undef, undef, undef, undef, undef, undef, undef, undef, undef], []⟩ ∧ St w [] [eB B2_1 27 #[.int .i64 0, .int .i64 0, .int .i64 0, .int .i64 0, .bool false, .slice none 0 0], eO 3 1 (.slice A6_2 8 8) 8 ((curL s k).map (Value.int .i64))] W) (8 - 0) ?_ ?_
  · -- the loop begins
    have hp5 := hst3.pick [0, 1] (by decide) rfl
    exact ⟨0, [undef, undef, undef, undef, undef, undef, undef, undef, undef, undef, undef, undef, undef, undef, undef, undef, undef, undef], by omega, rfl, rfl, hp5⟩
  rintro n4 a4 W4 ⟨k, u4_, hk8, rfl, rfl, hst4⟩
  refine wp_seq ?_
  refine wp_seq ?_
  rcases Bool.eq_false_or_eq_true (decide ((k : Int) < 8)) with hs7 | hs7
  · skip
    have hs7p : (k : Int) < 8 := by simpa using hs7
    refine wp_region_X [0, 1, 3, 7, 7, 23, 63, 127] [] [] [] (fun ix σ β X => match ix with | 0 => σ 7 = .int .i64 ((k : Int)) | 1 => σ 8 = .bool (decide ((k : Int) < 8)) | 2 => σ 9 = .bool true | 3 => σ 10 = .int .i64 ((k : Int)) | 4 => σ 11 = .slice LA s.length lc | 5 => σ 12 = .int .i64 ((s.length : Int)) | 6 => σ 13 = .bool (decide ((k : Int) < (s.length : Int))) | 7 => σ 14 = .bool (decide ((k : Int) < (s.length : Int))) | _ => True) [0, 1] [7, 8, 9, 10, 11, 12, 13, 14] hst4 ?_ ?_ ?_
    · exact fun ix _ _ _ _ _ _ hs hb hx h => match ix, h with
      | 0, h | 1, h | 2, h | 3, h | 4, h | 5, h | 6, h | 7, h => (hs _ rfl).symm.trans h
      | _ + 8, _ => trivial
    · refine ⟨⟨⟨⟨⟨⟨⟨⟨trivial, ?_⟩, ?_⟩, ?_⟩, ?_⟩, ?_⟩, ?_⟩, ?_⟩, ?_⟩
      · exact mo rfl
      · exact s0 rfl fun cx => run_bin rfl (cx.anc 0 rfl) (cx.sees.const _) rfl
      · exact s0 rfl fun cx => run_move' rfl (Eq.trans (cx.anc 1 rfl) (congrArg Value.bool hs7))
      · exact s1 rfl (fun cx => (cx.anc 2 rfl)) fun cx => run_move' rfl (cx.out 4 rfl)
      · exact s1 rfl (fun cx => (cx.anc 2 rfl)) fun cx => run_move' rfl (cx.out 0 rfl)
      · exact s1 rfl (fun cx => (cx.anc 2 rfl)) fun cx => run_len_l (e := 3) rfl (by kernel_rfl) (cx.anc 4 rfl)
      · exact s1 rfl (fun cx => (cx.anc 2 rfl)) fun cx => run_bin rfl (cx.anc 3 rfl) (cx.anc 5 rfl) rfl
      · exact s0 rfl fun cx => run_pick_t rfl (cx.anc 2 rfl) (cx.anc 6 rfl)
    intro σ β X W8 hD hX hst8 fr hfr
    simp only [zM, exq 0 (hX 0 _ rfl), exq 1 (hX 1 _ rfl)] at hst8
    simp only [zP, ed 7 (hD 0 lq), ed 8 (hD 1 lq), ed 9 (hD 2 lq), ed 10 (hD 3 lq), ed 11 (hD 4 lq), ed 12 (hD 5 lq), ed 13 (hD 6 lq), ed 14 (hD 7 lq)] at hfr
    clear hX hD; subst hfr; clear σ β X
    refine then_normal ?_
    rcases Bool.eq_false_or_eq_true (decide ((k : Int) < (s.length : Int))) with hs9 | hs9
    · skip
      have hs9p : (k : Int) < (s.length : Int) := by simpa using hs9
      refine wp_cond_true (show Act.eval _ _ = .bool true from (congrArg Value.bool hs9)) ?_
      refine wp_skip ?_
      refine then_normal ?_
      refine wp_seq ?_
      refine wp_block ?_
      refine wp_region_X [0, 0, 0, 0, 12, 28, 60, 127, 255] [[], [], [], [], [], [], [], [1], [1]] [[], [], [], [], [], [], [], [], [2]] [[], [], [], [], [], [], [], [], [1]] (fun ix σ β X => match ix with | 0 => σ 17 = .slice A6_2 8 8 | 1 => σ 18 = .int .i64 ((k : Int)) | 2 => σ 19 = .slice LA s.length lc | 3 => σ 20 = .int .i64 ((k : Int)) | 4 => σ 21 = .pointer (some ((ad LA).add k)) | 5 => σ 22 = .int .i64 (s.getD k 0) | 6 => σ 23 = .int .i64 ((s.getD k 0) % 65536) | 7 => σ 24 = .pointer (some ((ad A6_2).add k)) | 8 => X 2 = eO 3 1 (.slice A6_2 8 8) 8 ((curL s (k + 1)).map (Value.int .i64)) | _ => True) [0, 2] [17, 18, 19, 20, 21, 22, 23, 24] hst8 ?_ ?_ ?_
      · exact fun ix _ _ _ _ _ _ hs hb hx h => match ix, h with
        | 0, h | 1, h | 2, h | 3, h | 4, h | 5, h | 6, h | 7, h => (hs _ rfl).symm.trans h
        | 8, h => by dsimp only at h ⊢; rw [← hx 2 rfl]; exact h
        | _ + 9, _ => trivial
      · refine ⟨⟨⟨⟨⟨⟨⟨⟨⟨trivial, ?_⟩, ?_⟩, ?_⟩, ?_⟩, ?_⟩, ?_⟩, ?_⟩, ?_⟩, ?_⟩
        · exact mo rfl
        · exact mo rfl
        · exact mo rfl
        · exact mo rfl
        · exact s4 rfl (fun _ _ _ h => h) fun cx => run_indexSl (e := 3) (m := k) rfl (by kernel_rfl) (by kernel_rfl) (cx.anc 2 rfl) (cx.anc 3 rfl) (by omega) (by omega) (hA.ext cx.upd.to_ext) (by simp [mk8_len, curL_len])
        · exact s4 rfl (fun _ _ _ h => h) fun cx => run_load1 rfl (by kernel_rfl) (cx.anc 4 rfl) (At.cellAd (hA.ext cx.upd.to_ext) (getD_int (by omega)))
        · exact s4 rfl (fun _ _ _ h => h) fun cx => run_and rfl (cx.anc 5 rfl) (cx.sees.const _) (bits_mask (s.getD k 0) 16 (by decide))
        · exact s4 rfl (fun _ _ _ h => h) fun cx => run_indexSl (e := 3) (m := k) rfl (by kernel_rfl) (by kernel_rfl) (cx.anc 0 rfl) (cx.anc 1 rfl) (by omega) (by omega) (At.of_own (cx.row (cx.init 1 _ rfl) rfl)) (by simp [mk8_len, curL_len])
        · refine sv_any rfl rfl fun ρ β W X cx => ?_
          exact dv_storeRow (m := k) (n := 8) rfl (cx.anc 7 rfl) (cx.anc 6 rfl) (by kernel_rfl) rfl rfl cx (cx.init 1 _ rfl) rfl (by omega) rfl (by rw [← List.map_set, curL_set s k (by omega)]) rfl rfl (fun σ β' X' hs hb hx => hx)
      intro σ β X W10 hD hX hst10 fr hfr
      simp only [zM, exq 0 (hX 0 _ rfl), exq 2 ((hD 8 lq))] at hst10
      simp only [zP, ed 17 (hD 0 lq), ed 18 (hD 1 lq), ed 19 (hD 2 lq), ed 20 (hD 3 lq), ed 21 (hD 4 lq), ed 22 (hD 5 lq), ed 23 (hD 6 lq), ed 24 (hD 7 lq)] at hfr
      clear hX hD; subst hfr; clear σ β X
      refine blk_normal ?_
      refine then_normal ?_
      refine wp_region_X [0, 1, 3] [] [] [] (fun ix σ β X => match ix with | 0 => σ 15 = .int .i64 ((k : Int)) | 1 => σ 16 = .int .i64 ((k : Int) + 1) | 2 => σ 4 = .int .i64 ((k : Int) + 1) | _ => True) [0, 1] [15, 16, 4] hst10 ?_ ?_ ?_
      · exact fun ix _ _ _ _ _ _ hs hb hx h => match ix, h with
        | 0, h | 1, h | 2, h => (hs _ rfl).symm.trans h
        | _ + 3, _ => trivial
      · refine ⟨⟨⟨trivial, ?_⟩, ?_⟩, ?_⟩
        · exact mo rfl
        · exact s4 rfl (fun _ _ _ h => h) fun cx => run_bin rfl (cx.anc 0 rfl) (cx.sees.const _) (congrArg (fun z => some (Value.int .i64 z)) ((IntWalk.i64_in _ (by omega)).trans (by omega)))
        · exact s0 rfl fun cx => run_assign' rfl (cx.anc 1 rfl)
      intro σ β X W11 hD hX hst11 fr hfr
      simp only [zM, exq 0 (hX 0 _ rfl), exq 1 (hX 1 _ rfl)] at hst11
      simp only [zP, ed 15 (hD 0 lq), ed 16 (hD 1 lq), ed 4 (hD 2 lq)] at hfr
      clear hX hD; subst hfr; clear σ β X
      refine then_normal ?_
      refine ⟨8 - ((k + 1)), by omega, ?_⟩
      have hp12 := hst11.pick [0, 1] (by decide) rfl
      exact ⟨(k + 1), [.int .i64 ((k : Int)), .bool (decide ((k : Int) < 8)), .bool true, .int .i64 ((k : Int)), .slice LA s.length lc, .int .i64 ((s.length : Int)), .bool (decide ((k : Int) < (s.length : Int))), .bool (decide ((k : Int) < (s.length : Int))), .int .i64 ((k : Int)), .int .i64 ((k : Int) + 1), .slice A6_2 8 8, .int .i64 ((k : Int)), .slice LA s.length lc, .int .i64 ((k : Int)), .pointer (some ((ad LA).add k)), .int .i64 (s.getD k 0), .int .i64 ((s.getD k 0) % 65536), .pointer (some ((ad A6_2).add k))], by omega, rfl, rfl, hp12⟩
    have hs9p : ¬ ((k : Int) < (s.length : Int)) := by simpa using hs9
    refine wp_cond_false (show Act.eval _ _ = .bool false from (congrArg Value.bool hs9)) ?_
    refine wp_exit ?_
    refine then_exit ?_
    refine then_exit ?_
    refine blk_eq ?_
    refine then_normal ?_
    refine wp_seq ?_
    have hm8 := mk8_len s
    have hcur : curL s k = mk8 s := curL_end s k (by omega)
    rw [hcur] at hst8
    have hb0 := mk8_bd s 0
    have hb1 := mk8_bd s 1
    have hb2 := mk8_bd s 2
    have hb3 := mk8_bd s 3
    obtain ⟨rr, hrr⟩ : ∃ z, z = vrowF s := ⟨_, rfl⟩
    have HM := Lib.hid (fun (A : Option Addr) (c : Nat) (w : World) (h : At w A (((mk8 s).drop 4).map (Value.int .i64))) => made02_any ((mk8 s).getD 3 0 % 4) A c ((mk8 s).drop 4) w h (by omega) (by rw [List.length_drop, mk8_len]; omega))
    rw [show ((mk8 s).drop 4).length = 8 - 4 by rw [List.length_drop, mk8_len], show madeR ((mk8 s).getD 3 0 % 4).toNat ((mk8 s).drop 4) = rr from hrr.symm] at HM
    refine wp_region_X [0, 1, 3, 7, 15, 0, 0, 64, 192, 448, 960, 0, 2048, 6144, 14336, 0, 32768, 129024, 262143, 0, 1048575] [[], [1], [1], [], [], [], [], [1], [1], [], [], [], [1], [1], [], [], [], [1], [], [], [3]] [[], [], [], [], [], [], [], [], [], [], [], [], [], [], [], [], [], [2], [], [3], [4]] [[], [], [], [], [], [], [], [], [], [], [], [], [], [], [], [], [], [], [], [], [3]] (fun ix σ β X => match ix with | 0 => σ 25 = .slice A6_2 8 8 | 1 => σ 26 = .pointer (some ((ad A6_2).add 0)) | 2 => σ 27 = .int .i64 (((mk8 s)).getD 0 0) | 3 => σ 28 = .int .i64 ((((mk8 s)).getD 0 0) % 126) | 4 => σ 29 = .int .i64 (2 + ((((mk8 s)).getD 0 0) % 126)) | 5 => σ 30 = .agg #[.int .i64 (-1), .int .i64 0] | 6 => σ 31 = .slice A6_2 8 8 | 7 => σ 32 = .pointer (some ((ad A6_2).add 2)) | 8 => σ 33 = .int .i64 (((mk8 s)).getD 2 0) | 9 => σ 34 = .int .i64 ((((mk8 s)).getD 2 0) % 3) | 10 => σ 35 = .bool (((((mk8 s)).getD 2 0) % 3) == 1) | 11 => σ 36 = .slice A6_2 8 8 | 12 => σ 37 = .pointer (some ((ad A6_2).add 3)) | 13 => σ 38 = .int .i64 (((mk8 s)).getD 3 0) | 14 => σ 39 = .int .i64 ((((mk8 s)).getD 3 0) % 4) | 15 => σ 40 = .slice A6_2 8 8 | 16 => σ 41 = .slice ((if 8 = 4 then A6_2 else A6_2.map (·.add (4 * 1)))) ((8 - 4)) ((8 - 4)) | 17 => σ 42 = .slice (sA (β 42)) rr.length (sC (β 42)) ∧ X 2 = eO 103 3 (.slice (sA (β 42)) rr.length (sC (β 42))) rr.length (flatR rr) | 18 => σ 43 = .agg #[.int .i64 (2 + ((((mk8 s)).getD 0 0) % 126)), .int .i64 0, .int .i64 (-1), .int .i64 0, .bool (((((mk8 s)).getD 2 0) % 3) == 1), .slice (sA (β 42)) rr.length (sC (β 42))] | 19 => σ 5 = .pointer (some ⟨(pb (β 5)), 0, none⟩) ∧ X 3 = eB (pb (β 5)) 27 #[.int .i64 0, .int .i64 0, .int .i64 0, .int .i64 0, .bool false, .slice none 0 0] | 20 => X 4 = eB (pb (β 5)) 27 #[.int .i64 (2 + ((((mk8 s)).getD 0 0) % 126)), .int .i64 0, .int .i64 (-1), .int .i64 0, .bool (((((mk8 s)).getD 2 0) % 3) == 1), .slice (sA (β 42)) rr.length (sC (β 42))] | _ => True) [0, 1, 2, 4] [25, 26, 27, 28, 29, 30, 31, 32, 33, 34, 35, 36, 37, 38, 39, 40, 41, 42, 43, 5] hst8 ?_ ?_ ?_
    · exact fun ix _ _ _ _ _ _ hs hb hx h => match ix, h with
      | 0, h | 1, h | 2, h | 3, h | 4, h | 5, h | 6, h | 7, h | 8, h | 9, h | 10, h | 11, h | 12, h | 13, h | 14, h | 15, h | 16, h => (hs _ rfl).symm.trans h
      | 17, h => by dsimp only at h ⊢; rw [← hs 42 rfl, ← hb 42 rfl, ← hx 2 rfl]; exact h
      | 18, h => by dsimp only at h ⊢; rw [← hs 43 rfl, ← hb 42 rfl]; exact h
      | 19, h => by dsimp only at h ⊢; rw [← hs 5 rfl, ← hb 5 rfl, ← hx 3 rfl]; exact h
      | 20, h => by dsimp only at h ⊢; rw [← hb 5 rfl, ← hb 42 rfl, ← hx 4 rfl]; exact h
      | _ + 21, _ => trivial
    · refine ⟨⟨⟨⟨⟨⟨⟨⟨⟨⟨⟨⟨⟨⟨⟨⟨⟨⟨⟨⟨⟨trivial, ?_⟩, ?_⟩, ?_⟩, ?_⟩, ?_⟩, ?_⟩, ?_⟩, ?_⟩, ?_⟩, ?_⟩, ?_⟩, ?_⟩, ?_⟩, ?_⟩, ?_⟩, ?_⟩, ?_⟩, ?_⟩, ?_⟩, ?_⟩, ?_⟩
      · exact mo rfl
      · exact s4 rfl (fun _ _ _ h => h) fun cx => run_indexSl (e := 3) (m := 0) rfl (by kernel_rfl) (by kernel_rfl) (cx.anc 0 rfl) (cx.sees.const _) (by omega) (by omega) (At.of_own (cx.row (cx.init 1 _ rfl) rfl)) (by simp [mk8_len, curL_len])
      · exact s4 rfl (fun _ _ _ h => h) fun cx => run_load1 rfl (by kernel_rfl) (cx.anc 1 rfl) (At.cellAd (At.of_own (cx.row (cx.init 1 _ rfl) rfl)) (getD_int (by omega)))
      · exact s4 rfl (fun _ _ _ h => h) fun cx => run_rem rfl (cx.anc 2 rfl) (cx.sees.const _) (by decide) (Int.tmod_eq_emod_of_nonneg (by omega))
      · exact s4 rfl (fun _ _ _ h => h) fun cx => run_bin rfl (cx.sees.const _) (cx.anc 3 rfl) (congrArg (fun z => some (Value.int .i64 z)) ((IntWalk.i64_in _ (by omega)).trans (by omega)))
      · exact s0 rfl fun cx => by
          simp [go_sem, cx.sees.const] <;> rfl
      · exact mo rfl
      · exact s4 rfl (fun _ _ _ h => h) fun cx => run_indexSl (e := 3) (m := 2) rfl (by kernel_rfl) (by kernel_rfl) (cx.anc 6 rfl) (cx.sees.const _) (by omega) (by omega) (At.of_own (cx.row (cx.init 1 _ rfl) rfl)) (by simp [mk8_len, curL_len])
      · exact s4 rfl (fun _ _ _ h => h) fun cx => run_load1 rfl (by kernel_rfl) (cx.anc 7 rfl) (At.cellAd (At.of_own (cx.row (cx.init 1 _ rfl) rfl)) (getD_int (by omega)))
      · exact s4 rfl (fun _ _ _ h => h) fun cx => run_rem rfl (cx.anc 8 rfl) (cx.sees.const _) (by decide) (Int.tmod_eq_emod_of_nonneg (by omega))
      · exact s0 rfl fun cx => run_bin rfl (cx.anc 9 rfl) (cx.sees.const _) rfl
      · exact mo rfl
      · exact s4 rfl (fun _ _ _ h => h) fun cx => run_indexSl (e := 3) (m := 3) rfl (by kernel_rfl) (by kernel_rfl) (cx.anc 11 rfl) (cx.sees.const _) (by omega) (by omega) (At.of_own (cx.row (cx.init 1 _ rfl) rfl)) (by simp [mk8_len, curL_len])
      · exact s4 rfl (fun _ _ _ h => h) fun cx => run_load1 rfl (by kernel_rfl) (cx.anc 12 rfl) (At.cellAd (At.of_own (cx.row (cx.init 1 _ rfl) rfl)) (getD_int (by omega)))
      · exact s4 rfl (fun _ _ _ h => h) fun cx => run_rem rfl (cx.anc 13 rfl) (cx.sees.const _) (by decide) (Int.tmod_eq_emod_of_nonneg (by omega))
      · exact mo rfl
      · exact s4 rfl (fun _ _ _ h => h) fun cx => run_sliceL_lo (e := 3) (sz := 1) (l := 4) rfl (by kernel_rfl) (by kernel_rfl) (cx.anc 15 rfl) (cx.sees.const _) (by omega) (by omega)
      · refine sv_any rfl rfl fun ρ β W X cx => ?_
        refine DoesU.call (run_callF (args := #[.int .i64 ((((mk8 s)).getD 3 0) % 4), .slice ((if 8 = 4 then A6_2 else A6_2.map (·.add (4 * 1)))) ((8 - 4)) ((8 - 4))]) rfl cx.sees rfl (by kernel_rfl) (map2 (cx.anc 14 rfl) (cx.anc 16 rfl))) ?_
        refine (HM.out _ _ _ (At.drop8 (At.of_own (cx.row (cx.init 1 _ rfl) rfl)))).mono ?_
        rintro e W1 ⟨A4, c4, rfl, ho, hx⟩
        refine ⟨_, rfl, post_call [eO 103 3 (.slice A4 rr.length c4) rr.length (flatR rr)] rfl rfl hx (one_new (eO_new ho)) (List.pairwise_singleton _ _) (fun σ β' X' hs hb hv hN => ?_)⟩
        have hv1 := (hv 42 rfl).1; have hv2 := (hv 42 rfl).2
        exact ⟨hv1.trans (by rw [hv2]; rfl), (by rw [hv2]; exact (List.cons.inj hN).1)⟩
      · exact sv rfl rfl rfl rfl rfl _ (fun _ _ _ h => h) (fun β β' h => by rw [h 42 (by decide)]) fun ρ β W X cx => by
          have fF29 : ρ (.tmp 29) = .int .i64 (2 + ((((mk8 s)).getD 0 0) % 126)) := (cx.anc 4 rfl)
          have fF30 : ρ (.tmp 30) = .agg #[.int .i64 (-1), .int .i64 0] := (cx.anc 5 rfl)
          have fF35 : ρ (.tmp 35) = .bool (((((mk8 s)).getD 2 0) % 3) == 1) := (cx.anc 10 rfl)
          have fF42 : ρ (.tmp 42) = .slice (sA (β 42)) rr.length (sC (β 42)) := (cx.anc 17 rfl).1
          simp [go_sem, cx.sees.const, fF29, fF30, fF35, fF42] <;> rfl
      · refine sv_any rfl rfl fun ρ β W X cx => ?_
        exact dv_alloc (cs := #[.int .i64 0, .int .i64 0, .int .i64 0, .int .i64 0, .bool false, .slice none 0 0]) rfl (by kernel_rfl) rfl rfl (fun σ β' X' hs hb hv hx => ⟨hv, hx⟩)
      · refine sv_any rfl rfl fun ρ β W X cx => ?_
        exact dv_store (n := 6) rfl (cx.anc 19 rfl).1 (cx.anc 18 rfl) (by kernel_rfl) rfl rfl cx (cx.anc 19 rfl).2 rfl (Nat.le_of_ble_eq_true rfl) rfl rfl rfl rfl (fun σ β' X' hs hb hx => by rw [hb 5, hb 42]; exact hx)
    intro σ β X W13 hD hX hst13 fr hfr
    obtain ⟨A42_13, hu_A42_13⟩ : ∃ z, sA (β 42) = z := ⟨_, rfl⟩
    obtain ⟨c42_13, hu_c42_13⟩ : ∃ z, sC (β 42) = z := ⟨_, rfl⟩
    obtain ⟨B5_13, hu_B5_13⟩ : ∃ z, pb (β 5) = z := ⟨_, rfl⟩
    simp only [zM, exq 0 (hX 0 _ rfl), exq 1 (hX 1 _ rfl), exq 2 ((hD 17 lq).2), exq 4 ((hD 20 lq)), hu_A42_13, hu_c42_13, hu_B5_13] at hst13
    simp only [zP, ed 25 (hD 0 lq), ed 26 (hD 1 lq), ed 27 (hD 2 lq), ed 28 (hD 3 lq), ed 29 (hD 4 lq), ed 30 (hD 5 lq), ed 31 (hD 6 lq), ed 32 (hD 7 lq), ed 33 (hD 8 lq), ed 34 (hD 9 lq), ed 35 (hD 10 lq), ed 36 (hD 11 lq), ed 37 (hD 12 lq), ed 38 (hD 13 lq), ed 39 (hD 14 lq), ed 40 (hD 15 lq), ed 41 (hD 16 lq), ed 42 ((hD 17 lq).1), ed 43 (hD 18 lq), ed 5 ((hD 19 lq).1), hu_A42_13, hu_c42_13, hu_B5_13] at hfr
    clear hX hD hu_A42_13 hu_c42_13 hu_B5_13; subst hfr; clear σ β X
    refine then_normal ?_
    refine wp_seq ?_
    refine wp_seq ?_
    refine wp_region_X [0, 1, 3, 7, 15] [[], [1], [1]] [] [] (fun ix σ β X => match ix with | 0 => σ 44 = .slice A6_2 8 8 | 1 => σ 45 = .pointer (some ((ad A6_2).add 1)) | 2 => σ 46 = .int .i64 (((mk8 s)).getD 1 0) | 3 => σ 47 = .int .i64 ((((mk8 s)).getD 1 0) % 3) | 4 => σ 48 = .bool (decide (0 < (((mk8 s)).getD 1 0) % 3)) | _ => True) [0, 1, 2, 3] [44, 45, 46, 47, 48] hst13 ?_ ?_ ?_
    · exact fun ix _ _ _ _ _ _ hs hb hx h => match ix, h with
      | 0, h | 1, h | 2, h | 3, h | 4, h => (hs _ rfl).symm.trans h
      | _ + 5, _ => trivial
    · refine ⟨⟨⟨⟨⟨trivial, ?_⟩, ?_⟩, ?_⟩, ?_⟩, ?_⟩
      · exact mo rfl
      · exact s4 rfl (fun _ _ _ h => h) fun cx => run_indexSl (e := 3) (m := 1) rfl (by kernel_rfl) (by kernel_rfl) (cx.anc 0 rfl) (cx.sees.const _) (by omega) (by omega) (At.of_own (cx.row (cx.init 1 _ rfl) rfl)) (by simp [mk8_len, curL_len])
      · exact s4 rfl (fun _ _ _ h => h) fun cx => run_load1 rfl (by kernel_rfl) (cx.anc 1 rfl) (At.cellAd (At.of_own (cx.row (cx.init 1 _ rfl) rfl)) (getD_int (by omega)))
      · exact s4 rfl (fun _ _ _ h => h) fun cx => run_rem rfl (cx.anc 2 rfl) (cx.sees.const _) (by decide) (Int.tmod_eq_emod_of_nonneg (by omega))
      · exact s0 rfl fun cx => run_bin rfl (cx.anc 3 rfl) (cx.sees.const _) rfl
    intro σ β X W14 hD hX hst14 fr hfr
    simp only [zM, exq 0 (hX 0 _ rfl), exq 1 (hX 1 _ rfl), exq 2 (hX 2 _ rfl), exq 3 (hX 3 _ rfl)] at hst14
    simp only [zP, ed 44 (hD 0 lq), ed 45 (hD 1 lq), ed 46 (hD 2 lq), ed 47 (hD 3 lq), ed 48 (hD 4 lq)] at hfr
    clear hX hD; subst hfr; clear σ β X
    refine then_normal ?_
    rcases Bool.eq_false_or_eq_true (decide (0 < (((mk8 s)).getD 1 0) % 3)) with hs15 | hs15
    · skip
      have hs15p : 0 < (((mk8 s)).getD 1 0) % 3 := by simpa using hs15
      refine wp_cond_true (show Act.eval _ _ = .bool true from (congrArg Value.bool hs15)) ?_
      refine wp_region_X [0, 1, 3, 7, 15, 31, 63, 127] [[], [1], [1], [], [], [], [], [3]] [[], [], [], [], [], [], [], [4]] [[], [], [], [], [], [], [], [3]] (fun ix σ β X => match ix with | 0 => σ 49 = .slice A6_2 8 8 | 1 => σ 50 = .pointer (some ((ad A6_2).add 1)) | 2 => σ 51 = .int .i64 (((mk8 s)).getD 1 0) | 3 => σ 52 = .int .i64 ((((mk8 s)).getD 1 0) / 3) | 4 => σ 53 = .int .i64 (((((mk8 s)).getD 1 0) / 3) % 125) | 5 => σ 54 = .int .i64 (3 + (((((mk8 s)).getD 1 0) / 3) % 125)) | 6 => σ 55 = .pointer (some ⟨B5_13, 1, none⟩) | 7 => X 4 = eB B5_13 27 #[.int .i64 (2 + ((((mk8 s)).getD 0 0) % 126)), .int .i64 (3 + (((((mk8 s)).getD 1 0) / 3) % 125)), .int .i64 (-1), .int .i64 0, .bool (((((mk8 s)).getD 2 0) % 3) == 1), .slice A42_13 rr.length c42_13] | _ => True) [0, 1, 2, 4] [49, 50, 51, 52, 53, 54, 55] hst14 ?_ ?_ ?_
      · exact fun ix _ _ _ _ _ _ hs hb hx h => match ix, h with
        | 0, h | 1, h | 2, h | 3, h | 4, h | 5, h | 6, h => (hs _ rfl).symm.trans h
        | 7, h => by dsimp only at h ⊢; rw [← hx 4 rfl]; exact h
        | _ + 8, _ => trivial
      · refine ⟨⟨⟨⟨⟨⟨⟨⟨trivial, ?_⟩, ?_⟩, ?_⟩, ?_⟩, ?_⟩, ?_⟩, ?_⟩, ?_⟩
        · exact mo rfl
        · exact s4 rfl (fun _ _ _ h => h) fun cx => run_indexSl (e := 3) (m := 1) rfl (by kernel_rfl) (by kernel_rfl) (cx.anc 0 rfl) (cx.sees.const _) (by omega) (by omega) (At.of_own (cx.row (cx.init 1 _ rfl) rfl)) (by simp [mk8_len, curL_len])
        · exact s4 rfl (fun _ _ _ h => h) fun cx => run_load1 rfl (by kernel_rfl) (cx.anc 1 rfl) (At.cellAd (At.of_own (cx.row (cx.init 1 _ rfl) rfl)) (getD_int (by omega)))
        · exact s4 rfl (fun _ _ _ h => h) fun cx => run_quo rfl (cx.anc 2 rfl) (cx.sees.const _) (by decide) (by rw [Int.tdiv_eq_ediv_of_nonneg (by omega)]; exact IntWalk.i64_in _ (by omega))
        · exact s4 rfl (fun _ _ _ h => h) fun cx => run_rem rfl (cx.anc 3 rfl) (cx.sees.const _) (by decide) (Int.tmod_eq_emod_of_nonneg (by omega))
        · exact s4 rfl (fun _ _ _ h => h) fun cx => run_bin rfl (cx.sees.const _) (cx.anc 4 rfl) (congrArg (fun z => some (Value.int .i64 z)) ((IntWalk.i64_in _ (by omega)).trans (by omega)))
        · exact s0 rfl fun cx => run_fieldAddr' (k := 1) (n := 1) rfl (by kernel_rfl) (cx.out 5 rfl) rfl
        · refine sv_any rfl rfl fun ρ β W X cx => ?_
          exact dv_store (n := 1) rfl (cx.anc 6 rfl) (cx.anc 5 rfl) (by kernel_rfl) rfl rfl cx (cx.init 3 _ rfl) rfl (Nat.le_of_ble_eq_true rfl) rfl rfl rfl rfl (fun σ β' X' hs hb hx => hx)
      intro σ β X W16 hD hX hst16 fr hfr
      simp only [zM, exq 0 (hX 0 _ rfl), exq 1 (hX 1 _ rfl), exq 2 (hX 2 _ rfl), exq 4 ((hD 7 lq))] at hst16
      simp only [zP, ed 49 (hD 0 lq), ed 50 (hD 1 lq), ed 51 (hD 2 lq), ed 52 (hD 3 lq), ed 53 (hD 4 lq), ed 54 (hD 5 lq), ed 55 (hD 6 lq)] at hfr
      clear hX hD; subst hfr; clear σ β X
      refine then_normal ?_
      refine wp_seq ?_
      refine wp_seq ?_
      refine wp_region_X [0, 1, 3, 7, 15] [[], [1], [1]] [] [] (fun ix σ β X => match ix with | 0 => σ 56 = .slice A6_2 8 8 | 1 => σ 57 = .pointer (some ((ad A6_2).add 2)) | 2 => σ 58 = .int .i64 (((mk8 s)).getD 2 0) | 3 => σ 59 = .int .i64 ((((mk8 s)).getD 2 0) % 2) | 4 => σ 60 = .bool (((((mk8 s)).getD 2 0) % 2) == 1) | _ => True) [0, 1, 2, 3] [56, 57, 58, 59, 60] hst16 ?_ ?_ ?_
      · exact fun ix _ _ _ _ _ _ hs hb hx h => match ix, h with
        | 0, h | 1, h | 2, h | 3, h | 4, h => (hs _ rfl).symm.trans h
        | _ + 5, _ => trivial
      · refine ⟨⟨⟨⟨⟨trivial, ?_⟩, ?_⟩, ?_⟩, ?_⟩, ?_⟩
        · exact mo rfl
        · exact s4 rfl (fun _ _ _ h => h) fun cx => run_indexSl (e := 3) (m := 2) rfl (by kernel_rfl) (by kernel_rfl) (cx.anc 0 rfl) (cx.sees.const _) (by omega) (by omega) (At.of_own (cx.row (cx.init 1 _ rfl) rfl)) (by simp [mk8_len, curL_len])
        · exact s4 rfl (fun _ _ _ h => h) fun cx => run_load1 rfl (by kernel_rfl) (cx.anc 1 rfl) (At.cellAd (At.of_own (cx.row (cx.init 1 _ rfl) rfl)) (getD_int (by omega)))
        · exact s4 rfl (fun _ _ _ h => h) fun cx => run_rem rfl (cx.anc 2 rfl) (cx.sees.const _) (by decide) (Int.tmod_eq_emod_of_nonneg (by omega))
        · exact s0 rfl fun cx => run_bin rfl (cx.anc 3 rfl) (cx.sees.const _) rfl
      intro σ β X W17 hD hX hst17 fr hfr
      simp only [zM, exq 0 (hX 0 _ rfl), exq 1 (hX 1 _ rfl), exq 2 (hX 2 _ rfl), exq 3 (hX 3 _ rfl)] at hst17
      simp only [zP, ed 56 (hD 0 lq), ed 57 (hD 1 lq), ed 58 (hD 2 lq), ed 59 (hD 3 lq), ed 60 (hD 4 lq)] at hfr
      clear hX hD; subst hfr; clear σ β X
      refine then_normal ?_
      rcases Bool.eq_false_or_eq_true (((((mk8 s)).getD 2 0) % 2) == 1) with hs18 | hs18
      · skip
        have hs18p : ((((mk8 s)).getD 2 0) % 2) = 1 := by simpa using hs18
        refine wp_cond_true (show Act.eval _ _ = .bool true from (congrArg Value.bool hs18)) ?_
        refine wp_region_X [0, 1, 3, 7, 15, 0, 32, 96, 224, 480, 1023, 2047, 4095] [[], [1], [1], [], [], [], [1], [1], [], [], [], [], [3]] [[], [], [], [], [], [], [], [], [], [], [], [], [4]] [[], [], [], [], [], [], [], [], [], [], [], [], [3]] (fun ix σ β X => match ix with | 0 => σ 61 = .slice A6_2 8 8 | 1 => σ 62 = .pointer (some ((ad A6_2).add 2)) | 2 => σ 63 = .int .i64 (((mk8 s)).getD 2 0) | 3 => σ 64 = .int .i64 ((((mk8 s)).getD 2 0) / 2) | 4 => σ 65 = .int .i64 (((((mk8 s)).getD 2 0) / 2) % 400) | 5 => σ 66 = .slice A6_2 8 8 | 6 => σ 67 = .pointer (some ((ad A6_2).add 3)) | 7 => σ 68 = .int .i64 (((mk8 s)).getD 3 0) | 8 => σ 69 = .int .i64 ((((mk8 s)).getD 3 0) / 4) | 9 => σ 70 = .int .i64 (((((mk8 s)).getD 3 0) / 4) % 24) | 10 => σ 71 = .agg #[.int .i64 (((((mk8 s)).getD 2 0) / 2) % 400), .int .i64 (((((mk8 s)).getD 3 0) / 4) % 24)] | 11 => σ 72 = .pointer (some ⟨B5_13, 2, none⟩) | 12 => X 4 = eB B5_13 27 #[.int .i64 (2 + ((((mk8 s)).getD 0 0) % 126)), .int .i64 (3 + (((((mk8 s)).getD 1 0) / 3) % 125)), .int .i64 (((((mk8 s)).getD 2 0) / 2) % 400), .int .i64 (((((mk8 s)).getD 3 0) / 4) % 24), .bool (((((mk8 s)).getD 2 0) % 3) == 1), .slice A42_13 rr.length c42_13] | _ => True) [0, 1, 2, 4] [61, 62, 63, 64, 65, 66, 67, 68, 69, 70, 71, 72] hst17 ?_ ?_ ?_
        · exact fun ix _ _ _ _ _ _ hs hb hx h => match ix, h with
          | 0, h | 1, h | 2, h | 3, h | 4, h | 5, h | 6, h | 7, h | 8, h | 9, h | 10, h | 11, h => (hs _ rfl).symm.trans h
          | 12, h => by dsimp only at h ⊢; rw [← hx 4 rfl]; exact h
          | _ + 13, _ => trivial
        · refine ⟨⟨⟨⟨⟨⟨⟨⟨⟨⟨⟨⟨⟨trivial, ?_⟩, ?_⟩, ?_⟩, ?_⟩, ?_⟩, ?_⟩, ?_⟩, ?_⟩, ?_⟩, ?_⟩, ?_⟩, ?_⟩, ?_⟩
          · exact mo rfl
          · exact s4 rfl (fun _ _ _ h => h) fun cx => run_indexSl (e := 3) (m := 2) rfl (by kernel_rfl) (by kernel_rfl) (cx.anc 0 rfl) (cx.sees.const _) (by omega) (by omega) (At.of_own (cx.row (cx.init 1 _ rfl) rfl)) (by simp [mk8_len, curL_len])
          · exact s4 rfl (fun _ _ _ h => h) fun cx => run_load1 rfl (by kernel_rfl) (cx.anc 1 rfl) (At.cellAd (At.of_own (cx.row (cx.init 1 _ rfl) rfl)) (getD_int (by omega)))
          · exact s4 rfl (fun _ _ _ h => h) fun cx => run_quo rfl (cx.anc 2 rfl) (cx.sees.const _) (by decide) (by rw [Int.tdiv_eq_ediv_of_nonneg (by omega)]; exact IntWalk.i64_in _ (by omega))
          · exact s4 rfl (fun _ _ _ h => h) fun cx => run_rem rfl (cx.anc 3 rfl) (cx.sees.const _) (by decide) (Int.tmod_eq_emod_of_nonneg (by omega))
          · exact mo rfl
          · exact s4 rfl (fun _ _ _ h => h) fun cx => run_indexSl (e := 3) (m := 3) rfl (by kernel_rfl) (by kernel_rfl) (cx.anc 5 rfl) (cx.sees.const _) (by omega) (by omega) (At.of_own (cx.row (cx.init 1 _ rfl) rfl)) (by simp [mk8_len, curL_len])
          · exact s4 rfl (fun _ _ _ h => h) fun cx => run_load1 rfl (by kernel_rfl) (cx.anc 6 rfl) (At.cellAd (At.of_own (cx.row (cx.init 1 _ rfl) rfl)) (getD_int (by omega)))
          · exact s4 rfl (fun _ _ _ h => h) fun cx => run_quo rfl (cx.anc 7 rfl) (cx.sees.const _) (by decide) (by rw [Int.tdiv_eq_ediv_of_nonneg (by omega)]; exact IntWalk.i64_in _ (by omega))
          · exact s4 rfl (fun _ _ _ h => h) fun cx => run_rem rfl (cx.anc 8 rfl) (cx.sees.const _) (by decide) (Int.tmod_eq_emod_of_nonneg (by omega))
          · exact sv0 rfl rfl rfl rfl rfl (fun _ _ _ h => h) fun ρ β W X cx => by
              have fF65 : ρ (.tmp 65) = .int .i64 (((((mk8 s)).getD 2 0) / 2) % 400) := (cx.anc 4 rfl)
              have fF70 : ρ (.tmp 70) = .int .i64 (((((mk8 s)).getD 3 0) / 4) % 24) := (cx.anc 9 rfl)
              simp [go_sem, cx.sees.const, fF65, fF70] <;> rfl
          · exact s0 rfl fun cx => run_fieldAddr' (k := 2) (n := 2) rfl (by kernel_rfl) (cx.out 5 rfl) rfl
          · refine sv_any rfl rfl fun ρ β W X cx => ?_
            exact dv_store (n := 2) rfl (cx.anc 11 rfl) (cx.anc 10 rfl) (by kernel_rfl) rfl rfl cx (cx.init 3 _ rfl) rfl (Nat.le_of_ble_eq_true rfl) rfl rfl rfl rfl (fun σ β' X' hs hb hx => hx)
        intro σ β X W19 hD hX hst19 fr hfr
        simp only [zM, exq 0 (hX 0 _ rfl), exq 1 (hX 1 _ rfl), exq 2 (hX 2 _ rfl), exq 4 ((hD 12 lq))] at hst19
        simp only [zP, ed 61 (hD 0 lq), ed 62 (hD 1 lq), ed 63 (hD 2 lq), ed 64 (hD 3 lq), ed 65 (hD 4 lq), ed 66 (hD 5 lq), ed 67 (hD 6 lq), ed 68 (hD 7 lq), ed 69 (hD 8 lq), ed 70 (hD 9 lq), ed 71 (hD 10 lq), ed 72 (hD 11 lq)] at hfr
        clear hX hD; subst hfr; clear σ β X
        refine then_normal ?_
        refine wp_seq ?_
        refine wp_region_X [0, 1] [[3], [0]] [[], [4]] [[], [0]] (fun ix σ β X => match ix with | 0 => σ 73 = .agg #[.int .i64 (2 + ((((mk8 s)).getD 0 0) % 126)), .int .i64 (3 + (((((mk8 s)).getD 1 0) / 3) % 125)), .int .i64 (((((mk8 s)).getD 2 0) / 2) % 400), .int .i64 (((((mk8 s)).getD 3 0) / 4) % 24), .bool (((((mk8 s)).getD 2 0) % 3) == 1), .slice A42_13 rr.length c42_13] | 1 => X 4 = eB B2_1 27 #[.int .i64 (2 + ((((mk8 s)).getD 0 0) % 126)), .int .i64 (3 + (((((mk8 s)).getD 1 0) / 3) % 125)), .int .i64 (((((mk8 s)).getD 2 0) / 2) % 400), .int .i64 (((((mk8 s)).getD 3 0) / 4) % 24), .bool (((((mk8 s)).getD 2 0) % 3) == 1), .slice A42_13 rr.length c42_13] | _ => True) [1, 2, 3, 4] [73] hst19 ?_ ?_ ?_
        · exact fun ix _ _ _ _ _ _ hs hb hx h => match ix, h with
          | 0, h => (hs _ rfl).symm.trans h
          | 1, h => by dsimp only at h ⊢; rw [← hx 4 rfl]; exact h
          | _ + 2, _ => trivial
        · refine ⟨⟨trivial, ?_⟩, ?_⟩
          · exact s0 rfl fun cx => run_loadB (n := 6) rfl (by kernel_rfl) (by kernel_rfl) (cx.out 5 rfl) (cx.blk (cx.init 3 _ rfl) rfl) (Nat.le_of_ble_eq_true rfl) rfl
          · refine sv_any rfl rfl fun ρ β W X cx => ?_
            exact dv_store (n := 6) rfl (cx.out 2 rfl) (cx.anc 0 rfl) (by kernel_rfl) rfl rfl cx (cx.init 0 _ rfl) rfl (Nat.le_of_ble_eq_true rfl) rfl rfl rfl rfl (fun σ β' X' hs hb hx => hx)
        intro σ β X W20 hD hX hst20 fr hfr
        simp only [zM, exq 1 (hX 1 _ rfl), exq 2 (hX 2 _ rfl), exq 3 (hX 3 _ rfl), exq 4 ((hD 1 lq))] at hst20
        simp only [zP, ed 73 (hD 0 lq)] at hfr
        clear hX hD; subst hfr; clear σ β X
        refine then_normal ?_
        refine wp_ret ?_
        have hr21 : W20.cell? ⟨B2_1, 0, none⟩ = some (.int .i64 (2 + ((((mk8 s)).getD 0 0) % 126))) := (hst20.blk 3 rfl).cell 0
        have hr22 : W20.cell? ⟨B2_1, 1, none⟩ = some (.int .i64 (3 + (((((mk8 s)).getD 1 0) / 3) % 125))) := (hst20.blk 3 rfl).cell 1
        have hr23 : W20.cell? ⟨B2_1, 2, none⟩ = some (.int .i64 (((((mk8 s)).getD 2 0) / 2) % 400)) := (hst20.blk 3 rfl).cell 2
        have hr24 : W20.cell? ⟨B2_1, 3, none⟩ = some (.int .i64 (((((mk8 s)).getD 3 0) / 4) % 24)) := (hst20.blk 3 rfl).cell 3
        have hr25 : W20.cell? ⟨B2_1, 4, none⟩ = some (.bool (((((mk8 s)).getD 2 0) % 3) == 1)) := (hst20.blk 3 rfl).cell 4
        have hr26 : W20.cell? ⟨B2_1, 5, none⟩ = some (.slice A42_13 rr.length c42_13) := (hst20.blk 3 rfl).cell 5
        refine bodyPost_ret (v := .agg #[.int .i64 (2 + ((((mk8 s)).getD 0 0) % 126)), .int .i64 (3 + (((((mk8 s)).getD 1 0) / 3) % 125)), .int .i64 (((((mk8 s)).getD 2 0) / 2) % 400), .int .i64 (((((mk8 s)).getD 3 0) / 4) % 24), .bool (((((mk8 s)).getD 2 0) % 3) == 1), .slice A42_13 rr.length c42_13]) (by simp [results, Tryd.results14, go_sem, hr21, hr22, hr23, hr24, hr25, hr26]) rfl ?_
        exact VerPost.of rfl (by rw [vmaxF, hs15]; rfl) (by rw [vpgF, hs18]; rfl) (by rw [vslF, hs18]; rfl) rfl hrr (hst20.own' 1 rfl) hst20.ext
      have hs18p : ((((mk8 s)).getD 2 0) % 2) ≠ 1 := by simpa using hs18
      refine wp_cond_false (show Act.eval _ _ = .bool false from (congrArg Value.bool hs18)) ?_
      refine wp_skip ?_
      refine then_normal ?_
      refine wp_seq ?_
      refine wp_region_X [0, 1] [[3], [0]] [[], [4]] [[], [0]] (fun ix σ β X => match ix with | 0 => σ 73 = .agg #[.int .i64 (2 + ((((mk8 s)).getD 0 0) % 126)), .int .i64 (3 + (((((mk8 s)).getD 1 0) / 3) % 125)), .int .i64 (-1), .int .i64 0, .bool (((((mk8 s)).getD 2 0) % 3) == 1), .slice A42_13 rr.length c42_13] | 1 => X 4 = eB B2_1 27 #[.int .i64 (2 + ((((mk8 s)).getD 0 0) % 126)), .int .i64 (3 + (((((mk8 s)).getD 1 0) / 3) % 125)), .int .i64 (-1), .int .i64 0, .bool (((((mk8 s)).getD 2 0) % 3) == 1), .slice A42_13 rr.length c42_13] | _ => True) [1, 2, 3, 4] [73] hst17 ?_ ?_ ?_
      · exact fun ix _ _ _ _ _ _ hs hb hx h => match ix, h with
        | 0, h => (hs _ rfl).symm.trans h
        | 1, h => by dsimp only at h ⊢; rw [← hx 4 rfl]; exact h
        | _ + 2, _ => trivial
      · refine ⟨⟨trivial, ?_⟩, ?_⟩
        · exact s0 rfl fun cx => run_loadB (n := 6) rfl (by kernel_rfl) (by kernel_rfl) (cx.out 5 rfl) (cx.blk (cx.init 3 _ rfl) rfl) (Nat.le_of_ble_eq_true rfl) rfl
        · refine sv_any rfl rfl fun ρ β W X cx => ?_
          exact dv_store (n := 6) rfl (cx.out 2 rfl) (cx.anc 0 rfl) (by kernel_rfl) rfl rfl cx (cx.init 0 _ rfl) rfl (Nat.le_of_ble_eq_true rfl) rfl rfl rfl rfl (fun σ β' X' hs hb hx => hx)
      intro σ β X W27 hD hX hst27 fr hfr
      simp only [zM, exq 1 (hX 1 _ rfl), exq 2 (hX 2 _ rfl), exq 3 (hX 3 _ rfl), exq 4 ((hD 1 lq))] at hst27
      simp only [zP, ed 73 (hD 0 lq)] at hfr
      clear hX hD; subst hfr; clear σ β X
      refine then_normal ?_
      refine wp_ret ?_
      have hr28 : W27.cell? ⟨B2_1, 0, none⟩ = some (.int .i64 (2 + ((((mk8 s)).getD 0 0) % 126))) := (hst27.blk 3 rfl).cell 0
      have hr29 : W27.cell? ⟨B2_1, 1, none⟩ = some (.int .i64 (3 + (((((mk8 s)).getD 1 0) / 3) % 125))) := (hst27.blk 3 rfl).cell 1
      have hr30 : W27.cell? ⟨B2_1, 2, none⟩ = some (.int .i64 (-1)) := (hst27.blk 3 rfl).cell 2
      have hr31 : W27.cell? ⟨B2_1, 3, none⟩ = some (.int .i64 0) := (hst27.blk 3 rfl).cell 3
      have hr32 : W27.cell? ⟨B2_1, 4, none⟩ = some (.bool (((((mk8 s)).getD 2 0) % 3) == 1)) := (hst27.blk 3 rfl).cell 4
      have hr33 : W27.cell? ⟨B2_1, 5, none⟩ = some (.slice A42_13 rr.length c42_13) := (hst27.blk 3 rfl).cell 5
      refine bodyPost_ret (v := .agg #[.int .i64 (2 + ((((mk8 s)).getD 0 0) % 126)), .int .i64 (3 + (((((mk8 s)).getD 1 0) / 3) % 125)), .int .i64 (-1), .int .i64 0, .bool (((((mk8 s)).getD 2 0) % 3) == 1), .slice A42_13 rr.length c42_13]) (by simp [results, Tryd.results14, go_sem, hr28, hr29, hr30, hr31, hr32, hr33]) rfl ?_
      exact VerPost.of rfl (by rw [vmaxF, hs15]; rfl) (by rw [vpgF, hs18]; rfl) (by rw [vslF, hs18]; rfl) rfl hrr (hst27.own' 1 rfl) hst27.ext
    have hs15p : ¬ (0 < (((mk8 s)).getD 1 0) % 3) := by simpa using hs15
    refine wp_cond_false (show Act.eval _ _ = .bool false from (congrArg Value.bool hs15)) ?_
    refine wp_skip ?_
    refine then_normal ?_
    refine wp_seq ?_
    refine wp_seq ?_
    refine wp_region_X [0, 1, 3, 7, 15] [[], [1], [1]] [] [] (fun ix σ β X => match ix with | 0 => σ 56 = .slice A6_2 8 8 | 1 => σ 57 = .pointer (some ((ad A6_2).add 2)) | 2 => σ 58 = .int .i64 (((mk8 s)).getD 2 0) | 3 => σ 59 = .int .i64 ((((mk8 s)).getD 2 0) % 2) | 4 => σ 60 = .bool (((((mk8 s)).getD 2 0) % 2) == 1) | _ => True) [0, 1, 2, 3] [56, 57, 58, 59, 60] hst14 ?_ ?_ ?_
    · exact fun ix _ _ _ _ _ _ hs hb hx h => match ix, h with
      | 0, h | 1, h | 2, h | 3, h | 4, h => (hs _ rfl).symm.trans h
      | _ + 5, _ => trivial
    · refine ⟨⟨⟨⟨⟨trivial, ?_⟩, ?_⟩, ?_⟩, ?_⟩, ?_⟩
      · exact mo rfl
      · exact s4 rfl (fun _ _ _ h => h) fun cx => run_indexSl (e := 3) (m := 2) rfl (by kernel_rfl) (by kernel_rfl) (cx.anc 0 rfl) (cx.sees.const _) (by omega) (by omega) (At.of_own (cx.row (cx.init 1 _ rfl) rfl)) (by simp [mk8_len, curL_len])
      · exact s4 rfl (fun _ _ _ h => h) fun cx => run_load1 rfl (by kernel_rfl) (cx.anc 1 rfl) (At.cellAd (At.of_own (cx.row (cx.init 1 _ rfl) rfl)) (getD_int (by omega)))
      · exact s4 rfl (fun _ _ _ h => h) fun cx => run_rem rfl (cx.anc 2 rfl) (cx.sees.const _) (by decide) (Int.tmod_eq_emod_of_nonneg (by omega))
      · exact s0 rfl fun cx => run_bin rfl (cx.anc 3 rfl) (cx.sees.const _) rfl
    intro σ β X W34 hD hX hst34 fr hfr
    simp only [zM, exq 0 (hX 0 _ rfl), exq 1 (hX 1 _ rfl), exq 2 (hX 2 _ rfl), exq 3 (hX 3 _ rfl)] at hst34
    simp only [zP, ed 56 (hD 0 lq), ed 57 (hD 1 lq), ed 58 (hD 2 lq), ed 59 (hD 3 lq), ed 60 (hD 4 lq)] at hfr
    clear hX hD; subst hfr; clear σ β X
    refine then_normal ?_
    rcases Bool.eq_false_or_eq_true (((((mk8 s)).getD 2 0) % 2) == 1) with hs35 | hs35
    · skip
      have hs35p : ((((mk8 s)).getD 2 0) % 2) = 1 := by simpa using hs35
      refine wp_cond_true (show Act.eval _ _ = .bool true from (congrArg Value.bool hs35)) ?_
      refine wp_region_X [0, 1, 3, 7, 15, 0, 32, 96, 224, 480, 1023, 2047, 4095] [[], [1], [1], [], [], [], [1], [1], [], [], [], [], [3]] [[], [], [], [], [], [], [], [], [], [], [], [], [4]] [[], [], [], [], [], [], [], [], [], [], [], [], [3]] (fun ix σ β X => match ix with | 0 => σ 61 = .slice A6_2 8 8 | 1 => σ 62 = .pointer (some ((ad A6_2).add 2)) | 2 => σ 63 = .int .i64 (((mk8 s)).getD 2 0) | 3 => σ 64 = .int .i64 ((((mk8 s)).getD 2 0) / 2) | 4 => σ 65 = .int .i64 (((((mk8 s)).getD 2 0) / 2) % 400) | 5 => σ 66 = .slice A6_2 8 8 | 6 => σ 67 = .pointer (some ((ad A6_2).add 3)) | 7 => σ 68 = .int .i64 (((mk8 s)).getD 3 0) | 8 => σ 69 = .int .i64 ((((mk8 s)).getD 3 0) / 4) | 9 => σ 70 = .int .i64 (((((mk8 s)).getD 3 0) / 4) % 24) | 10 => σ 71 = .agg #[.int .i64 (((((mk8 s)).getD 2 0) / 2) % 400), .int .i64 (((((mk8 s)).getD 3 0) / 4) % 24)] | 11 => σ 72 = .pointer (some ⟨B5_13, 2, none⟩) | 12 => X 4 = eB B5_13 27 #[.int .i64 (2 + ((((mk8 s)).getD 0 0) % 126)), .int .i64 0, .int .i64 (((((mk8 s)).getD 2 0) / 2) % 400), .int .i64 (((((mk8 s)).getD 3 0) / 4) % 24), .bool (((((mk8 s)).getD 2 0) % 3) == 1), .slice A42_13 rr.length c42_13] | _ => True) [0, 1, 2, 4] [61, 62, 63, 64, 65, 66, 67, 68, 69, 70, 71, 72] hst34 ?_ ?_ ?_
      · exact fun ix _ _ _ _ _ _ hs hb hx h => match ix, h with
        | 0, h | 1, h | 2, h | 3, h | 4, h | 5, h | 6, h | 7, h | 8, h | 9, h | 10, h | 11, h => (hs _ rfl).symm.trans h
        | 12, h => by dsimp only at h ⊢; rw [← hx 4 rfl]; exact h
        | _ + 13, _ => trivial
      · refine ⟨⟨⟨⟨⟨⟨⟨⟨⟨⟨⟨⟨⟨trivial, ?_⟩, ?_⟩, ?_⟩, ?_⟩, ?_⟩, ?_⟩, ?_⟩, ?_⟩, ?_⟩, ?_⟩, ?_⟩, ?_⟩, ?_⟩
        · exact mo rfl
        · exact s4 rfl (fun _ _ _ h => h) fun cx => run_indexSl (e := 3) (m := 2) rfl (by kernel_rfl) (by kernel_rfl) (cx.anc 0 rfl) (cx.sees.const _) (by omega) (by omega) (At.of_own (cx.row (cx.init 1 _ rfl) rfl)) (by simp [mk8_len, curL_len])
        · exact s4 rfl (fun _ _ _ h => h) fun cx => run_load1 rfl (by kernel_rfl) (cx.anc 1 rfl) (At.cellAd (At.of_own (cx.row (cx.init 1 _ rfl) rfl)) (getD_int (by omega)))
        · exact s4 rfl (fun _ _ _ h => h) fun cx => run_quo rfl (cx.anc 2 rfl) (cx.sees.const _) (by decide) (by rw [Int.tdiv_eq_ediv_of_nonneg (by omega)]; exact IntWalk.i64_in _ (by omega))
        · exact s4 rfl (fun _ _ _ h => h) fun cx => run_rem rfl (cx.anc 3 rfl) (cx.sees.const _) (by decide) (Int.tmod_eq_emod_of_nonneg (by omega))
        · exact mo rfl
        · exact s4 rfl (fun _ _ _ h => h) fun cx => run_indexSl (e := 3) (m := 3) rfl (by kernel_rfl) (by kernel_rfl) (cx.anc 5 rfl) (cx.sees.const _) (by omega) (by omega) (At.of_own (cx.row (cx.init 1 _ rfl) rfl)) (by simp [mk8_len, curL_len])
        · exact s4 rfl (fun _ _ _ h => h) fun cx => run_load1 rfl (by kernel_rfl) (cx.anc 6 rfl) (At.cellAd (At.of_own (cx.row (cx.init 1 _ rfl) rfl)) (getD_int (by omega)))
        · exact s4 rfl (fun _ _ _ h => h) fun cx => run_quo rfl (cx.anc 7 rfl) (cx.sees.const _) (by decide) (by rw [Int.tdiv_eq_ediv_of_nonneg (by omega)]; exact IntWalk.i64_in _ (by omega))
        · exact s4 rfl (fun _ _ _ h => h) fun cx => run_rem rfl (cx.anc 8 rfl) (cx.sees.const _) (by decide) (Int.tmod_eq_emod_of_nonneg (by omega))
        · exact sv0 rfl rfl rfl rfl rfl (fun _ _ _ h => h) fun ρ β W X cx => by
            have fF65 : ρ (.tmp 65) = .int .i64 (((((mk8 s)).getD 2 0) / 2) % 400) := (cx.anc 4 rfl)
            have fF70 : ρ (.tmp 70) = .int .i64 (((((mk8 s)).getD 3 0) / 4) % 24) := (cx.anc 9 rfl)
            simp [go_sem, cx.sees.const, fF65, fF70] <;> rfl
        · exact s0 rfl fun cx => run_fieldAddr' (k := 2) (n := 2) rfl (by kernel_rfl) (cx.out 5 rfl) rfl
        · refine sv_any rfl rfl fun ρ β W X cx => ?_
          exact dv_store (n := 2) rfl (cx.anc 11 rfl) (cx.anc 10 rfl) (by kernel_rfl) rfl rfl cx (cx.init 3 _ rfl) rfl (Nat.le_of_ble_eq_true rfl) rfl rfl rfl rfl (fun σ β' X' hs hb hx => hx)
      intro σ β X W36 hD hX hst36 fr hfr
      simp only [zM, exq 0 (hX 0 _ rfl), exq 1 (hX 1 _ rfl), exq 2 (hX 2 _ rfl), exq 4 ((hD 12 lq))] at hst36
      simp only [zP, ed 61 (hD 0 lq), ed 62 (hD 1 lq), ed 63 (hD 2 lq), ed 64 (hD 3 lq), ed 65 (hD 4 lq), ed 66 (hD 5 lq), ed 67 (hD 6 lq), ed 68 (hD 7 lq), ed 69 (hD 8 lq), ed 70 (hD 9 lq), ed 71 (hD 10 lq), ed 72 (hD 11 lq)] at hfr
      clear hX hD; subst hfr; clear σ β X
      refine then_normal ?_
      refine wp_seq ?_
      refine wp_region_X [0, 1] [[3], [0]] [[], [4]] [[], [0]] (fun ix σ β X => match ix with | 0 => σ 73 = .agg #[.int .i64 (2 + ((((mk8 s)).getD 0 0) % 126)), .int .i64 0, .int .i64 (((((mk8 s)).getD 2 0) / 2) % 400), .int .i64 (((((mk8 s)).getD 3 0) / 4) % 24), .bool (((((mk8 s)).getD 2 0) % 3) == 1), .slice A42_13 rr.length c42_13] | 1 => X 4 = eB B2_1 27 #[.int .i64 (2 + ((((mk8 s)).getD 0 0) % 126)), .int .i64 0, .int .i64 (((((mk8 s)).getD 2 0) / 2) % 400), .int .i64 (((((mk8 s)).getD 3 0) / 4) % 24), .bool (((((mk8 s)).getD 2 0) % 3) == 1), .slice A42_13 rr.length c42_13] | _ => True) [1, 2, 3, 4] [73] hst36 ?_ ?_ ?_
      · exact fun ix _ _ _ _ _ _ hs hb hx h => match ix, h with
        | 0, h => (hs _ rfl).symm.trans h
        | 1, h => by dsimp only at h ⊢; rw [← hx 4 rfl]; exact h
        | _ + 2, _ => trivial
      · refine ⟨⟨trivial, ?_⟩, ?_⟩
        · exact s0 rfl fun cx => run_loadB (n := 6) rfl (by kernel_rfl) (by kernel_rfl) (cx.out 5 rfl) (cx.blk (cx.init 3 _ rfl) rfl) (Nat.le_of_ble_eq_true rfl) rfl
        · refine sv_any rfl rfl fun ρ β W X cx => ?_
          exact dv_store (n := 6) rfl (cx.out 2 rfl) (cx.anc 0 rfl) (by kernel_rfl) rfl rfl cx (cx.init 0 _ rfl) rfl (Nat.le_of_ble_eq_true rfl) rfl rfl rfl rfl (fun σ β' X' hs hb hx => hx)
      intro σ β X W37 hD hX hst37 fr hfr
      simp only [zM, exq 1 (hX 1 _ rfl), exq 2 (hX 2 _ rfl), exq 3 (hX 3 _ rfl), exq 4 ((hD 1 lq))] at hst37
      simp only [zP, ed 73 (hD 0 lq)] at hfr
      clear hX hD; subst hfr; clear σ β X
      refine then_normal ?_
      refine wp_ret ?_
      have hr38 : W37.cell? ⟨B2_1, 0, none⟩ = some (.int .i64 (2 + ((((mk8 s)).getD 0 0) % 126))) := (hst37.blk 3 rfl).cell 0
      have hr39 : W37.cell? ⟨B2_1, 1, none⟩ = some (.int .i64 0) := (hst37.blk 3 rfl).cell 1
      have hr40 : W37.cell? ⟨B2_1, 2, none⟩ = some (.int .i64 (((((mk8 s)).getD 2 0) / 2) % 400)) := (hst37.blk 3 rfl).cell 2
      have hr41 : W37.cell? ⟨B2_1, 3, none⟩ = some (.int .i64 (((((mk8 s)).getD 3 0) / 4) % 24)) := (hst37.blk 3 rfl).cell 3
      have hr42 : W37.cell? ⟨B2_1, 4, none⟩ = some (.bool (((((mk8 s)).getD 2 0) % 3) == 1)) := (hst37.blk 3 rfl).cell 4
      have hr43 : W37.cell? ⟨B2_1, 5, none⟩ = some (.slice A42_13 rr.length c42_13) := (hst37.blk 3 rfl).cell 5
      refine bodyPost_ret (v := .agg #[.int .i64 (2 + ((((mk8 s)).getD 0 0) % 126)), .int .i64 0, .int .i64 (((((mk8 s)).getD 2 0) / 2) % 400), .int .i64 (((((mk8 s)).getD 3 0) / 4) % 24), .bool (((((mk8 s)).getD 2 0) % 3) == 1), .slice A42_13 rr.length c42_13]) (by simp [results, Tryd.results14, go_sem, hr38, hr39, hr40, hr41, hr42, hr43]) rfl ?_
      exact VerPost.of rfl (by rw [vmaxF, hs15]; rfl) (by rw [vpgF, hs35]; rfl) (by rw [vslF, hs35]; rfl) rfl hrr (hst37.own' 1 rfl) hst37.ext
    have hs35p : ((((mk8 s)).getD 2 0) % 2) ≠ 1 := by simpa using hs35
    refine wp_cond_false (show Act.eval _ _ = .bool false from (congrArg Value.bool hs35)) ?_
    refine wp_skip ?_
    refine then_normal ?_
    refine wp_seq ?_
    refine wp_region_X [0, 1] [[3], [0]] [[], [4]] [[], [0]] (fun ix σ β X => match ix with | 0 => σ 73 = .agg #[.int .i64 (2 + ((((mk8 s)).getD 0 0) % 126)), .int .i64 0, .int .i64 (-1), .int .i64 0, .bool (((((mk8 s)).getD 2 0) % 3) == 1), .slice A42_13 rr.length c42_13] | 1 => X 4 = eB B2_1 27 #[.int .i64 (2 + ((((mk8 s)).getD 0 0) % 126)), .int .i64 0, .int .i64 (-1), .int .i64 0, .bool (((((mk8 s)).getD 2 0) % 3) == 1), .slice A42_13 rr.length c42_13] | _ => True) [1, 2, 3, 4] [73] hst34 ?_ ?_ ?_
    · exact fun ix _ _ _ _ _ _ hs hb hx h => match ix, h with
      | 0, h => (hs _ rfl).symm.trans h
      | 1, h => by dsimp only at h ⊢; rw [← hx 4 rfl]; exact h
      | _ + 2, _ => trivial
    · refine ⟨⟨trivial, ?_⟩, ?_⟩
      · exact s0 rfl fun cx => run_loadB (n := 6) rfl (by kernel_rfl) (by kernel_rfl) (cx.out 5 rfl) (cx.blk (cx.init 3 _ rfl) rfl) (Nat.le_of_ble_eq_true rfl) rfl
      · refine sv_any rfl rfl fun ρ β W X cx => ?_
        exact dv_store (n := 6) rfl (cx.out 2 rfl) (cx.anc 0 rfl) (by kernel_rfl) rfl rfl cx (cx.init 0 _ rfl) rfl (Nat.le_of_ble_eq_true rfl) rfl rfl rfl rfl (fun σ β' X' hs hb hx => hx)
    intro σ β X W44 hD hX hst44 fr hfr
    simp only [zM, exq 1 (hX 1 _ rfl), exq 2 (hX 2 _ rfl), exq 3 (hX 3 _ rfl), exq 4 ((hD 1 lq))] at hst44
    simp only [zP, ed 73 (hD 0 lq)] at hfr
    clear hX hD; subst hfr; clear σ β X
    refine then_normal ?_
    refine wp_ret ?_
    have hr45 : W44.cell? ⟨B2_1, 0, none⟩ = some (.int .i64 (2 + ((((mk8 s)).getD 0 0) % 126))) := (hst44.blk 3 rfl).cell 0
    have hr46 : W44.cell? ⟨B2_1, 1, none⟩ = some (.int .i64 0) := (hst44.blk 3 rfl).cell 1
    have hr47 : W44.cell? ⟨B2_1, 2, none⟩ = some (.int .i64 (-1)) := (hst44.blk 3 rfl).cell 2
    have hr48 : W44.cell? ⟨B2_1, 3, none⟩ = some (.int .i64 0) := (hst44.blk 3 rfl).cell 3
    have hr49 : W44.cell? ⟨B2_1, 4, none⟩ = some (.bool (((((mk8 s)).getD 2 0) % 3) == 1)) := (hst44.blk 3 rfl).cell 4
    have hr50 : W44.cell? ⟨B2_1, 5, none⟩ = some (.slice A42_13 rr.length c42_13) := (hst44.blk 3 rfl).cell 5
    refine bodyPost_ret (v := .agg #[.int .i64 (2 + ((((mk8 s)).getD 0 0) % 126)), .int .i64 0, .int .i64 (-1), .int .i64 0, .bool (((((mk8 s)).getD 2 0) % 3) == 1), .slice A42_13 rr.length c42_13]) (by simp [results, Tryd.results14, go_sem, hr45, hr46, hr47, hr48, hr49, hr50]) rfl ?_
    exact VerPost.of rfl (by rw [vmaxF, hs15]; rfl) (by rw [vpgF, hs35]; rfl) (by rw [vslF, hs35]; rfl) rfl hrr (hst44.own' 1 rfl) hst44.ext
  have hs7p : ¬ ((k : Int) < 8) := by simpa using hs7
  refine wp_region_X [0, 1, 3, 7, 7, 23, 63, 127] [] [] [] (fun ix σ β X => match ix with | 0 => σ 7 = .int .i64 ((k : Int)) | 1 => σ 8 = .bool (decide ((k : Int) < 8)) | 2 => σ 9 = .bool false | 3 => σ 10 = undef | 4 => σ 11 = undef | 5 => σ 12 = undef | 6 => σ 13 = undef | 7 => σ 14 = .bool false | _ => True) [0, 1] [7, 8, 9, 10, 11, 12, 13, 14] hst4 ?_ ?_ ?_
  · exact fun ix _ _ _ _ _ _ hs hb hx h => match ix, h with
    | 0, h | 1, h | 2, h | 3, h | 4, h | 5, h | 6, h | 7, h => (hs _ rfl).symm.trans h
    | _ + 8, _ => trivial
  · refine ⟨⟨⟨⟨⟨⟨⟨⟨trivial, ?_⟩, ?_⟩, ?_⟩, ?_⟩, ?_⟩, ?_⟩, ?_⟩, ?_⟩
    · exact mo rfl
    · exact s0 rfl fun cx => run_bin rfl (cx.anc 0 rfl) (cx.sees.const _) rfl
    · exact s0 rfl fun cx => run_move' rfl (Eq.trans (cx.anc 1 rfl) (congrArg Value.bool hs7))
    · exact s2 rfl fun cx => (cx.anc 2 rfl)
    · exact s2 rfl fun cx => (cx.anc 2 rfl)
    · exact s2 rfl fun cx => (cx.anc 2 rfl)
    · exact s2 rfl fun cx => (cx.anc 2 rfl)
    · exact s0 rfl fun cx => run_pick_f rfl (cx.anc 2 rfl) (cx.sees.const _)
  intro σ β X W51 hD hX hst51 fr hfr
  simp only [zM, exq 0 (hX 0 _ rfl), exq 1 (hX 1 _ rfl)] at hst51
  simp only [zP, ed 7 (hD 0 lq), ed 8 (hD 1 lq), ed 9 (hD 2 lq), ed 10 (hD 3 lq), ed 11 (hD 4 lq), ed 12 (hD 5 lq), ed 13 (hD 6 lq), ed 14 (hD 7 lq)] at hfr
  clear hX hD; subst hfr; clear σ β X
  refine then_normal ?_
  refine wp_cond_false (show Act.eval _ _ = .bool false from rfl) ?_
  refine wp_exit ?_
  refine then_exit ?_
  refine then_exit ?_
  refine blk_eq ?_
  refine then_normal ?_
  refine wp_seq ?_
  have hm8 := mk8_len s
  have hcur : curL s k = mk8 s := curL_end s k (by omega)
  rw [hcur] at hst51
  have hb0 := mk8_bd s 0
  have hb1 := mk8_bd s 1
  have hb2 := mk8_bd s 2
  have hb3 := mk8_bd s 3
  obtain ⟨rr, hrr⟩ : ∃ z, z = vrowF s := ⟨_, rfl⟩
  have HM := Lib.hid (fun (A : Option Addr) (c : Nat) (w : World) (h : At w A (((mk8 s).drop 4).map (Value.int .i64))) => made02_any ((mk8 s).getD 3 0 % 4) A c ((mk8 s).drop 4) w h (by omega) (by rw [List.length_drop, mk8_len]; omega))
  rw [show ((mk8 s).drop 4).length = 8 - 4 by rw [List.length_drop, mk8_len], show madeR ((mk8 s).getD 3 0 % 4).toNat ((mk8 s).drop 4) = rr from hrr.symm] at HM
  refine wp_region_X [0, 1, 3, 7, 15, 0, 0, 64, 192, 448, 960, 0, 2048, 6144, 14336, 0, 32768, 129024, 262143, 0, 1048575] [[], [1], [1], [], [], [], [], [1], [1], [], [], [], [1], [1], [], [], [], [1], [], [], [3]] [[], [], [], [], [], [], [], [], [], [], [], [], [], [], [], [], [], [2], [], [3], [4]] [[], [], [], [], [], [], [], [], [], [], [], [], [], [], [], [], [], [], [], [], [3]] (fun ix σ β X => match ix with | 0 => σ 25 = .slice A6_2 8 8 | 1 => σ 26 = .pointer (some ((ad A6_2).add 0)) | 2 => σ 27 = .int .i64 (((mk8 s)).getD 0 0) | 3 => σ 28 = .int .i64 ((((mk8 s)).getD 0 0) % 126) | 4 => σ 29 = .int .i64 (2 + ((((mk8 s)).getD 0 0) % 126)) | 5 => σ 30 = .agg #[.int .i64 (-1), .int .i64 0] | 6 => σ 31 = .slice A6_2 8 8 | 7 => σ 32 = .pointer (some ((ad A6_2).add 2)) | 8 => σ 33 = .int .i64 (((mk8 s)).getD 2 0) | 9 => σ 34 = .int .i64 ((((mk8 s)).getD 2 0) % 3) | 10 => σ 35 = .bool (((((mk8 s)).getD 2 0) % 3) == 1) | 11 => σ 36 = .slice A6_2 8 8 | 12 => σ 37 = .pointer (some ((ad A6_2).add 3)) | 13 => σ 38 = .int .i64 (((mk8 s)).getD 3 0) | 14 => σ 39 = .int .i64 ((((mk8 s)).getD 3 0) % 4) | 15 => σ 40 = .slice A6_2 8 8 | 16 => σ 41 = .slice ((if 8 = 4 then A6_2 else A6_2.map (·.add (4 * 1)))) ((8 - 4)) ((8 - 4)) | 17 => σ 42 = .slice (sA (β 42)) rr.length (sC (β 42)) ∧ X 2 = eO 103 3 (.slice (sA (β 42)) rr.length (sC (β 42))) rr.length (flatR rr) | 18 => σ 43 = .agg #[.int .i64 (2 + ((((mk8 s)).getD 0 0) % 126)), .int .i64 0, .int .i64 (-1), .int .i64 0, .bool (((((mk8 s)).getD 2 0) % 3) == 1), .slice (sA (β 42)) rr.length (sC (β 42))] | 19 => σ 5 = .pointer (some ⟨(pb (β 5)), 0, none⟩) ∧ X 3 = eB (pb (β 5)) 27 #[.int .i64 0, .int .i64 0, .int .i64 0, .int .i64 0, .bool false, .slice none 0 0] | 20 => X 4 = eB (pb (β 5)) 27 #[.int .i64 (2 + ((((mk8 s)).getD 0 0) % 126)), .int .i64 0, .int .i64 (-1), .int .i64 0, .bool (((((mk8 s)).getD 2 0) % 3) == 1), .slice (sA (β 42)) rr.length (sC (β 42))] | _ => True) [0, 1, 2, 4] [25, 26, 27, 28, 29, 30, 31, 32, 33, 34, 35, 36, 37, 38, 39, 40, 41, 42, 43, 5] hst51 ?_ ?_ ?_
  · exact fun ix _ _ _ _ _ _ hs hb hx h => match ix, h with
    | 0, h | 1, h | 2, h | 3, h | 4, h | 5, h | 6, h | 7, h | 8, h | 9, h | 10, h | 11, h | 12, h | 13, h | 14, h | 15, h | 16, h => (hs _ rfl).symm.trans h
    | 17, h => by dsimp only at h ⊢; rw [← hs 42 rfl, ← hb 42 rfl, ← hx 2 rfl]; exact h
    | 18, h => by dsimp only at h ⊢; rw [← hs 43 rfl, ← hb 42 rfl]; exact h
    | 19, h => by dsimp only at h ⊢; rw [← hs 5 rfl, ← hb 5 rfl, ← hx 3 rfl]; exact h
    | 20, h => by dsimp only at h ⊢; rw [← hb 5 rfl, ← hb 42 rfl, ← hx 4 rfl]; exact h
    | _ + 21, _ => trivial
  · refine ⟨⟨⟨⟨⟨⟨⟨⟨⟨⟨⟨⟨⟨⟨⟨⟨⟨⟨⟨⟨⟨trivial, ?_⟩, ?_⟩, ?_⟩, ?_⟩, ?_⟩, ?_⟩, ?_⟩, ?_⟩, ?_⟩, ?_⟩, ?_⟩, ?_⟩, ?_⟩, ?_⟩, ?_⟩, ?_⟩, ?_⟩, ?_⟩, ?_⟩, ?_⟩, ?_⟩
    · exact mo rfl
    · exact s4 rfl (fun _ _ _ h => h) fun cx => run_indexSl (e := 3) (m := 0) rfl (by kernel_rfl) (by kernel_rfl) (cx.anc 0 rfl) (cx.sees.const _) (by omega) (by omega) (At.of_own (cx.row (cx.init 1 _ rfl) rfl)) (by simp [mk8_len, curL_len])
    · exact s4 rfl (fun _ _ _ h => h) fun cx => run_load1 rfl (by kernel_rfl) (cx.anc 1 rfl) (At.cellAd (At.of_own (cx.row (cx.init 1 _ rfl) rfl)) (getD_int (by omega)))
    · exact s4 rfl (fun _ _ _ h => h) fun cx => run_rem rfl (cx.anc 2 rfl) (cx.sees.const _) (by decide) (Int.tmod_eq_emod_of_nonneg (by omega))
    · exact s4 rfl (fun _ _ _ h => h) fun cx => run_bin rfl (cx.sees.const _) (cx.anc 3 rfl) (congrArg (fun z => some (Value.int .i64 z)) ((IntWalk.i64_in _ (by omega)).trans (by omega)))
    · exact s0 rfl fun cx => by
        simp [go_sem, cx.sees.const] <;> rfl
    · exact mo rfl
    · exact s4 rfl (fun _ _ _ h => h) fun cx => run_indexSl (e := 3) (m := 2) rfl (by kernel_rfl) (by kernel_rfl) (cx.anc 6 rfl) (cx.sees.const _) (by omega) (by omega) (At.of_own (cx.row (cx.init 1 _ rfl) rfl)) (by simp [mk8_len, curL_len])
    · exact s4 rfl (fun _ _ _ h => h) fun cx => run_load1 rfl (by kernel_rfl) (cx.anc 7 rfl) (At.cellAd (At.of_own (cx.row (cx.init 1 _ rfl) rfl)) (getD_int (by omega)))
    · exact s4 rfl (fun _ _ _ h => h) fun cx => run_rem rfl (cx.anc 8 rfl) (cx.sees.const _) (by decide) (Int.tmod_eq_emod_of_nonneg (by omega))
    · exact s0 rfl fun cx => run_bin rfl (cx.anc 9 rfl) (cx.sees.const _) rfl
    · exact mo rfl
    · exact s4 rfl (fun _ _ _ h => h) fun cx => run_indexSl (e := 3) (m := 3) rfl (by kernel_rfl) (by kernel_rfl) (cx.anc 11 rfl) (cx.sees.const _) (by omega) (by omega) (At.of_own (cx.row (cx.init 1 _ rfl) rfl)) (by simp [mk8_len, curL_len])
    · exact s4 rfl (fun _ _ _ h => h) fun cx => run_load1 rfl (by kernel_rfl) (cx.anc 12 rfl) (At.cellAd (At.of_own (cx.row (cx.init 1 _ rfl) rfl)) (getD_int (by omega)))
    · exact s4 rfl (fun _ _ _ h => h) fun cx => run_rem rfl (cx.anc 13 rfl) (cx.sees.const _) (by decide) (Int.tmod_eq_emod_of_nonneg (by omega))
    · exact mo rfl
    · exact s4 rfl (fun _ _ _ h => h) fun cx => run_sliceL_lo (e := 3) (sz := 1) (l := 4) rfl (by kernel_rfl) (by kernel_rfl) (cx.anc 15 rfl) (cx.sees.const _) (by omega) (by omega)
    · refine sv_any rfl rfl fun ρ β W X cx => ?_
      refine DoesU.call (run_callF (args := #[.int .i64 ((((mk8 s)).getD 3 0) % 4), .slice ((if 8 = 4 then A6_2 else A6_2.map (·.add (4 * 1)))) ((8 - 4)) ((8 - 4))]) rfl cx.sees rfl (by kernel_rfl) (map2 (cx.anc 14 rfl) (cx.anc 16 rfl))) ?_
      refine (HM.out _ _ _ (At.drop8 (At.of_own (cx.row (cx.init 1 _ rfl) rfl)))).mono ?_
      rintro e W1 ⟨A4, c4, rfl, ho, hx⟩
      refine ⟨_, rfl, post_call [eO 103 3 (.slice A4 rr.length c4) rr.length (flatR rr)] rfl rfl hx (one_new (eO_new ho)) (List.pairwise_singleton _ _) (fun σ β' X' hs hb hv hN => ?_)⟩
      have hv1 := (hv 42 rfl).1; have hv2 := (hv 42 rfl).2
      exact ⟨hv1.trans (by rw [hv2]; rfl), (by rw [hv2]; exact (List.cons.inj hN).1)⟩
    · exact sv rfl rfl rfl rfl rfl _ (fun _ _ _ h => h) (fun β β' h => by rw [h 42 (by decide)]) fun ρ β W X cx => by
        have fF29 : ρ (.tmp 29) = .int .i64 (2 + ((((mk8 s)).getD 0 0) % 126)) := (cx.anc 4 rfl)
        have fF30 : ρ (.tmp 30) = .agg #[.int .i64 (-1), .int .i64 0] := (cx.anc 5 rfl)
        have fF35 : ρ (.tmp 35) = .bool (((((mk8 s)).getD 2 0) % 3) == 1) := (cx.anc 10 rfl)
        have fF42 : ρ (.tmp 42) = .slice (sA (β 42)) rr.length (sC (β 42)) := (cx.anc 17 rfl).1
        simp [go_sem, cx.sees.const, fF29, fF30, fF35, fF42] <;> rfl
    · refine sv_any rfl rfl fun ρ β W X cx => ?_
      exact dv_alloc (cs := #[.int .i64 0, .int .i64 0, .int .i64 0, .int .i64 0, .bool false, .slice none 0 0]) rfl (by kernel_rfl) rfl rfl (fun σ β' X' hs hb hv hx => ⟨hv, hx⟩)
    · refine sv_any rfl rfl fun ρ β W X cx => ?_
      exact dv_store (n := 6) rfl (cx.anc 19 rfl).1 (cx.anc 18 rfl) (by kernel_rfl) rfl rfl cx (cx.anc 19 rfl).2 rfl (Nat.le_of_ble_eq_true rfl) rfl rfl rfl rfl (fun σ β' X' hs hb hx => by rw [hb 5, hb 42]; exact hx)
  intro σ β X W52 hD hX hst52 fr hfr
  obtain ⟨A42_52, hu_A42_52⟩ : ∃ z, sA (β 42) = z := ⟨_, rfl⟩
  obtain ⟨c42_52, hu_c42_52⟩ : ∃ z, sC (β 42) = z := ⟨_, rfl⟩
  obtain ⟨B5_52, hu_B5_52⟩ : ∃ z, pb (β 5) = z := ⟨_, rfl⟩
  simp only [zM, exq 0 (hX 0 _ rfl), exq 1 (hX 1 _ rfl), exq 2 ((hD 17 lq).2), exq 4 ((hD 20 lq)), hu_A42_52, hu_c42_52, hu_B5_52] at hst52
  simp only [zP, ed 25 (hD 0 lq), ed 26 (hD 1 lq), ed 27 (hD 2 lq), ed 28 (hD 3 lq), ed 29 (hD 4 lq), ed 30 (hD 5 lq), ed 31 (hD 6 lq), ed 32 (hD 7 lq), ed 33 (hD 8 lq), ed 34 (hD 9 lq), ed 35 (hD 10 lq), ed 36 (hD 11 lq), ed 37 (hD 12 lq), ed 38 (hD 13 lq), ed 39 (hD 14 lq), ed 40 (hD 15 lq), ed 41 (hD 16 lq), ed 42 ((hD 17 lq).1), ed 43 (hD 18 lq), ed 5 ((hD 19 lq).1), hu_A42_52, hu_c42_52, hu_B5_52] at hfr
  clear hX hD hu_A42_52 hu_c42_52 hu_B5_52; subst hfr; clear σ β X
  refine then_normal ?_
  refine wp_seq ?_
  refine wp_seq ?_
  refine wp_region_X [0, 1, 3, 7, 15] [[], [1], [1]] [] [] (fun ix σ β X => match ix with | 0 => σ 44 = .slice A6_2 8 8 | 1 => σ 45 = .pointer (some ((ad A6_2).add 1)) | 2 => σ 46 = .int .i64 (((mk8 s)).getD 1 0) | 3 => σ 47 = .int .i64 ((((mk8 s)).getD 1 0) % 3) | 4 => σ 48 = .bool (decide (0 < (((mk8 s)).getD 1 0) % 3)) | _ => True) [0, 1, 2, 3] [44, 45, 46, 47, 48] hst52 ?_ ?_ ?_
  · exact fun ix _ _ _ _ _ _ hs hb hx h => match ix, h with
    | 0, h | 1, h | 2, h | 3, h | 4, h => (hs _ rfl).symm.trans h
    | _ + 5, _ => trivial
  · refine ⟨⟨⟨⟨⟨trivial, ?_⟩, ?_⟩, ?_⟩, ?_⟩, ?_⟩
    · exact mo rfl
    · exact s4 rfl (fun _ _ _ h => h) fun cx => run_indexSl (e := 3) (m := 1) rfl (by kernel_rfl) (by kernel_rfl) (cx.anc 0 rfl) (cx.sees.const _) (by omega) (by omega) (At.of_own (cx.row (cx.init 1 _ rfl) rfl)) (by simp [mk8_len, curL_len])
    · exact s4 rfl (fun _ _ _ h => h) fun cx => run_load1 rfl (by kernel_rfl) (cx.anc 1 rfl) (At.cellAd (At.of_own (cx.row (cx.init 1 _ rfl) rfl)) (getD_int (by omega)))
    · exact s4 rfl (fun _ _ _ h => h) fun cx => run_rem rfl (cx.anc 2 rfl) (cx.sees.const _) (by decide) (Int.tmod_eq_emod_of_nonneg (by omega))
    · exact s0 rfl fun cx => run_bin rfl (cx.anc 3 rfl) (cx.sees.const _) rfl
  intro σ β X W53 hD hX hst53 fr hfr
  simp only [zM, exq 0 (hX 0 _ rfl), exq 1 (hX 1 _ rfl), exq 2 (hX 2 _ rfl), exq 3 (hX 3 _ rfl)] at hst53
  simp only [zP, ed 44 (hD 0 lq), ed 45 (hD 1 lq), ed 46 (hD 2 lq), ed 47 (hD 3 lq), ed 48 (hD 4 lq)] at hfr
  clear hX hD; subst hfr; clear σ β X
  refine then_normal ?_
  rcases Bool.eq_false_or_eq_true (decide (0 < (((mk8 s)).getD 1 0) % 3)) with hs54 | hs54
  · skip
    have hs54p : 0 < (((mk8 s)).getD 1 0) % 3 := by simpa using hs54
    refine wp_cond_true (show Act.eval _ _ = .bool true from (congrArg Value.bool hs54)) ?_
    refine wp_region_X [0, 1, 3, 7, 15, 31, 63, 127] [[], [1], [1], [], [], [], [], [3]] [[], [], [], [], [], [], [], [4]] [[], [], [], [], [], [], [], [3]] (fun ix σ β X => match ix with | 0 => σ 49 = .slice A6_2 8 8 | 1 => σ 50 = .pointer (some ((ad A6_2).add 1)) | 2 => σ 51 = .int .i64 (((mk8 s)).getD 1 0) | 3 => σ 52 = .int .i64 ((((mk8 s)).getD 1 0) / 3) | 4 => σ 53 = .int .i64 (((((mk8 s)).getD 1 0) / 3) % 125) | 5 => σ 54 = .int .i64 (3 + (((((mk8 s)).getD 1 0) / 3) % 125)) | 6 => σ 55 = .pointer (some ⟨B5_52, 1, none⟩) | 7 => X 4 = eB B5_52 27 #[.int .i64 (2 + ((((mk8 s)).getD 0 0) % 126)), .int .i64 (3 + (((((mk8 s)).getD 1 0) / 3) % 125)), .int .i64 (-1), .int .i64 0, .bool (((((mk8 s)).getD 2 0) % 3) == 1), .slice A42_52 rr.length c42_52] | _ => True) [0, 1, 2, 4] [49, 50, 51, 52, 53, 54, 55] hst53 ?_ ?_ ?_
    · exact fun ix _ _ _ _ _ _ hs hb hx h => match ix, h with
      | 0, h | 1, h | 2, h | 3, h | 4, h | 5, h | 6, h => (hs _ rfl).symm.trans h
      | 7, h => by dsimp only at h ⊢; rw [← hx 4 rfl]; exact h
      | _ + 8, _ => trivial
    · refine ⟨⟨⟨⟨⟨⟨⟨⟨trivial, ?_⟩, ?_⟩, ?_⟩, ?_⟩, ?_⟩, ?_⟩, ?_⟩, ?_⟩
      · exact mo rfl
      · exact s4 rfl (fun _ _ _ h => h) fun cx => run_indexSl (e := 3) (m := 1) rfl (by kernel_rfl) (by kernel_rfl) (cx.anc 0 rfl) (cx.sees.const _) (by omega) (by omega) (At.of_own (cx.row (cx.init 1 _ rfl) rfl)) (by simp [mk8_len, curL_len])
      · exact s4 rfl (fun _ _ _ h => h) fun cx => run_load1 rfl (by kernel_rfl) (cx.anc 1 rfl) (At.cellAd (At.of_own (cx.row (cx.init 1 _ rfl) rfl)) (getD_int (by omega)))
      · exact s4 rfl (fun _ _ _ h => h) fun cx => run_quo rfl (cx.anc 2 rfl) (cx.sees.const _) (by decide) (by rw [Int.tdiv_eq_ediv_of_nonneg (by omega)]; exact IntWalk.i64_in _ (by omega))
      · exact s4 rfl (fun _ _ _ h => h) fun cx => run_rem rfl (cx.anc 3 rfl) (cx.sees.const _) (by decide) (Int.tmod_eq_emod_of_nonneg (by omega))
      · exact s4 rfl (fun _ _ _ h => h) fun cx => run_bin rfl (cx.sees.const _) (cx.anc 4 rfl) (congrArg (fun z => some (Value.int .i64 z)) ((IntWalk.i64_in _ (by omega)).trans (by omega)))
      · exact s0 rfl fun cx => run_fieldAddr' (k := 1) (n := 1) rfl (by kernel_rfl) (cx.out 5 rfl) rfl
      · refine sv_any rfl rfl fun ρ β W X cx => ?_
        exact dv_store (n := 1) rfl (cx.anc 6 rfl) (cx.anc 5 rfl) (by kernel_rfl) rfl rfl cx (cx.init 3 _ rfl) rfl (Nat.le_of_ble_eq_true rfl) rfl rfl rfl rfl (fun σ β' X' hs hb hx => hx)
    intro σ β X W55 hD hX hst55 fr hfr
    simp only [zM, exq 0 (hX 0 _ rfl), exq 1 (hX 1 _ rfl), exq 2 (hX 2 _ rfl), exq 4 ((hD 7 lq))] at hst55
    simp only [zP, ed 49 (hD 0 lq), ed 50 (hD 1 lq), ed 51 (hD 2 lq), ed 52 (hD 3 lq), ed 53 (hD 4 lq), ed 54 (hD 5 lq), ed 55 (hD 6 lq)] at hfr
    clear hX hD; subst hfr; clear σ β X
    refine then_normal ?_
    refine wp_seq ?_
    refine wp_seq ?_
    refine wp_region_X [0, 1, 3, 7, 15] [[], [1], [1]] [] [] (fun ix σ β X => match ix with | 0 => σ 56 = .slice A6_2 8 8 | 1 => σ 57 = .pointer (some ((ad A6_2).add 2)) | 2 => σ 58 = .int .i64 (((mk8 s)).getD 2 0) | 3 => σ 59 = .int .i64 ((((mk8 s)).getD 2 0) % 2) | 4 => σ 60 = .bool (((((mk8 s)).getD 2 0) % 2) == 1) | _ => True) [0, 1, 2, 3] [56, 57, 58, 59, 60] hst55 ?_ ?_ ?_
    · exact fun ix _ _ _ _ _ _ hs hb hx h => match ix, h with
      | 0, h | 1, h | 2, h | 3, h | 4, h => (hs _ rfl).symm.trans h
      | _ + 5, _ => trivial
    · refine ⟨⟨⟨⟨⟨trivial, ?_⟩, ?_⟩, ?_⟩, ?_⟩, ?_⟩
      · exact mo rfl
      · exact s4 rfl (fun _ _ _ h => h) fun cx => run_indexSl (e := 3) (m := 2) rfl (by kernel_rfl) (by kernel_rfl) (cx.anc 0 rfl) (cx.sees.const _) (by omega) (by omega) (At.of_own (cx.row (cx.init 1 _ rfl) rfl)) (by simp [mk8_len, curL_len])
      · exact s4 rfl (fun _ _ _ h => h) fun cx => run_load1 rfl (by kernel_rfl) (cx.anc 1 rfl) (At.cellAd (At.of_own (cx.row (cx.init 1 _ rfl) rfl)) (getD_int (by omega)))
      · exact s4 rfl (fun _ _ _ h => h) fun cx => run_rem rfl (cx.anc 2 rfl) (cx.sees.const _) (by decide) (Int.tmod_eq_emod_of_nonneg (by omega))
      · exact s0 rfl fun cx => run_bin rfl (cx.anc 3 rfl) (cx.sees.const _) rfl
    intro σ β X W56 hD hX hst56 fr hfr
    simp only [zM, exq 0 (hX 0 _ rfl), exq 1 (hX 1 _ rfl), exq 2 (hX 2 _ rfl), exq 3 (hX 3 _ rfl)] at hst56
    simp only [zP, ed 56 (hD 0 lq), ed 57 (hD 1 lq), ed 58 (hD 2 lq), ed 59 (hD 3 lq), ed 60 (hD 4 lq)] at hfr
    clear hX hD; subst hfr; clear σ β X
    refine then_normal ?_
    rcases Bool.eq_false_or_eq_true (((((mk8 s)).getD 2 0) % 2) == 1) with hs57 | hs57
    · skip
      have hs57p : ((((mk8 s)).getD 2 0) % 2) = 1 := by simpa using hs57
      refine wp_cond_true (show Act.eval _ _ = .bool true from (congrArg Value.bool hs57)) ?_
      refine wp_region_X [0, 1, 3, 7, 15, 0, 32, 96, 224, 480, 1023, 2047, 4095] [[], [1], [1], [], [], [], [1], [1], [], [], [], [], [3]] [[], [], [], [], [], [], [], [], [], [], [], [], [4]] [[], [], [], [], [], [], [], [], [], [], [], [], [3]] (fun ix σ β X => match ix with | 0 => σ 61 = .slice A6_2 8 8 | 1 => σ 62 = .pointer (some ((ad A6_2).add 2)) | 2 => σ 63 = .int .i64 (((mk8 s)).getD 2 0) | 3 => σ 64 = .int .i64 ((((mk8 s)).getD 2 0) / 2) | 4 => σ 65 = .int .i64 (((((mk8 s)).getD 2 0) / 2) % 400) | 5 => σ 66 = .slice A6_2 8 8 | 6 => σ 67 = .pointer (some ((ad A6_2).add 3)) | 7 => σ 68 = .int .i64 (((mk8 s)).getD 3 0) | 8 => σ 69 = .int .i64 ((((mk8 s)).getD 3 0) / 4) | 9 => σ 70 = .int .i64 (((((mk8 s)).getD 3 0) / 4) % 24) | 10 => σ 71 = .agg #[.int .i64 (((((mk8 s)).getD 2 0) / 2) % 400), .int .i64 (((((mk8 s)).getD 3 0) / 4) % 24)] | 11 => σ 72 = .pointer (some ⟨B5_52, 2, none⟩) | 12 => X 4 = eB B5_52 27 #[.int .i64 (2 + ((((mk8 s)).getD 0 0) % 126)), .int .i64 (3 + (((((mk8 s)).getD 1 0) / 3) % 125)), .int .i64 (((((mk8 s)).getD 2 0) / 2) % 400), .int .i64 (((((mk8 s)).getD 3 0) / 4) % 24), .bool (((((mk8 s)).getD 2 0) % 3) == 1), .slice A42_52 rr.length c42_52] | _ => True) [0, 1, 2, 4] [61, 62, 63, 64, 65, 66, 67, 68, 69, 70, 71, 72] hst56 ?_ ?_ ?_
      · exact fun ix _ _ _ _ _ _ hs hb hx h => match ix, h with
        | 0, h | 1, h | 2, h | 3, h | 4, h | 5, h | 6, h | 7, h | 8, h | 9, h | 10, h | 11, h => (hs _ rfl).symm.trans h
        | 12, h => by dsimp only at h ⊢; rw [← hx 4 rfl]; exact h
        | _ + 13, _ => trivial
      · refine ⟨⟨⟨⟨⟨⟨⟨⟨⟨⟨⟨⟨⟨trivial, ?_⟩, ?_⟩, ?_⟩, ?_⟩, ?_⟩, ?_⟩, ?_⟩, ?_⟩, ?_⟩, ?_⟩, ?_⟩, ?_⟩, ?_⟩
        · exact mo rfl
        · exact s4 rfl (fun _ _ _ h => h) fun cx => run_indexSl (e := 3) (m := 2) rfl (by kernel_rfl) (by kernel_rfl) (cx.anc 0 rfl) (cx.sees.const _) (by omega) (by omega) (At.of_own (cx.row (cx.init 1 _ rfl) rfl)) (by simp [mk8_len, curL_len])
        · exact s4 rfl (fun _ _ _ h => h) fun cx => run_load1 rfl (by kernel_rfl) (cx.anc 1 rfl) (At.cellAd (At.of_own (cx.row (cx.init 1 _ rfl) rfl)) (getD_int (by omega)))
        · exact s4 rfl (fun _ _ _ h => h) fun cx => run_quo rfl (cx.anc 2 rfl) (cx.sees.const _) (by decide) (by rw [Int.tdiv_eq_ediv_of_nonneg (by omega)]; exact IntWalk.i64_in _ (by omega))
        · exact s4 rfl (fun _ _ _ h => h) fun cx => run_rem rfl (cx.anc 3 rfl) (cx.sees.const _) (by decide) (Int.tmod_eq_emod_of_nonneg (by omega))
        · exact mo rfl
        · exact s4 rfl (fun _ _ _ h => h) fun cx => run_indexSl (e := 3) (m := 3) rfl (by kernel_rfl) (by kernel_rfl) (cx.anc 5 rfl) (cx.sees.const _) (by omega) (by omega) (At.of_own (cx.row (cx.init 1 _ rfl) rfl)) (by simp [mk8_len, curL_len])
        · exact s4 rfl (fun _ _ _ h => h) fun cx => run_load1 rfl (by kernel_rfl) (cx.anc 6 rfl) (At.cellAd (At.of_own (cx.row (cx.init 1 _ rfl) rfl)) (getD_int (by omega)))
        · exact s4 rfl (fun _ _ _ h => h) fun cx => run_quo rfl (cx.anc 7 rfl) (cx.sees.const _) (by decide) (by rw [Int.tdiv_eq_ediv_of_nonneg (by omega)]; exact IntWalk.i64_in _ (by omega))
        · exact s4 rfl (fun _ _ _ h => h) fun cx => run_rem rfl (cx.anc 8 rfl) (cx.sees.const _) (by decide) (Int.tmod_eq_emod_of_nonneg (by omega))
        · exact sv0 rfl rfl rfl rfl rfl (fun _ _ _ h => h) fun ρ β W X cx => by
            have fF65 : ρ (.tmp 65) = .int .i64 (((((mk8 s)).getD 2 0) / 2) % 400) := (cx.anc 4 rfl)
            have fF70 : ρ (.tmp 70) = .int .i64 (((((mk8 s)).getD 3 0) / 4) % 24) := (cx.anc 9 rfl)
            simp [go_sem, cx.sees.const, fF65, fF70] <;> rfl
        · exact s0 rfl fun cx => run_fieldAddr' (k := 2) (n := 2) rfl (by kernel_rfl) (cx.out 5 rfl) rfl
        · refine sv_any rfl rfl fun ρ β W X cx => ?_
          exact dv_store (n := 2) rfl (cx.anc 11 rfl) (cx.anc 10 rfl) (by kernel_rfl) rfl rfl cx (cx.init 3 _ rfl) rfl (Nat.le_of_ble_eq_true rfl) rfl rfl rfl rfl (fun σ β' X' hs hb hx => hx)
      intro σ β X W58 hD hX hst58 fr hfr
      simp only [zM, exq 0 (hX 0 _ rfl), exq 1 (hX 1 _ rfl), exq 2 (hX 2 _ rfl), exq 4 ((hD 12 lq))] at hst58
      simp only [zP, ed 61 (hD 0 lq), ed 62 (hD 1 lq), ed 63 (hD 2 lq), ed 64 (hD 3 lq), ed 65 (hD 4 lq), ed 66 (hD 5 lq), ed 67 (hD 6 lq), ed 68 (hD 7 lq), ed 69 (hD 8 lq), ed 70 (hD 9 lq), ed 71 (hD 10 lq), ed 72 (hD 11 lq)] at hfr
      clear hX hD; subst hfr; clear σ β X
      refine then_normal ?_
      refine wp_seq ?_
      refine wp_region_X [0, 1] [[3], [0]] [[], [4]] [[], [0]] (fun ix σ β X => match ix with | 0 => σ 73 = .agg #[.int .i64 (2 + ((((mk8 s)).getD 0 0) % 126)), .int .i64 (3 + (((((mk8 s)).getD 1 0) / 3) % 125)), .int .i64 (((((mk8 s)).getD 2 0) / 2) % 400), .int .i64 (((((mk8 s)).getD 3 0) / 4) % 24), .bool (((((mk8 s)).getD 2 0) % 3) == 1), .slice A42_52 rr.length c42_52] | 1 => X 4 = eB B2_1 27 #[.int .i64 (2 + ((((mk8 s)).getD 0 0) % 126)), .int .i64 (3 + (((((mk8 s)).getD 1 0) / 3) % 125)), .int .i64 (((((mk8 s)).getD 2 0) / 2) % 400), .int .i64 (((((mk8 s)).getD 3 0) / 4) % 24), .bool (((((mk8 s)).getD 2 0) % 3) == 1), .slice A42_52 rr.length c42_52] | _ => True) [1, 2, 3, 4] [73] hst58 ?_ ?_ ?_
      · exact fun ix _ _ _ _ _ _ hs hb hx h => match ix, h with
        | 0, h => (hs _ rfl).symm.trans h
        | 1, h => by dsimp only at h ⊢; rw [← hx 4 rfl]; exact h
        | _ + 2, _ => trivial
      · refine ⟨⟨trivial, ?_⟩, ?_⟩
        · exact s0 rfl fun cx => run_loadB (n := 6) rfl (by kernel_rfl) (by kernel_rfl) (cx.out 5 rfl) (cx.blk (cx.init 3 _ rfl) rfl) (Nat.le_of_ble_eq_true rfl) rfl
        · refine sv_any rfl rfl fun ρ β W X cx => ?_
          exact dv_store (n := 6) rfl (cx.out 2 rfl) (cx.anc 0 rfl) (by kernel_rfl) rfl rfl cx (cx.init 0 _ rfl) rfl (Nat.le_of_ble_eq_true rfl) rfl rfl rfl rfl (fun σ β' X' hs hb hx => hx)
      intro σ β X W59 hD hX hst59 fr hfr
      simp only [zM, exq 1 (hX 1 _ rfl), exq 2 (hX 2 _ rfl), exq 3 (hX 3 _ rfl), exq 4 ((hD 1 lq))] at hst59
      simp only [zP, ed 73 (hD 0 lq)] at hfr
      clear hX hD; subst hfr; clear σ β X
      refine then_normal ?_
      refine wp_ret ?_
      have hr60 : W59.cell? ⟨B2_1, 0, none⟩ = some (.int .i64 (2 + ((((mk8 s)).getD 0 0) % 126))) := (hst59.blk 3 rfl).cell 0
      have hr61 : W59.cell? ⟨B2_1, 1, none⟩ = some (.int .i64 (3 + (((((mk8 s)).getD 1 0) / 3) % 125))) := (hst59.blk 3 rfl).cell 1
      have hr62 : W59.cell? ⟨B2_1, 2, none⟩ = some (.int .i64 (((((mk8 s)).getD 2 0) / 2) % 400)) := (hst59.blk 3 rfl).cell 2
      have hr63 : W59.cell? ⟨B2_1, 3, none⟩ = some (.int .i64 (((((mk8 s)).getD 3 0) / 4) % 24)) := (hst59.blk 3 rfl).cell 3
      have hr64 : W59.cell? ⟨B2_1, 4, none⟩ = some (.bool (((((mk8 s)).getD 2 0) % 3) == 1)) := (hst59.blk 3 rfl).cell 4
      have hr65 : W59.cell? ⟨B2_1, 5, none⟩ = some (.slice A42_52 rr.length c42_52) := (hst59.blk 3 rfl).cell 5
      refine bodyPost_ret (v := .agg #[.int .i64 (2 + ((((mk8 s)).getD 0 0) % 126)), .int .i64 (3 + (((((mk8 s)).getD 1 0) / 3) % 125)), .int .i64 (((((mk8 s)).getD 2 0) / 2) % 400), .int .i64 (((((mk8 s)).getD 3 0) / 4) % 24), .bool (((((mk8 s)).getD 2 0) % 3) == 1), .slice A42_52 rr.length c42_52]) (by simp [results, Tryd.results14, go_sem, hr60, hr61, hr62, hr63, hr64, hr65]) rfl ?_
      exact VerPost.of rfl (by rw [vmaxF, hs54]; rfl) (by rw [vpgF, hs57]; rfl) (by rw [vslF, hs57]; rfl) rfl hrr (hst59.own' 1 rfl) hst59.ext
    have hs57p : ((((mk8 s)).getD 2 0) % 2) ≠ 1 := by simpa using hs57
    refine wp_cond_false (show Act.eval _ _ = .bool false from (congrArg Value.bool hs57)) ?_
    refine wp_skip ?_
    refine then_normal ?_
    refine wp_seq ?_
    refine wp_region_X [0, 1] [[3], [0]] [[], [4]] [[], [0]] (fun ix σ β X => match ix with | 0 => σ 73 = .agg #[.int .i64 (2 + ((((mk8 s)).getD 0 0) % 126)), .int .i64 (3 + (((((mk8 s)).getD 1 0) / 3) % 125)), .int .i64 (-1), .int .i64 0, .bool (((((mk8 s)).getD 2 0) % 3) == 1), .slice A42_52 rr.length c42_52] | 1 => X 4 = eB B2_1 27 #[.int .i64 (2 + ((((mk8 s)).getD 0 0) % 126)), .int .i64 (3 + (((((mk8 s)).getD 1 0) / 3) % 125)), .int .i64 (-1), .int .i64 0, .bool (((((mk8 s)).getD 2 0) % 3) == 1), .slice A42_52 rr.length c42_52] | _ => True) [1, 2, 3, 4] [73] hst56 ?_ ?_ ?_
    · exact fun ix _ _ _ _ _ _ hs hb hx h => match ix, h with
      | 0, h => (hs _ rfl).symm.trans h
      | 1, h => by dsimp only at h ⊢; rw [← hx 4 rfl]; exact h
      | _ + 2, _ => trivial
    · refine ⟨⟨trivial, ?_⟩, ?_⟩
      · exact s0 rfl fun cx => run_loadB (n := 6) rfl (by kernel_rfl) (by kernel_rfl) (cx.out 5 rfl) (cx.blk (cx.init 3 _ rfl) rfl) (Nat.le_of_ble_eq_true rfl) rfl
      · refine sv_any rfl rfl fun ρ β W X cx => ?_
        exact dv_store (n := 6) rfl (cx.out 2 rfl) (cx.anc 0 rfl) (by kernel_rfl) rfl rfl cx (cx.init 0 _ rfl) rfl (Nat.le_of_ble_eq_true rfl) rfl rfl rfl rfl (fun σ β' X' hs hb hx => hx)
    intro σ β X W66 hD hX hst66 fr hfr
    simp only [zM, exq 1 (hX 1 _ rfl), exq 2 (hX 2 _ rfl), exq 3 (hX 3 _ rfl), exq 4 ((hD 1 lq))] at hst66
    simp only [zP, ed 73 (hD 0 lq)] at hfr
    clear hX hD; subst hfr; clear σ β X
    refine then_normal ?_
    refine wp_ret ?_
    have hr67 : W66.cell? ⟨B2_1, 0, none⟩ = some (.int .i64 (2 + ((((mk8 s)).getD 0 0) % 126))) := (hst66.blk 3 rfl).cell 0
    have hr68 : W66.cell? ⟨B2_1, 1, none⟩ = some (.int .i64 (3 + (((((mk8 s)).getD 1 0) / 3) % 125))) := (hst66.blk 3 rfl).cell 1
    have hr69 : W66.cell? ⟨B2_1, 2, none⟩ = some (.int .i64 (-1)) := (hst66.blk 3 rfl).cell 2
    have hr70 : W66.cell? ⟨B2_1, 3, none⟩ = some (.int .i64 0) := (hst66.blk 3 rfl).cell 3
    have hr71 : W66.cell? ⟨B2_1, 4, none⟩ = some (.bool (((((mk8 s)).getD 2 0) % 3) == 1)) := (hst66.blk 3 rfl).cell 4
    have hr72 : W66.cell? ⟨B2_1, 5, none⟩ = some (.slice A42_52 rr.length c42_52) := (hst66.blk 3 rfl).cell 5
    refine bodyPost_ret (v := .agg #[.int .i64 (2 + ((((mk8 s)).getD 0 0) % 126)), .int .i64 (3 + (((((mk8 s)).getD 1 0) / 3) % 125)), .int .i64 (-1), .int .i64 0, .bool (((((mk8 s)).getD 2 0) % 3) == 1), .slice A42_52 rr.length c42_52]) (by simp [results, Tryd.results14, go_sem, hr67, hr68, hr69, hr70, hr71, hr72]) rfl ?_
    exact VerPost.of rfl (by rw [vmaxF, hs54]; rfl) (by rw [vpgF, hs57]; rfl) (by rw [vslF, hs57]; rfl) rfl hrr (hst66.own' 1 rfl) hst66.ext
  have hs54p : ¬ (0 < (((mk8 s)).getD 1 0) % 3) := by simpa using hs54
  refine wp_cond_false (show Act.eval _ _ = .bool false from (congrArg Value.bool hs54)) ?_
  refine wp_skip ?_
  refine then_normal ?_
  refine wp_seq ?_
  refine wp_seq ?_
  refine wp_region_X [0, 1, 3, 7, 15] [[], [1], [1]] [] [] (fun ix σ β X => match ix with | 0 => σ 56 = .slice A6_2 8 8 | 1 => σ 57 = .pointer (some ((ad A6_2).add 2)) | 2 => σ 58 = .int .i64 (((mk8 s)).getD 2 0) | 3 => σ 59 = .int .i64 ((((mk8 s)).getD 2 0) % 2) | 4 => σ 60 = .bool (((((mk8 s)).getD 2 0) % 2) == 1) | _ => True) [0, 1, 2, 3] [56, 57, 58, 59, 60] hst53 ?_ ?_ ?_
  · exact fun ix _ _ _ _ _ _ hs hb hx h => match ix, h with
    | 0, h | 1, h | 2, h | 3, h | 4, h => (hs _ rfl).symm.trans h
    | _ + 5, _ => trivial
  · refine ⟨⟨⟨⟨⟨trivial, ?_⟩, ?_⟩, ?_⟩, ?_⟩, ?_⟩
    · exact mo rfl
    · exact s4 rfl (fun _ _ _ h => h) fun cx => run_indexSl (e := 3) (m := 2) rfl (by kernel_rfl) (by kernel_rfl) (cx.anc 0 rfl) (cx.sees.const _) (by omega) (by omega) (At.of_own (cx.row (cx.init 1 _ rfl) rfl)) (by simp [mk8_len, curL_len])
    · exact s4 rfl (fun _ _ _ h => h) fun cx => run_load1 rfl (by kernel_rfl) (cx.anc 1 rfl) (At.cellAd (At.of_own (cx.row (cx.init 1 _ rfl) rfl)) (getD_int (by omega)))
    · exact s4 rfl (fun _ _ _ h => h) fun cx => run_rem rfl (cx.anc 2 rfl) (cx.sees.const _) (by decide) (Int.tmod_eq_emod_of_nonneg (by omega))
    · exact s0 rfl fun cx => run_bin rfl (cx.anc 3 rfl) (cx.sees.const _) rfl
  intro σ β X W73 hD hX hst73 fr hfr
  simp only [zM, exq 0 (hX 0 _ rfl), exq 1 (hX 1 _ rfl), exq 2 (hX 2 _ rfl), exq 3 (hX 3 _ rfl)] at hst73
  simp only [zP, ed 56 (hD 0 lq), ed 57 (hD 1 lq), ed 58 (hD 2 lq), ed 59 (hD 3 lq), ed 60 (hD 4 lq)] at hfr
  clear hX hD; subst hfr; clear σ β X
  refine then_normal ?_
  rcases Bool.eq_false_or_eq_true (((((mk8 s)).getD 2 0) % 2) == 1) with hs74 | hs74
  · skip
    have hs74p : ((((mk8 s)).getD 2 0) % 2) = 1 := by simpa using hs74
    refine wp_cond_true (show Act.eval _ _ = .bool true from (congrArg Value.bool hs74)) ?_
    refine wp_region_X [0, 1, 3, 7, 15, 0, 32, 96, 224, 480, 1023, 2047, 4095] [[], [1], [1], [], [], [], [1], [1], [], [], [], [], [3]] [[], [], [], [], [], [], [], [], [], [], [], [], [4]] [[], [], [], [], [], [], [], [], [], [], [], [], [3]] (fun ix σ β X => match ix with | 0 => σ 61 = .slice A6_2 8 8 | 1 => σ 62 = .pointer (some ((ad A6_2).add 2)) | 2 => σ 63 = .int .i64 (((mk8 s)).getD 2 0) | 3 => σ 64 = .int .i64 ((((mk8 s)).getD 2 0) / 2) | 4 => σ 65 = .int .i64 (((((mk8 s)).getD 2 0) / 2) % 400) | 5 => σ 66 = .slice A6_2 8 8 | 6 => σ 67 = .pointer (some ((ad A6_2).add 3)) | 7 => σ 68 = .int .i64 (((mk8 s)).getD 3 0) | 8 => σ 69 = .int .i64 ((((mk8 s)).getD 3 0) / 4) | 9 => σ 70 = .int .i64 (((((mk8 s)).getD 3 0) / 4) % 24) | 10 => σ 71 = .agg #[.int .i64 (((((mk8 s)).getD 2 0) / 2) % 400), .int .i64 (((((mk8 s)).getD 3 0) / 4) % 24)] | 11 => σ 72 = .pointer (some ⟨B5_52, 2, none⟩) | 12 => X 4 = eB B5_52 27 #[.int .i64 (2 + ((((mk8 s)).getD 0 0) % 126)), .int .i64 0, .int .i64 (((((mk8 s)).getD 2 0) / 2) % 400), .int .i64 (((((mk8 s)).getD 3 0) / 4) % 24), .bool (((((mk8 s)).getD 2 0) % 3) == 1), .slice A42_52 rr.length c42_52] | _ => True) [0, 1, 2, 4] [61, 62, 63, 64, 65, 66, 67, 68, 69, 70, 71, 72] hst73 ?_ ?_ ?_
    · exact fun ix _ _ _ _ _ _ hs hb hx h => match ix, h with
      | 0, h | 1, h | 2, h | 3, h | 4, h | 5, h | 6, h | 7, h | 8, h | 9, h | 10, h | 11, h => (hs _ rfl).symm.trans h
      | 12, h => by dsimp only at h ⊢; rw [← hx 4 rfl]; exact h
      | _ + 13, _ => trivial
    · refine ⟨⟨⟨⟨⟨⟨⟨⟨⟨⟨⟨⟨⟨trivial, ?_⟩, ?_⟩, ?_⟩, ?_⟩, ?_⟩, ?_⟩, ?_⟩, ?_⟩, ?_⟩, ?_⟩, ?_⟩, ?_⟩, ?_⟩
      · exact mo rfl
      · exact s4 rfl (fun _ _ _ h => h) fun cx => run_indexSl (e := 3) (m := 2) rfl (by kernel_rfl) (by kernel_rfl) (cx.anc 0 rfl) (cx.sees.const _) (by omega) (by omega) (At.of_own (cx.row (cx.init 1 _ rfl) rfl)) (by simp [mk8_len, curL_len])
      · exact s4 rfl (fun _ _ _ h => h) fun cx => run_load1 rfl (by kernel_rfl) (cx.anc 1 rfl) (At.cellAd (At.of_own (cx.row (cx.init 1 _ rfl) rfl)) (getD_int (by omega)))
      · exact s4 rfl (fun _ _ _ h => h) fun cx => run_quo rfl (cx.anc 2 rfl) (cx.sees.const _) (by decide) (by rw [Int.tdiv_eq_ediv_of_nonneg (by omega)]; exact IntWalk.i64_in _ (by omega))
      · exact s4 rfl (fun _ _ _ h => h) fun cx => run_rem rfl (cx.anc 3 rfl) (cx.sees.const _) (by decide) (Int.tmod_eq_emod_of_nonneg (by omega))
      · exact mo rfl
      · exact s4 rfl (fun _ _ _ h => h) fun cx => run_indexSl (e := 3) (m := 3) rfl (by kernel_rfl) (by kernel_rfl) (cx.anc 5 rfl) (cx.sees.const _) (by omega) (by omega) (At.of_own (cx.row (cx.init 1 _ rfl) rfl)) (by simp [mk8_len, curL_len])
      · exact s4 rfl (fun _ _ _ h => h) fun cx => run_load1 rfl (by kernel_rfl) (cx.anc 6 rfl) (At.cellAd (At.of_own (cx.row (cx.init 1 _ rfl) rfl)) (getD_int (by omega)))
      · exact s4 rfl (fun _ _ _ h => h) fun cx => run_quo rfl (cx.anc 7 rfl) (cx.sees.const _) (by decide) (by rw [Int.tdiv_eq_ediv_of_nonneg (by omega)]; exact IntWalk.i64_in _ (by omega))
      · exact s4 rfl (fun _ _ _ h => h) fun cx => run_rem rfl (cx.anc 8 rfl) (cx.sees.const _) (by decide) (Int.tmod_eq_emod_of_nonneg (by omega))
      · exact sv0 rfl rfl rfl rfl rfl (fun _ _ _ h => h) fun ρ β W X cx => by
          have fF65 : ρ (.tmp 65) = .int .i64 (((((mk8 s)).getD 2 0) / 2) % 400) := (cx.anc 4 rfl)
          have fF70 : ρ (.tmp 70) = .int .i64 (((((mk8 s)).getD 3 0) / 4) % 24) := (cx.anc 9 rfl)
          simp [go_sem, cx.sees.const, fF65, fF70] <;> rfl
      · exact s0 rfl fun cx => run_fieldAddr' (k := 2) (n := 2) rfl (by kernel_rfl) (cx.out 5 rfl) rfl
      · refine sv_any rfl rfl fun ρ β W X cx => ?_
        exact dv_store (n := 2) rfl (cx.anc 11 rfl) (cx.anc 10 rfl) (by kernel_rfl) rfl rfl cx (cx.init 3 _ rfl) rfl (Nat.le_of_ble_eq_true rfl) rfl rfl rfl rfl (fun σ β' X' hs hb hx => hx)
    intro σ β X W75 hD hX hst75 fr hfr
    simp only [zM, exq 0 (hX 0 _ rfl), exq 1 (hX 1 _ rfl), exq 2 (hX 2 _ rfl), exq 4 ((hD 12 lq))] at hst75
    simp only [zP, ed 61 (hD 0 lq), ed 62 (hD 1 lq), ed 63 (hD 2 lq), ed 64 (hD 3 lq), ed 65 (hD 4 lq), ed 66 (hD 5 lq), ed 67 (hD 6 lq), ed 68 (hD 7 lq), ed 69 (hD 8 lq), ed 70 (hD 9 lq), ed 71 (hD 10 lq), ed 72 (hD 11 lq)] at hfr
    clear hX hD; subst hfr; clear σ β X
    refine then_normal ?_
    refine wp_seq ?_
    refine wp_region_X [0, 1] [[3], [0]] [[], [4]] [[], [0]] (fun ix σ β X => match ix with | 0 => σ 73 = .agg #[.int .i64 (2 + ((((mk8 s)).getD 0 0) % 126)), .int .i64 0, .int .i64 (((((mk8 s)).getD 2 0) / 2) % 400), .int .i64 (((((mk8 s)).getD 3 0) / 4) % 24), .bool (((((mk8 s)).getD 2 0) % 3) == 1), .slice A42_52 rr.length c42_52] | 1 => X 4 = eB B2_1 27 #[.int .i64 (2 + ((((mk8 s)).getD 0 0) % 126)), .int .i64 0, .int .i64 (((((mk8 s)).getD 2 0) / 2) % 400), .int .i64 (((((mk8 s)).getD 3 0) / 4) % 24), .bool (((((mk8 s)).getD 2 0) % 3) == 1), .slice A42_52 rr.length c42_52] | _ => True) [1, 2, 3, 4] [73] hst75 ?_ ?_ ?_
    · exact fun ix _ _ _ _ _ _ hs hb hx h => match ix, h with
      | 0, h => (hs _ rfl).symm.trans h
      | 1, h => by dsimp only at h ⊢; rw [← hx 4 rfl]; exact h
      | _ + 2, _ => trivial
    · refine ⟨⟨trivial, ?_⟩, ?_⟩
      · exact s0 rfl fun cx => run_loadB (n := 6) rfl (by kernel_rfl) (by kernel_rfl) (cx.out 5 rfl) (cx.blk (cx.init 3 _ rfl) rfl) (Nat.le_of_ble_eq_true rfl) rfl
      · refine sv_any rfl rfl fun ρ β W X cx => ?_
        exact dv_store (n := 6) rfl (cx.out 2 rfl) (cx.anc 0 rfl) (by kernel_rfl) rfl rfl cx (cx.init 0 _ rfl) rfl (Nat.le_of_ble_eq_true rfl) rfl rfl rfl rfl (fun σ β' X' hs hb hx => hx)
    intro σ β X W76 hD hX hst76 fr hfr
    simp only [zM, exq 1 (hX 1 _ rfl), exq 2 (hX 2 _ rfl), exq 3 (hX 3 _ rfl), exq 4 ((hD 1 lq))] at hst76
    simp only [zP, ed 73 (hD 0 lq)] at hfr
    clear hX hD; subst hfr; clear σ β X
    refine then_normal ?_
    refine wp_ret ?_
    have hr77 : W76.cell? ⟨B2_1, 0, none⟩ = some (.int .i64 (2 + ((((mk8 s)).getD 0 0) % 126))) := (hst76.blk 3 rfl).cell 0
    have hr78 : W76.cell? ⟨B2_1, 1, none⟩ = some (.int .i64 0) := (hst76.blk 3 rfl).cell 1
    have hr79 : W76.cell? ⟨B2_1, 2, none⟩ = some (.int .i64 (((((mk8 s)).getD 2 0) / 2) % 400)) := (hst76.blk 3 rfl).cell 2
    have hr80 : W76.cell? ⟨B2_1, 3, none⟩ = some (.int .i64 (((((mk8 s)).getD 3 0) / 4) % 24)) := (hst76.blk 3 rfl).cell 3
    have hr81 : W76.cell? ⟨B2_1, 4, none⟩ = some (.bool (((((mk8 s)).getD 2 0) % 3) == 1)) := (hst76.blk 3 rfl).cell 4
    have hr82 : W76.cell? ⟨B2_1, 5, none⟩ = some (.slice A42_52 rr.length c42_52) := (hst76.blk 3 rfl).cell 5
    refine bodyPost_ret (v := .agg #[.int .i64 (2 + ((((mk8 s)).getD 0 0) % 126)), .int .i64 0, .int .i64 (((((mk8 s)).getD 2 0) / 2) % 400), .int .i64 (((((mk8 s)).getD 3 0) / 4) % 24), .bool (((((mk8 s)).getD 2 0) % 3) == 1), .slice A42_52 rr.length c42_52]) (by simp [results, Tryd.results14, go_sem, hr77, hr78, hr79, hr80, hr81, hr82]) rfl ?_
    exact VerPost.of rfl (by rw [vmaxF, hs54]; rfl) (by rw [vpgF, hs74]; rfl) (by rw [vslF, hs74]; rfl) rfl hrr (hst76.own' 1 rfl) hst76.ext
  have hs74p : ((((mk8 s)).getD 2 0) % 2) ≠ 1 := by simpa using hs74
  refine wp_cond_false (show Act.eval _ _ = .bool false from (congrArg Value.bool hs74)) ?_
  refine wp_skip ?_
  refine then_normal ?_
  refine wp_seq ?_
  refine wp_region_X [0, 1] [[3], [0]] [[], [4]] [[], [0]] (fun ix σ β X => match ix with | 0 => σ 73 = .agg #[.int .i64 (2 + ((((mk8 s)).getD 0 0) % 126)), .int .i64 0, .int .i64 (-1), .int .i64 0, .bool (((((mk8 s)).getD 2 0) % 3) == 1), .slice A42_52 rr.length c42_52] | 1 => X 4 = eB B2_1 27 #[.int .i64 (2 + ((((mk8 s)).getD 0 0) % 126)), .int .i64 0, .int .i64 (-1), .int .i64 0, .bool (((((mk8 s)).getD 2 0) % 3) == 1), .slice A42_52 rr.length c42_52] | _ => True) [1, 2, 3, 4] [73] hst73 ?_ ?_ ?_
  · exact fun ix _ _ _ _ _ _ hs hb hx h => match ix, h with
    | 0, h => (hs _ rfl).symm.trans h
    | 1, h => by dsimp only at h ⊢; rw [← hx 4 rfl]; exact h
    | _ + 2, _ => trivial
  · refine ⟨⟨trivial, ?_⟩, ?_⟩
    · exact s0 rfl fun cx => run_loadB (n := 6) rfl (by kernel_rfl) (by kernel_rfl) (cx.out 5 rfl) (cx.blk (cx.init 3 _ rfl) rfl) (Nat.le_of_ble_eq_true rfl) rfl
    · refine sv_any rfl rfl fun ρ β W X cx => ?_
      exact dv_store (n := 6) rfl (cx.out 2 rfl) (cx.anc 0 rfl) (by kernel_rfl) rfl rfl cx (cx.init 0 _ rfl) rfl (Nat.le_of_ble_eq_true rfl) rfl rfl rfl rfl (fun σ β' X' hs hb hx => hx)
  intro σ β X W83 hD hX hst83 fr hfr
  simp only [zM, exq 1 (hX 1 _ rfl), exq 2 (hX 2 _ rfl), exq 3 (hX 3 _ rfl), exq 4 ((hD 1 lq))] at hst83
  simp only [zP, ed 73 (hD 0 lq)] at hfr
  clear hX hD; subst hfr; clear σ β X
  refine then_normal ?_
  refine wp_ret ?_
  have hr84 : W83.cell? ⟨B2_1, 0, none⟩ = some (.int .i64 (2 + ((((mk8 s)).getD 0 0) % 126))) := (hst83.blk 3 rfl).cell 0
  have hr85 : W83.cell? ⟨B2_1, 1, none⟩ = some (.int .i64 0) := (hst83.blk 3 rfl).cell 1
  have hr86 : W83.cell? ⟨B2_1, 2, none⟩ = some (.int .i64 (-1)) := (hst83.blk 3 rfl).cell 2
  have hr87 : W83.cell? ⟨B2_1, 3, none⟩ = some (.int .i64 0) := (hst83.blk 3 rfl).cell 3
  have hr88 : W83.cell? ⟨B2_1, 4, none⟩ = some (.bool (((((mk8 s)).getD 2 0) % 3) == 1)) := (hst83.blk 3 rfl).cell 4
  have hr89 : W83.cell? ⟨B2_1, 5, none⟩ = some (.slice A42_52 rr.length c42_52) := (hst83.blk 3 rfl).cell 5
  refine bodyPost_ret (v := .agg #[.int .i64 (2 + ((((mk8 s)).getD 0 0) % 126)), .int .i64 0, .int .i64 (-1), .int .i64 0, .bool (((((mk8 s)).getD 2 0) % 3) == 1), .slice A42_52 rr.length c42_52]) (by simp [results, Tryd.results14, go_sem, hr84, hr85, hr86, hr87, hr88, hr89]) rfl ?_
  exact VerPost.of rfl (by rw [vmaxF, hs54]; rfl) (by rw [vpgF, hs74]; rfl) (by rw [vslF, hs74]; rfl) rfl hrr (hst83.own' 1 rfl) hst83.ext

end Go.Proofs.YtfjpglohcppjeaaDoor

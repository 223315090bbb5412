/- A version built from integers. -/
import Derived.Test.YtfjpglohcppjeaaDoorT4
namespace Go.Proofs.YtfjpglohcppjeaaDoor
open Go.RowKit
set_option linter.unusedVariables false
set_option linter.unusedSimpArgs false

def curL (s : List Int) (k : Nat) : List Int := (List.range 8).map fun i => if i < k then s.getD i 0 % 65536 else 0
def mk8 (s : List Int) : List Int := (List.range 8).map fun i => s.getD i 0 % 65536
theorem curL_len (s : List Int) (k : Nat) : (curL s k).length = 8 := by simp [curL]
theorem mk8_len (s : List Int) : (mk8 s).length = 8 := by simp [mk8]
theorem curL_0 (s : List Int) : curL s 0 = List.replicate 8 0 := rfl
theorem curL_set (s : List Int) (k : Nat) (h : k < 8) : (curL s k).set k (s.getD k 0 % 65536) = curL s (k + 1) := by
  apply List.ext_getElem
  · simp [curL]
  · intro i h1 h2
    simp only [curL, List.length_set, List.length_map, List.length_range] at h1
    rw [List.getElem_set]
    simp only [curL, List.getElem_map, List.getElem_range]
    by_cases e : k = i
    · subst e; simp
    · rw [if_neg e]
      by_cases h3 : i < k
      · rw [if_pos h3, if_pos (by omega)]
      · rw [if_neg h3, if_neg (by omega)]
theorem curL_end (s : List Int) (k : Nat) (h : 8 ≤ k ∨ s.length ≤ k) : curL s k = mk8 s := by
  apply List.ext_getElem
  · simp [curL, mk8]
  · intro i h1 h2
    simp only [curL, List.length_map, List.length_range] at h1
    simp only [curL, mk8, List.getElem_map, List.getElem_range]
    by_cases h3 : i < k
    · rw [if_pos h3]
    · have h4 : s.getD i 0 = 0 := by simp [show s.length ≤ i by omega]
      rw [if_neg h3, h4]; rfl
theorem mk8_bd (s : List Int) (i : Nat) : 0 ≤ (mk8 s).getD i 0 ∧ (mk8 s).getD i 0 ≤ 65535 := by
  rcases Nat.lt_or_ge i 8 with h | h
  · have e : (mk8 s).getD i 0 = s.getD i 0 % 65536 := by simp [mk8, h]
    rw [e]; omega
  · have e : (mk8 s).getD i 0 = 0 := by simp [mk8, h]
    rw [e]; omega
theorem At.drop8 {w : World} {A : Option Addr} {s : List Int} (h : At w A ((mk8 s).map (Value.int .i64))) : At w (if 8 = 4 then A else A.map (·.add (4 * 1))) (((mk8 s).drop 4).map (Value.int .i64)) := by
  have := h.drop 4 8 (by simp [mk8_len])
  rw [List.map_drop]
  exact this
def vminF (s : List Int) : Int := 2 + (mk8 s).getD 0 0 % 126
def vmaxF (s : List Int) : Int := if decide (0 < (mk8 s).getD 1 0 % 3) = true then 3 + (mk8 s).getD 1 0 / 3 % 125 else 0
def vpgF (s : List Int) : Int := if ((mk8 s).getD 2 0 % 2 == 1) = true then (mk8 s).getD 2 0 / 2 % 400 else -1
def vslF (s : List Int) : Int := if ((mk8 s).getD 2 0 % 2 == 1) = true then (mk8 s).getD 3 0 / 4 % 24 else 0
def vhotF (s : List Int) : Bool := (mk8 s).getD 2 0 % 3 == 1
def vrowF (s : List Int) : List Val := madeR ((mk8 s).getD 3 0 % 4).toNat ((mk8 s).drop 4)
def VerPost (s : List Int) (w : World) (e : Ending) (w' : World) : Prop := ∃ A c, e = .returned (.agg #[.int .i64 (vminF s), .int .i64 (vmaxF s), .int .i64 (vpgF s), .int .i64 (vslF s), .bool (vhotF s), .slice A (vrowF s).length c]) ∧
  w'.ownsRow w.heap.size 103 3 (.slice A (vrowF s).length c) (vrowF s).length (flatR (vrowF s)) ∧ Ext w w'
theorem VerPost.of {s : List Int} {w w' : World} {a b n1 n2 : Int} {ho : Bool} {rr : List Val} {A : Option Addr} {c : Nat} (ha : a = vminF s) (hb : b = vmaxF s) (h1 : n1 = vpgF s) (h2 : n2 = vslF s) (hh : ho = vhotF s) (hr : rr = vrowF s)
    (ho' : w'.ownsRow w.heap.size 103 3 (.slice A rr.length c) rr.length (flatR rr)) (hx : Ext w w') : VerPost s w (.returned (.agg #[.int .i64 a, .int .i64 b, .int .i64 n1, .int .i64 n2, .bool ho, .slice A rr.length c])) w' := by
  subst ha hb h1 h2 hh hr
  exact ⟨A, c, rfl, ho', hx⟩
set_option maxRecDepth 100000 in
set_option maxHeartbeats 2000000 in
theorem made08_any (LA : Option Addr) (lc : Nat) (s : List Int) (w : World) (hA : At w LA (s.map (Value.int .i64))) (hll : s.length ≤ 9223372036854775807) :
    Calls Tryd.prog 14 #[.slice LA s.length lc] w (VerPost s w) := by
  go_enter Tryd.func14, Tryd.ntmps14
  have hst0 := St.start w
  refine wp_seq ?_
  refine wp_region_T [0] [] [[0]] [] [.a 2] (fun ix σ β X => match ix with | 0 => σ 2 = .pointer (some ⟨(pb (β 2)), 0, none⟩) ∧ X 0 = eB (pb (β 2)) 27 #[.int .i64 0, .int .i64 0, .int .i64 0, .int .i64 0, .bool false, .slice none 0 0] | _ => True) [0] [0] [(2, 0, 1, 3)] hst0 ?_ ?_ ?_
  · exact fun ix _ _ _ _ _ _ hs hb hx h => match ix, h with
    | 0, h => by dsimp only at h ⊢; rw [← hs 2 rfl, ← hb 2 rfl, ← hx 0 rfl]; exact h
    | _ + 1, _ => trivial
  · refine ⟨?_, trivial⟩
    · refine sv_any rfl rfl fun ρ β W X cx => ?_
      exact dv_alloc (cs := #[.int .i64 0, .int .i64 0, .int .i64 0, .int .i64 0, .bool false, .slice none 0 0]) rfl (by kernel_rfl) rfl rfl (fun σ β' X' hs hb hv hx => ⟨hv, hx⟩)
  intro σ β X W1 hD hX hst1 fr hfr
  obtain ⟨B2_1, hu_B2_1⟩ : ∃ z, pb (β 2) = z := ⟨_, rfl⟩
  simp only [zM, exq 0 ((dTn (hD 0 lq)).2), hu_B2_1] at hst1
  dsimp only [mgT, vals, List.take, List.drop, List.cons_append, List.nil_append] at hfr
  simp only [ed 2 ((dTn (hD 0 lq)).1), hu_B2_1] at hfr
  clear hX hD hu_B2_1; subst hfr; clear σ β X
  refine then_normal ?_
  refine wp_seq ?_
  refine wp_region_T [0, 1] [] [[1]] [] [.a 6, .a 3] (fun ix σ β X => match ix with | 0 => σ 6 = .slice (sA (β 6)) 8 8 ∧ X 1 = eO 3 1 (.slice (sA (β 6)) 8 8) 8 ((List.replicate 8 (0 : Int)).map (Value.int .i64)) | 1 => σ 3 = .slice (sA (β 6)) 8 8 | _ => True) [0, 1] [0, 1] [(3, 1, 1, 4), (2, 0, 1, 3)] hst1 ?_ ?_ ?_
  · exact fun ix _ _ _ _ _ _ hs hb hx h => match ix, h with
    | 0, h => by dsimp only at h ⊢; rw [← hs 6 rfl, ← hb 6 rfl, ← hx 1 rfl]; exact h
    | 1, h => by dsimp only at h ⊢; rw [← hs 3 rfl, ← hb 6 rfl]; exact h
    | _ + 2, _ => trivial
  · refine ⟨?_, ?_, trivial⟩
    · refine sv_any rfl rfl fun ρ β W X cx => ?_
      obtain ⟨i0, hi0, hz0, hz1, hz2⟩ := info_parts Tryd.infoInt
      exact dv_make (n := 8) rfl (by kernel_rfl) hi0 hz0 hz1 hz2 rfl (cx.sees.const _) (cx.sees.const _) (by omega) (by omega) (by omega) (by omega) rfl rfl (fun σ β' X' hs hb hv hx => ⟨hv, by rw [List.map_replicate]; exact hx⟩)
    · exact sv rfl rfl rfl rfl rfl _ (fun _ _ _ h => h) (fun β β' h => by rw [h 6 (by decide)]) fun ρ β W X cx => run_assign' rfl (dTn (cx.anc 0 rfl)).1
  intro σ β X W2 hD hX hst2 fr hfr
  obtain ⟨A6_2, hu_A6_2⟩ : ∃ z, sA (β 6) = z := ⟨_, rfl⟩
  simp only [zM, exq 0 (hX 0 _ rfl), exq 1 ((dTn (hD 0 lq)).2), hu_A6_2] at hst2
  dsimp only [mgT, vals, List.take, List.drop, List.cons_append, List.nil_append] at hfr
  simp only [ed 6 ((dTn (hD 0 lq)).1), ed 3 ((dTn (hD 1 lq))), hu_A6_2] at hfr
  clear hX hD hu_A6_2; subst hfr; clear σ β X
  refine then_normal ?_
  refine wp_seq ?_
  refine wp_seq ?_
  refine wp_region_P [0] [.k 4 (.int .i64 0)] [(4, 0, 1, 5)] hst2 fun W3 hst3 => ?_
  refine then_normal ?_
  refine wp_block ?_
  refine wp_loopN (fun mz az W => ∃ k : Nat, ∃ u4_ : List Value, k ≤ 8 ∧ mz = 8 - k ∧ az = ⟨#[.slice LA s.length lc, undef, .pointer (some ⟨B2_1, 0, none⟩), .slice A6_2 8 8, .int .i64 ((k : Int)), undef, .slice A6_2 8 8, (u4_.getD 0 undef), (u4_.getD 1 undef), (u4_.getD 2 undef), (u4_.getD 3 undef), (u4_.getD 4 undef), (u4_.getD 5 undef), (u4_.getD 6 undef), (u4_.getD 7 undef), (u4_.getD 8 undef), (u4_.getD 9 undef), (u4_.getD 10 undef), (u4_.getD 11 undef), (u4_.getD 12 undef), (u4_.getD 13 undef), (u4_.getD 14 undef), (u4_.getD 15 undef), (u4_.getD 16 undef), (u4_.getD 17 undef), undef, undef, undef, undef, undef, undef, undef, undef, undef, undef, undef, undef, undef, undef, undef, undef, undef, undef, undef, undef, undef, undef, undef, undef, undef, undef, undef, undef, undef, undef, undef, undef, undef, undef, undef, undef, undef, undef, undef, undef, undef, undef, undef, undef, undef, undef, undef, undef, undef], []⟩ ∧ St w [] [eB B2_1 27 #[.int .i64 0, .int .i64 0, .int .i64 0, .int .i64 0, .bool false, .slice none 0 0], eO 3 1 (.slice A6_2 8 8) 8 ((curL s k).map (Value.int .i64))] W) (8 - 0) ?_ ?_
  · -- the loop begins
    have hp5 := hst3.pick [0, 1] (by decide) rfl
    exact ⟨0, [undef, undef, undef, undef, undef, undef, undef, undef, undef, undef, undef, undef, undef, undef, undef, undef, undef, undef], by omega, rfl, rfl, hp5⟩
  rintro n4 a4 W4 ⟨k, u4_, hk8, rfl, rfl, hst4⟩
  refine wp_seq ?_
  refine wp_seq ?_
  refine wp_region_P [0, 1, 3, 7, 7, 23, 63, 127] [.k 7 (.int .i64 ((k : Int))), .k 8 (.bool (decide ((k : Int) < 8))), .k 9 (.bool (decide ((k : Int) < 8))), .z 10 (decide ((k : Int) < 8)) (.int .i64 ((k : Int))), .z 11 (decide ((k : Int) < 8)) (.slice LA s.length lc), .z 12 (decide ((k : Int) < 8)) (.int .i64 ((s.length : Int))), .z 13 (decide ((k : Int) < 8)) (.bool (decide ((k : Int) < (s.length : Int)))), tA 14 (decide ((k : Int) < 8)) (decide ((k : Int) < (s.length : Int)))] [(7, 0, 8, 15)] hst4 fun W6 hst6 => ?_
  refine then_normal ?_
  rcases Bool.eq_false_or_eq_true ((decide ((k : Int) < 8)) && (decide ((k : Int) < (s.length : Int)))) with hs7 | hs7
  · skip
    have hs7p := hs7
    simp only [zB] at hs7p
    obtain ⟨hs7p1, hs7p2⟩ := hs7p
    refine wp_cond_true (show Act.eval _ _ = .bool true from (congrArg Value.bool hs7)) ?_
    refine wp_skip ?_
    refine then_normal ?_
    refine wp_seq ?_
    refine wp_block ?_
    refine wp_region_T [0, 0, 0, 0, 12, 28, 60, 127, 255] [[], [], [], [], [], [], [], [1], [1]] [[], [], [], [], [], [], [], [], [2]] [[], [], [], [], [], [], [], [], [1]] [.k 17 (.slice A6_2 8 8), .k 18 (.int .i64 ((k : Int))), .k 19 (.slice LA s.length lc), .k 20 (.int .i64 ((k : Int))), .c 21 (.pointer (some ((ad LA).add k))), .c 22 (.int .i64 (s.getD k 0)), tAn 23 .i64 (s.getD k 0) 65535 ((s.getD k 0) % 65536) (bits_mask (s.getD k 0) 16 (by decide)), .c 24 (.pointer (some ((ad A6_2).add k))), .n] (fun ix σ β X => match ix with | 0 => True | 1 => True | 2 => True | 3 => True | 4 => True | 5 => True | 6 => True | 7 => True | 8 => X 2 = eO 3 1 (.slice A6_2 8 8) 8 ((curL s (k + 1)).map (Value.int .i64)) | _ => True) [0, 2] [4, 5, 7, 8] [(17, 0, 8, 25)] hst6 ?_ ?_ ?_
    · exact fun ix _ _ _ _ _ _ hs hb hx h => match ix, h with
      | 8, h => by dsimp only at h ⊢; rw [← hx 2 rfl]; exact h
      | 0, _ | 1, _ | 2, _ | 3, _ | 4, _ | 5, _ | 6, _ | 7, _ | _ + 9, _ => trivial
    · refine ⟨?_, ?_, ?_, ?_, trivial⟩
      · exact s4 rfl (fun _ _ _ h => h) fun cx => run_indexSl (e := 3) (m := k) rfl (by kernel_rfl) (by kernel_rfl) (cx.anc 2 rfl) (cx.anc 3 rfl) (by omega) (by omega) (hA.ext cx.upd.to_ext) (by simp [mk8_len, curL_len])
      · exact s4 rfl (fun _ _ _ h => h) fun cx => run_load1 rfl (by kernel_rfl) (cx.anc 4 rfl) (At.cellAd (hA.ext cx.upd.to_ext) (getD_int (by omega)))
      · exact s4 rfl (fun _ _ _ h => h) fun cx => run_indexSl (e := 3) (m := k) rfl (by kernel_rfl) (by kernel_rfl) (cx.anc 0 rfl) (cx.anc 1 rfl) (by omega) (by omega) (At.of_own (cx.row (cx.init 1 _ rfl) rfl)) (by simp [mk8_len, curL_len])
      · refine sv_any rfl rfl fun ρ β W X cx => ?_
        exact dv_storeRow (m := k) (n := 8) rfl (cx.anc 7 rfl) (cx.anc 6 rfl) (by kernel_rfl) rfl rfl cx (cx.init 1 _ rfl) rfl (by omega) rfl (by rw [← List.map_set, curL_set s k (by omega)]) rfl rfl (fun σ β' X' hs hb hx => hx)
    intro σ β X W8 hD hX hst8 fr hfr
    simp only [zM, exq 0 (hX 0 _ rfl), exq 2 ((dTn (hD 8 lq)))] at hst8
    dsimp only [mgT, vals, List.take, List.drop, List.cons_append, List.nil_append] at hfr
    clear hX hD; subst hfr; clear σ β X
    refine blk_normal ?_
    refine then_normal ?_
    refine wp_region_P [0, 1, 3] [.k 15 (.int .i64 ((k : Int))), tI 16 ((k : Int) + 1) (by omega), .k 4 (.int .i64 ((k : Int) + 1))] [(4, 2, 1, 5), (10, 0, 2, 12)] hst8 fun W9 hst9 => ?_
    refine then_normal ?_
    refine ⟨8 - ((k + 1)), by omega, ?_⟩
    have hp10 := hst9.pick [0, 1] (by decide) rfl
    exact ⟨(k + 1), [.int .i64 ((k : Int)), .bool (decide ((k : Int) < 8)), .bool (decide ((k : Int) < 8)), mb (decide ((k : Int) < 8)) (.int .i64 ((k : Int))), mb (decide ((k : Int) < 8)) (.slice LA s.length lc), mb (decide ((k : Int) < 8)) (.int .i64 ((s.length : Int))), mb (decide ((k : Int) < 8)) (.bool (decide ((k : Int) < (s.length : Int)))), .bool ((decide ((k : Int) < 8)) && (decide ((k : Int) < (s.length : Int)))), .int .i64 ((k : Int)), .int .i64 ((k : Int) + 1), .slice A6_2 8 8, .int .i64 ((k : Int)), .slice LA s.length lc, .int .i64 ((k : Int)), .pointer (some ((ad LA).add k)), .int .i64 (s.getD k 0), .int .i64 ((s.getD k 0) % 65536), .pointer (some ((ad A6_2).add k))], by omega, rfl, rfl, hp10⟩
  have hs7p := hs7
  simp only [zB] at hs7p
  refine wp_cond_false (show Act.eval _ _ = .bool false from (congrArg Value.bool hs7)) ?_
  refine wp_exit ?_
  refine then_exit ?_
  refine then_exit ?_
  refine blk_eq ?_
  refine then_normal ?_
  refine wp_seq ?_
  have hm8 := mk8_len s
  have hcur : curL s k = mk8 s := curL_end s k (by omega)
  rw [hcur] at hst6
  have hb0 := mk8_bd s 0
  have hb1 := mk8_bd s 1
  have hb2 := mk8_bd s 2
  have hb3 := mk8_bd s 3
  obtain ⟨rr, hrr⟩ : ∃ z, z = vrowF s := ⟨_, rfl⟩
  have HM := Lib.hid (fun (A : Option Addr) (c : Nat) (w : World) (h : At w A (((mk8 s).drop 4).map (Value.int .i64))) => made02_any ((mk8 s).getD 3 0 % 4) A c ((mk8 s).drop 4) w h (by omega) (by rw [List.length_drop, mk8_len]; omega))
  rw [show ((mk8 s).drop 4).length = 8 - 4 by rw [List.length_drop, mk8_len], show madeR ((mk8 s).getD 3 0 % 4).toNat ((mk8 s).drop 4) = rr from hrr.symm] at HM
  refine wp_region_T [0, 1, 3, 7, 15, 0, 0, 64, 192, 448, 960, 0, 2048, 6144, 14336, 0, 32768, 129024, 262143, 0, 1048575] [[], [1], [1], [], [], [], [], [1], [1], [], [], [], [1], [1], [], [], [], [1], [], [], [3]] [[], [], [], [], [], [], [], [], [], [], [], [], [], [], [], [], [], [2], [], [3], [4]] [[], [], [], [], [], [], [], [], [], [], [], [], [], [], [], [], [], [], [], [], [3]] [.k 25 (.slice A6_2 8 8), .c 26 (.pointer (some ((ad A6_2).add 0))), .c 27 (.int .i64 (((mk8 s)).getD 0 0)), tRe 28 .i64 (((mk8 s)).getD 0 0) 126 ((((mk8 s)).getD 0 0) % 126) (Int.tmod_eq_emod_of_nonneg (by omega)), tI 29 (2 + ((((mk8 s)).getD 0 0) % 126)) (by omega), .k 30 (.agg #[.int .i64 (-1), .int .i64 0]), .k 31 (.slice A6_2 8 8), .c 32 (.pointer (some ((ad A6_2).add 2))), .c 33 (.int .i64 (((mk8 s)).getD 2 0)), tRe 34 .i64 (((mk8 s)).getD 2 0) 3 ((((mk8 s)).getD 2 0) % 3) (Int.tmod_eq_emod_of_nonneg (by omega)), .k 35 (.bool (((((mk8 s)).getD 2 0) % 3) == 1)), .k 36 (.slice A6_2 8 8), .c 37 (.pointer (some ((ad A6_2).add 3))), .c 38 (.int .i64 (((mk8 s)).getD 3 0)), tRe 39 .i64 (((mk8 s)).getD 3 0) 4 ((((mk8 s)).getD 3 0) % 4) (Int.tmod_eq_emod_of_nonneg (by omega)), .k 40 (.slice A6_2 8 8), .c 41 (.slice ((if 8 = 4 then A6_2 else A6_2.map (·.add (4 * 1)))) ((8 - 4)) ((8 - 4))), .a 42, .a 43, .a 5, .n] (fun ix σ β X => match ix with | 0 => True | 1 => True | 2 => True | 3 => True | 4 => True | 5 => True | 6 => True | 7 => True | 8 => True | 9 => True | 10 => True | 11 => True | 12 => True | 13 => True | 14 => True | 15 => True | 16 => True | 17 => σ 42 = .slice (sA (β 42)) rr.length (sC (β 42)) ∧ X 2 = eO 103 3 (.slice (sA (β 42)) rr.length (sC (β 42))) rr.length (flatR rr) | 18 => σ 43 = .agg #[.int .i64 (2 + ((((mk8 s)).getD 0 0) % 126)), .int .i64 0, .int .i64 (-1), .int .i64 0, .bool (((((mk8 s)).getD 2 0) % 3) == 1), .slice (sA (β 42)) rr.length (sC (β 42))] | 19 => σ 5 = .pointer (some ⟨(pb (β 5)), 0, none⟩) ∧ X 3 = eB (pb (β 5)) 27 #[.int .i64 0, .int .i64 0, .int .i64 0, .int .i64 0, .bool false, .slice none 0 0] | 20 => X 4 = eB (pb (β 5)) 27 #[.int .i64 (2 + ((((mk8 s)).getD 0 0) % 126)), .int .i64 0, .int .i64 (-1), .int .i64 0, .bool (((((mk8 s)).getD 2 0) % 3) == 1), .slice (sA (β 42)) rr.length (sC (β 42))] | _ => True) [0, 1, 2, 4] [1, 2, 7, 8, 12, 13, 16, 17, 18, 19, 20] [(5, 19, 1, 6), (19, 0, 19, 38)] hst6 ?_ ?_ ?_
  · exact fun ix _ _ _ _ _ _ hs hb hx h => match ix, h with
    | 17, h => by dsimp only at h ⊢; rw [← hs 42 rfl, ← hb 42 rfl, ← hx 2 rfl]; exact h
    | 18, h => by dsimp only at h ⊢; rw [← hs 43 rfl, ← hb 42 rfl]; exact h
    | 19, h => by dsimp only at h ⊢; rw [← hs 5 rfl, ← hb 5 rfl, ← hx 3 rfl]; exact h
    | 20, h => by dsimp only at h ⊢; rw [← hb 5 rfl, ← hb 42 rfl, ← hx 4 rfl]; exact h
    | 0, _ | 1, _ | 2, _ | 3, _ | 4, _ | 5, _ | 6, _ | 7, _ | 8, _ | 9, _ | 10, _ | 11, _ | 12, _ | 13, _ | 14, _ | 15, _ | 16, _ | _ + 21, _ => trivial
  · refine ⟨?_, ?_, ?_, ?_, ?_, ?_, ?_, ?_, ?_, ?_, ?_, trivial⟩
    · exact s4 rfl (fun _ _ _ h => h) fun cx => run_indexSl (e := 3) (m := 0) rfl (by kernel_rfl) (by kernel_rfl) (cx.anc 0 rfl) (cx.sees.const _) (by omega) (by omega) (At.of_own (cx.row (cx.init 1 _ rfl) rfl)) (by simp [mk8_len, curL_len])
    · exact s4 rfl (fun _ _ _ h => h) fun cx => run_load1 rfl (by kernel_rfl) (cx.anc 1 rfl) (At.cellAd (At.of_own (cx.row (cx.init 1 _ rfl) rfl)) (getD_int (by omega)))
    · exact s4 rfl (fun _ _ _ h => h) fun cx => run_indexSl (e := 3) (m := 2) rfl (by kernel_rfl) (by kernel_rfl) (cx.anc 6 rfl) (cx.sees.const _) (by omega) (by omega) (At.of_own (cx.row (cx.init 1 _ rfl) rfl)) (by simp [mk8_len, curL_len])
    · exact s4 rfl (fun _ _ _ h => h) fun cx => run_load1 rfl (by kernel_rfl) (cx.anc 7 rfl) (At.cellAd (At.of_own (cx.row (cx.init 1 _ rfl) rfl)) (getD_int (by omega)))
    · exact s4 rfl (fun _ _ _ h => h) fun cx => run_indexSl (e := 3) (m := 3) rfl (by kernel_rfl) (by kernel_rfl) (cx.anc 11 rfl) (cx.sees.const _) (by omega) (by omega) (At.of_own (cx.row (cx.init 1 _ rfl) rfl)) (by simp [mk8_len, curL_len])
    · exact s4 rfl (fun _ _ _ h => h) fun cx => run_load1 rfl (by kernel_rfl) (cx.anc 12 rfl) (At.cellAd (At.of_own (cx.row (cx.init 1 _ rfl) rfl)) (getD_int (by omega)))
    · exact s4 rfl (fun _ _ _ h => h) fun cx => run_sliceL_lo (e := 3) (sz := 1) (l := 4) rfl (by kernel_rfl) (by kernel_rfl) (cx.anc 15 rfl) (cx.sees.const _) (by omega) (by omega)
    · refine sv_any rfl rfl fun ρ β W X cx => ?_
      refine DoesU.call (run_callF (args := #[.int .i64 ((((mk8 s)).getD 3 0) % 4), .slice ((if 8 = 4 then A6_2 else A6_2.map (·.add (4 * 1)))) ((8 - 4)) ((8 - 4))]) rfl cx.sees rfl (by kernel_rfl) (map2 (cx.anc 14 rfl) (cx.anc 16 rfl))) ?_
      refine (HM.out _ _ _ (At.drop8 (At.of_own (cx.row (cx.init 1 _ rfl) rfl)))).mono ?_
      rintro e W1 ⟨A4, c4, rfl, ho, hx⟩
      refine ⟨_, rfl, post_call [eO 103 3 (.slice A4 rr.length c4) rr.length (flatR rr)] rfl rfl hx (one_new (eO_new ho)) (List.pairwise_singleton _ _) (fun σ β' X' hs hb hv hN => ?_)⟩
      have hv1 := (hv 42 rfl).1; have hv2 := (hv 42 rfl).2
      exact ⟨hv1.trans (by rw [hv2]; rfl), (by rw [hv2]; exact (List.cons.inj hN).1)⟩
    · exact sv rfl rfl rfl rfl rfl _ (fun _ _ _ h => h) (fun β β' h => by rw [h 42 (by decide)]) fun ρ β W X cx => run_buildL rfl (pmc (cx.anc 4 rfl) (pmc (cx.anc 5 rfl) (pmc (cx.anc 10 rfl) (pmc (dTn (cx.anc 17 rfl)).1 pmn)))) (by kernel_rfl)
    · refine sv_any rfl rfl fun ρ β W X cx => ?_
      exact dv_alloc (cs := #[.int .i64 0, .int .i64 0, .int .i64 0, .int .i64 0, .bool false, .slice none 0 0]) rfl (by kernel_rfl) rfl rfl (fun σ β' X' hs hb hv hx => ⟨hv, hx⟩)
    · refine sv_any rfl rfl fun ρ β W X cx => ?_
      exact dv_store (n := 6) rfl (dTn (cx.anc 19 rfl)).1 (dTn (cx.anc 18 rfl)) (by kernel_rfl) (by kernel_rfl) (by kernel_rfl) cx (dTn (cx.anc 19 rfl)).2 rfl (Nat.le_of_ble_eq_true rfl) (by kernel_rfl) rfl rfl rfl (fun σ β' X' hs hb hx => by rw [hb 5, hb 42]; exact hx)
  intro σ β X W11 hD hX hst11 fr hfr
  obtain ⟨A42_11, hu_A42_11⟩ : ∃ z, sA (β 42) = z := ⟨_, rfl⟩
  obtain ⟨c42_11, hu_c42_11⟩ : ∃ z, sC (β 42) = z := ⟨_, rfl⟩
  obtain ⟨B5_11, hu_B5_11⟩ : ∃ z, pb (β 5) = z := ⟨_, rfl⟩
  simp only [zM, exq 0 (hX 0 _ rfl), exq 1 (hX 1 _ rfl), exq 2 ((dTn (hD 17 lq)).2), exq 4 ((dTn (hD 20 lq))), hu_A42_11, hu_c42_11, hu_B5_11] at hst11
  dsimp only [mgT, vals, List.take, List.drop, List.cons_append, List.nil_append] at hfr
  simp only [ed 42 ((dTn (hD 17 lq)).1), ed 43 ((dTn (hD 18 lq))), ed 5 ((dTn (hD 19 lq)).1), hu_A42_11, hu_c42_11, hu_B5_11] at hfr
  clear hX hD hu_A42_11 hu_c42_11 hu_B5_11; subst hfr; clear σ β X
  refine then_normal ?_
  refine wp_seq ?_
  refine wp_seq ?_
  refine wp_region_T [0, 1, 3, 7, 15] [[], [1], [1]] [] [] [.k 44 (.slice A6_2 8 8), .c 45 (.pointer (some ((ad A6_2).add 1))), .c 46 (.int .i64 (((mk8 s)).getD 1 0)), tRe 47 .i64 (((mk8 s)).getD 1 0) 3 ((((mk8 s)).getD 1 0) % 3) (Int.tmod_eq_emod_of_nonneg (by omega)), .k 48 (.bool (decide (0 < (((mk8 s)).getD 1 0) % 3)))] (fun _ _ _ _ => True) [0, 1, 2, 3] [1, 2] [(44, 0, 5, 49)] hst11 ?_ ?_ ?_
  · exact fun _ _ _ _ _ _ _ _ _ _ h => h
  · refine ⟨?_, ?_, trivial⟩
    · exact s4 rfl (fun _ _ _ h => h) fun cx => run_indexSl (e := 3) (m := 1) rfl (by kernel_rfl) (by kernel_rfl) (cx.anc 0 rfl) (cx.sees.const _) (by omega) (by omega) (At.of_own (cx.row (cx.init 1 _ rfl) rfl)) (by simp [mk8_len, curL_len])
    · exact s4 rfl (fun _ _ _ h => h) fun cx => run_load1 rfl (by kernel_rfl) (cx.anc 1 rfl) (At.cellAd (At.of_own (cx.row (cx.init 1 _ rfl) rfl)) (getD_int (by omega)))
  intro σ β X W12 hD hX hst12 fr hfr
  simp only [zM, exq 0 (hX 0 _ rfl), exq 1 (hX 1 _ rfl), exq 2 (hX 2 _ rfl), exq 3 (hX 3 _ rfl)] at hst12
  dsimp only [mgT, vals, List.take, List.drop, List.cons_append, List.nil_append] at hfr
  clear hX hD; subst hfr; clear σ β X
  refine then_normal ?_
  rcases Bool.eq_false_or_eq_true (decide (0 < (((mk8 s)).getD 1 0) % 3)) with hs13 | hs13
  · skip
    have hs13p : 0 < (((mk8 s)).getD 1 0) % 3 := by simpa using hs13
    refine wp_cond_true (show Act.eval _ _ = .bool true from (congrArg Value.bool hs13)) ?_
    refine wp_region_T [0, 1, 3, 7, 15, 31, 63, 127] [[], [1], [1], [], [], [], [], [3]] [[], [], [], [], [], [], [], [4]] [[], [], [], [], [], [], [], [3]] [.k 49 (.slice A6_2 8 8), .c 50 (.pointer (some ((ad A6_2).add 1))), .c 51 (.int .i64 (((mk8 s)).getD 1 0)), tQu 52 .i64 (((mk8 s)).getD 1 0) 3 ((((mk8 s)).getD 1 0) / 3) (by rw [Int.tdiv_eq_ediv_of_nonneg (by omega)]; exact IntWalk.i64_in _ (by omega)), tRe 53 .i64 ((((mk8 s)).getD 1 0) / 3) 125 (((((mk8 s)).getD 1 0) / 3) % 125) (Int.tmod_eq_emod_of_nonneg (by omega)), tI 54 (3 + (((((mk8 s)).getD 1 0) / 3) % 125)) (by omega), .k 55 (.pointer (some ⟨B5_11, 1, none⟩)), .n] (fun ix σ β X => match ix with | 0 => True | 1 => True | 2 => True | 3 => True | 4 => True | 5 => True | 6 => True | 7 => X 4 = eB B5_11 27 #[.int .i64 (2 + ((((mk8 s)).getD 0 0) % 126)), .int .i64 (3 + (((((mk8 s)).getD 1 0) / 3) % 125)), .int .i64 (-1), .int .i64 0, .bool (((((mk8 s)).getD 2 0) % 3) == 1), .slice A42_11 rr.length c42_11] | _ => True) [0, 1, 2, 4] [1, 2, 7] [(49, 0, 7, 56)] hst12 ?_ ?_ ?_
    · exact fun ix _ _ _ _ _ _ hs hb hx h => match ix, h with
      | 7, h => by dsimp only at h ⊢; rw [← hx 4 rfl]; exact h
      | 0, _ | 1, _ | 2, _ | 3, _ | 4, _ | 5, _ | 6, _ | _ + 8, _ => trivial
    · refine ⟨?_, ?_, ?_, trivial⟩
      · exact s4 rfl (fun _ _ _ h => h) fun cx => run_indexSl (e := 3) (m := 1) rfl (by kernel_rfl) (by kernel_rfl) (cx.anc 0 rfl) (cx.sees.const _) (by omega) (by omega) (At.of_own (cx.row (cx.init 1 _ rfl) rfl)) (by simp [mk8_len, curL_len])
      · exact s4 rfl (fun _ _ _ h => h) fun cx => run_load1 rfl (by kernel_rfl) (cx.anc 1 rfl) (At.cellAd (At.of_own (cx.row (cx.init 1 _ rfl) rfl)) (getD_int (by omega)))
      · refine sv_any rfl rfl fun ρ β W X cx => ?_
        exact dv_store (n := 1) rfl (cx.anc 6 rfl) (cx.anc 5 rfl) (by kernel_rfl) (by kernel_rfl) (by kernel_rfl) cx (cx.init 3 _ rfl) rfl (Nat.le_of_ble_eq_true rfl) (by kernel_rfl) rfl rfl rfl (fun σ β' X' hs hb hx => hx)
    intro σ β X W14 hD hX hst14 fr hfr
    simp only [zM, exq 0 (hX 0 _ rfl), exq 1 (hX 1 _ rfl), exq 2 (hX 2 _ rfl), exq 4 ((dTn (hD 7 lq)))] at hst14
    dsimp only [mgT, vals, List.take, List.drop, List.cons_append, List.nil_append] at hfr
    clear hX hD; subst hfr; clear σ β X
    refine then_normal ?_
    refine wp_seq ?_
    refine wp_seq ?_
    refine wp_region_T [0, 1, 3, 7, 15] [[], [1], [1]] [] [] [.k 56 (.slice A6_2 8 8), .c 57 (.pointer (some ((ad A6_2).add 2))), .c 58 (.int .i64 (((mk8 s)).getD 2 0)), tRe 59 .i64 (((mk8 s)).getD 2 0) 2 ((((mk8 s)).getD 2 0) % 2) (Int.tmod_eq_emod_of_nonneg (by omega)), .k 60 (.bool (((((mk8 s)).getD 2 0) % 2) == 1))] (fun _ _ _ _ => True) [0, 1, 2, 3] [1, 2] [(56, 0, 5, 61)] hst14 ?_ ?_ ?_
    · exact fun _ _ _ _ _ _ _ _ _ _ h => h
    · refine ⟨?_, ?_, trivial⟩
      · exact s4 rfl (fun _ _ _ h => h) fun cx => run_indexSl (e := 3) (m := 2) rfl (by kernel_rfl) (by kernel_rfl) (cx.anc 0 rfl) (cx.sees.const _) (by omega) (by omega) (At.of_own (cx.row (cx.init 1 _ rfl) rfl)) (by simp [mk8_len, curL_len])
      · exact s4 rfl (fun _ _ _ h => h) fun cx => run_load1 rfl (by kernel_rfl) (cx.anc 1 rfl) (At.cellAd (At.of_own (cx.row (cx.init 1 _ rfl) rfl)) (getD_int (by omega)))
    intro σ β X W15 hD hX hst15 fr hfr
    simp only [zM, exq 0 (hX 0 _ rfl), exq 1 (hX 1 _ rfl), exq 2 (hX 2 _ rfl), exq 3 (hX 3 _ rfl)] at hst15
    dsimp only [mgT, vals, List.take, List.drop, List.cons_append, List.nil_append] at hfr
    clear hX hD; subst hfr; clear σ β X
    refine then_normal ?_
    rcases Bool.eq_false_or_eq_true (((((mk8 s)).getD 2 0) % 2) == 1) with hs16 | hs16
    · skip
      have hs16p : ((((mk8 s)).getD 2 0) % 2) = 1 := by simpa using hs16
      refine wp_cond_true (show Act.eval _ _ = .bool true from (congrArg Value.bool hs16)) ?_
      refine wp_region_T [0, 1, 3, 7, 15, 0, 32, 96, 224, 480, 1023, 2047, 4095] [[], [1], [1], [], [], [], [1], [1], [], [], [], [], [3]] [[], [], [], [], [], [], [], [], [], [], [], [], [4]] [[], [], [], [], [], [], [], [], [], [], [], [], [3]] [.k 61 (.slice A6_2 8 8), .c 62 (.pointer (some ((ad A6_2).add 2))), .c 63 (.int .i64 (((mk8 s)).getD 2 0)), tQu 64 .i64 (((mk8 s)).getD 2 0) 2 ((((mk8 s)).getD 2 0) / 2) (by rw [Int.tdiv_eq_ediv_of_nonneg (by omega)]; exact IntWalk.i64_in _ (by omega)), tRe 65 .i64 ((((mk8 s)).getD 2 0) / 2) 400 (((((mk8 s)).getD 2 0) / 2) % 400) (Int.tmod_eq_emod_of_nonneg (by omega)), .k 66 (.slice A6_2 8 8), .c 67 (.pointer (some ((ad A6_2).add 3))), .c 68 (.int .i64 (((mk8 s)).getD 3 0)), tQu 69 .i64 (((mk8 s)).getD 3 0) 4 ((((mk8 s)).getD 3 0) / 4) (by rw [Int.tdiv_eq_ediv_of_nonneg (by omega)]; exact IntWalk.i64_in _ (by omega)), tRe 70 .i64 ((((mk8 s)).getD 3 0) / 4) 24 (((((mk8 s)).getD 3 0) / 4) % 24) (Int.tmod_eq_emod_of_nonneg (by omega)), .k 71 (.agg #[.int .i64 (((((mk8 s)).getD 2 0) / 2) % 400), .int .i64 (((((mk8 s)).getD 3 0) / 4) % 24)]), .k 72 (.pointer (some ⟨B5_11, 2, none⟩)), .n] (fun ix σ β X => match ix with | 0 => True | 1 => True | 2 => True | 3 => True | 4 => True | 5 => True | 6 => True | 7 => True | 8 => True | 9 => True | 10 => True | 11 => True | 12 => X 4 = eB B5_11 27 #[.int .i64 (2 + ((((mk8 s)).getD 0 0) % 126)), .int .i64 (3 + (((((mk8 s)).getD 1 0) / 3) % 125)), .int .i64 (((((mk8 s)).getD 2 0) / 2) % 400), .int .i64 (((((mk8 s)).getD 3 0) / 4) % 24), .bool (((((mk8 s)).getD 2 0) % 3) == 1), .slice A42_11 rr.length c42_11] | _ => True) [0, 1, 2, 4] [1, 2, 6, 7, 12] [(61, 0, 12, 73)] hst15 ?_ ?_ ?_
      · exact fun ix _ _ _ _ _ _ hs hb hx h => match ix, h with
        | 12, h => by dsimp only at h ⊢; rw [← hx 4 rfl]; exact h
        | 0, _ | 1, _ | 2, _ | 3, _ | 4, _ | 5, _ | 6, _ | 7, _ | 8, _ | 9, _ | 10, _ | 11, _ | _ + 13, _ => trivial
      · refine ⟨?_, ?_, ?_, ?_, ?_, trivial⟩
        · exact s4 rfl (fun _ _ _ h => h) fun cx => run_indexSl (e := 3) (m := 2) rfl (by kernel_rfl) (by kernel_rfl) (cx.anc 0 rfl) (cx.sees.const _) (by omega) (by omega) (At.of_own (cx.row (cx.init 1 _ rfl) rfl)) (by simp [mk8_len, curL_len])
        · exact s4 rfl (fun _ _ _ h => h) fun cx => run_load1 rfl (by kernel_rfl) (cx.anc 1 rfl) (At.cellAd (At.of_own (cx.row (cx.init 1 _ rfl) rfl)) (getD_int (by omega)))
        · exact s4 rfl (fun _ _ _ h => h) fun cx => run_indexSl (e := 3) (m := 3) rfl (by kernel_rfl) (by kernel_rfl) (cx.anc 5 rfl) (cx.sees.const _) (by omega) (by omega) (At.of_own (cx.row (cx.init 1 _ rfl) rfl)) (by simp [mk8_len, curL_len])
        · exact s4 rfl (fun _ _ _ h => h) fun cx => run_load1 rfl (by kernel_rfl) (cx.anc 6 rfl) (At.cellAd (At.of_own (cx.row (cx.init 1 _ rfl) rfl)) (getD_int (by omega)))
        · refine sv_any rfl rfl fun ρ β W X cx => ?_
          exact dv_store (n := 2) rfl (cx.anc 11 rfl) (cx.anc 10 rfl) (by kernel_rfl) (by kernel_rfl) (by kernel_rfl) cx (cx.init 3 _ rfl) rfl (Nat.le_of_ble_eq_true rfl) (by kernel_rfl) rfl rfl rfl (fun σ β' X' hs hb hx => hx)
      intro σ β X W17 hD hX hst17 fr hfr
      simp only [zM, exq 0 (hX 0 _ rfl), exq 1 (hX 1 _ rfl), exq 2 (hX 2 _ rfl), exq 4 ((dTn (hD 12 lq)))] at hst17
      dsimp only [mgT, vals, List.take, List.drop, List.cons_append, List.nil_append] at hfr
      clear hX hD; subst hfr; clear σ β X
      refine then_normal ?_
      refine wp_seq ?_
      refine wp_region_T [0, 1] [[3], [0]] [[], [4]] [[], [0]] [.c 73 (.agg #[.int .i64 (2 + ((((mk8 s)).getD 0 0) % 126)), .int .i64 (3 + (((((mk8 s)).getD 1 0) / 3) % 125)), .int .i64 (((((mk8 s)).getD 2 0) / 2) % 400), .int .i64 (((((mk8 s)).getD 3 0) / 4) % 24), .bool (((((mk8 s)).getD 2 0) % 3) == 1), .slice A42_11 rr.length c42_11]), .n] (fun ix σ β X => match ix with | 0 => True | 1 => X 4 = eB B2_1 27 #[.int .i64 (2 + ((((mk8 s)).getD 0 0) % 126)), .int .i64 (3 + (((((mk8 s)).getD 1 0) / 3) % 125)), .int .i64 (((((mk8 s)).getD 2 0) / 2) % 400), .int .i64 (((((mk8 s)).getD 3 0) / 4) % 24), .bool (((((mk8 s)).getD 2 0) % 3) == 1), .slice A42_11 rr.length c42_11] | _ => True) [1, 2, 3, 4] [0, 1] [(73, 0, 1, 74)] hst17 ?_ ?_ ?_
      · exact fun ix _ _ _ _ _ _ hs hb hx h => match ix, h with
        | 1, h => by dsimp only at h ⊢; rw [← hx 4 rfl]; exact h
        | 0, _ | _ + 2, _ => trivial
      · refine ⟨?_, ?_, trivial⟩
        · exact s4 rfl (fun _ _ _ h => h) fun cx => run_loadB (n := 6) rfl (by kernel_rfl) (by kernel_rfl) (cx.out 5 rfl) (cx.blk (cx.init 3 _ rfl) rfl) (Nat.le_of_ble_eq_true rfl) rfl
        · refine sv_any rfl rfl fun ρ β W X cx => ?_
          exact dv_store (n := 6) rfl (cx.out 2 rfl) (cx.anc 0 rfl) (by kernel_rfl) (by kernel_rfl) (by kernel_rfl) cx (cx.init 0 _ rfl) rfl (Nat.le_of_ble_eq_true rfl) (by kernel_rfl) rfl rfl rfl (fun σ β' X' hs hb hx => hx)
      intro σ β X W18 hD hX hst18 fr hfr
      simp only [zM, exq 1 (hX 1 _ rfl), exq 2 (hX 2 _ rfl), exq 3 (hX 3 _ rfl), exq 4 ((dTn (hD 1 lq)))] at hst18
      dsimp only [mgT, vals, List.take, List.drop, List.cons_append, List.nil_append] at hfr
      clear hX hD; subst hfr; clear σ β X
      refine then_normal ?_
      refine wp_ret ?_
      refine bodyPost_ret (v := .agg #[.int .i64 (2 + ((((mk8 s)).getD 0 0) % 126)), .int .i64 (3 + (((((mk8 s)).getD 1 0) / 3) % 125)), .int .i64 (((((mk8 s)).getD 2 0) / 2) % 400), .int .i64 (((((mk8 s)).getD 3 0) / 4) % 24), .bool (((((mk8 s)).getD 2 0) % 3) == 1), .slice A42_11 rr.length c42_11]) (results_cell (n := 6) Tryd.results14 rfl (by kernel_rfl) (by kernel_rfl) (hst18.blk 3 rfl) rfl) rfl ?_
      exact VerPost.of rfl (by rw [vmaxF, hs13]; rfl) (by rw [vpgF, hs16]; rfl) (by rw [vslF, hs16]; rfl) rfl hrr (hst18.own' 1 rfl) hst18.ext
    have hs16p : ((((mk8 s)).getD 2 0) % 2) ≠ 1 := by simpa using hs16
    refine wp_cond_false (show Act.eval _ _ = .bool false from (congrArg Value.bool hs16)) ?_
    refine wp_skip ?_
    refine then_normal ?_
    refine wp_seq ?_
    refine wp_region_T [0, 1] [[3], [0]] [[], [4]] [[], [0]] [.c 73 (.agg #[.int .i64 (2 + ((((mk8 s)).getD 0 0) % 126)), .int .i64 (3 + (((((mk8 s)).getD 1 0) / 3) % 125)), .int .i64 (-1), .int .i64 0, .bool (((((mk8 s)).getD 2 0) % 3) == 1), .slice A42_11 rr.length c42_11]), .n] (fun ix σ β X => match ix with | 0 => True | 1 => X 4 = eB B2_1 27 #[.int .i64 (2 + ((((mk8 s)).getD 0 0) % 126)), .int .i64 (3 + (((((mk8 s)).getD 1 0) / 3) % 125)), .int .i64 (-1), .int .i64 0, .bool (((((mk8 s)).getD 2 0) % 3) == 1), .slice A42_11 rr.length c42_11] | _ => True) [1, 2, 3, 4] [0, 1] [(73, 0, 1, 74)] hst15 ?_ ?_ ?_
    · exact fun ix _ _ _ _ _ _ hs hb hx h => match ix, h with
      | 1, h => by dsimp only at h ⊢; rw [← hx 4 rfl]; exact h
      | 0, _ | _ + 2, _ => trivial
    · refine ⟨?_, ?_, trivial⟩
      · exact s4 rfl (fun _ _ _ h => h) fun cx => run_loadB (n := 6) rfl (by kernel_rfl) (by kernel_rfl) (cx.out 5 rfl) (cx.blk (cx.init 3 _ rfl) rfl) (Nat.le_of_ble_eq_true rfl) rfl
      · refine sv_any rfl rfl fun ρ β W X cx => ?_
        exact dv_store (n := 6) rfl (cx.out 2 rfl) (cx.anc 0 rfl) (by kernel_rfl) (by kernel_rfl) (by kernel_rfl) cx (cx.init 0 _ rfl) rfl (Nat.le_of_ble_eq_true rfl) (by kernel_rfl) rfl rfl rfl (fun σ β' X' hs hb hx => hx)
    intro σ β X W19 hD hX hst19 fr hfr
    simp only [zM, exq 1 (hX 1 _ rfl), exq 2 (hX 2 _ rfl), exq 3 (hX 3 _ rfl), exq 4 ((dTn (hD 1 lq)))] at hst19
    dsimp only [mgT, vals, List.take, List.drop, List.cons_append, List.nil_append] at hfr
    clear hX hD; subst hfr; clear σ β X
    refine then_normal ?_
    refine wp_ret ?_
    refine bodyPost_ret (v := .agg #[.int .i64 (2 + ((((mk8 s)).getD 0 0) % 126)), .int .i64 (3 + (((((mk8 s)).getD 1 0) / 3) % 125)), .int .i64 (-1), .int .i64 0, .bool (((((mk8 s)).getD 2 0) % 3) == 1), .slice A42_11 rr.length c42_11]) (results_cell (n := 6) Tryd.results14 rfl (by kernel_rfl) (by kernel_rfl) (hst19.blk 3 rfl) rfl) rfl ?_
    exact VerPost.of rfl (by rw [vmaxF, hs13]; rfl) (by rw [vpgF, hs16]; rfl) (by rw [vslF, hs16]; rfl) rfl hrr (hst19.own' 1 rfl) hst19.ext
  have hs13p : ¬ (0 < (((mk8 s)).getD 1 0) % 3) := by simpa using hs13
  refine wp_cond_false (show Act.eval _ _ = .bool false from (congrArg Value.bool hs13)) ?_
  refine wp_skip ?_
  refine then_normal ?_
  refine wp_seq ?_
  refine wp_seq ?_
  refine wp_region_T [0, 1, 3, 7, 15] [[], [1], [1]] [] [] [.k 56 (.slice A6_2 8 8), .c 57 (.pointer (some ((ad A6_2).add 2))), .c 58 (.int .i64 (((mk8 s)).getD 2 0)), tRe 59 .i64 (((mk8 s)).getD 2 0) 2 ((((mk8 s)).getD 2 0) % 2) (Int.tmod_eq_emod_of_nonneg (by omega)), .k 60 (.bool (((((mk8 s)).getD 2 0) % 2) == 1))] (fun _ _ _ _ => True) [0, 1, 2, 3] [1, 2] [(56, 0, 5, 61)] hst12 ?_ ?_ ?_
  · exact fun _ _ _ _ _ _ _ _ _ _ h => h
  · refine ⟨?_, ?_, trivial⟩
    · exact s4 rfl (fun _ _ _ h => h) fun cx => run_indexSl (e := 3) (m := 2) rfl (by kernel_rfl) (by kernel_rfl) (cx.anc 0 rfl) (cx.sees.const _) (by omega) (by omega) (At.of_own (cx.row (cx.init 1 _ rfl) rfl)) (by simp [mk8_len, curL_len])
    · exact s4 rfl (fun _ _ _ h => h) fun cx => run_load1 rfl (by kernel_rfl) (cx.anc 1 rfl) (At.cellAd (At.of_own (cx.row (cx.init 1 _ rfl) rfl)) (getD_int (by omega)))
  intro σ β X W20 hD hX hst20 fr hfr
  simp only [zM, exq 0 (hX 0 _ rfl), exq 1 (hX 1 _ rfl), exq 2 (hX 2 _ rfl), exq 3 (hX 3 _ rfl)] at hst20
  dsimp only [mgT, vals, List.take, List.drop, List.cons_append, List.nil_append] at hfr
  clear hX hD; subst hfr; clear σ β X
  refine then_normal ?_
  rcases Bool.eq_false_or_eq_true (((((mk8 s)).getD 2 0) % 2) == 1) with hs21 | hs21
  · skip
    have hs21p : ((((mk8 s)).getD 2 0) % 2) = 1 := by simpa using hs21
    refine wp_cond_true (show Act.eval _ _ = .bool true from (congrArg Value.bool hs21)) ?_
    refine wp_region_T [0, 1, 3, 7, 15, 0, 32, 96, 224, 480, 1023, 2047, 4095] [[], [1], [1], [], [], [], [1], [1], [], [], [], [], [3]] [[], [], [], [], [], [], [], [], [], [], [], [], [4]] [[], [], [], [], [], [], [], [], [], [], [], [], [3]] [.k 61 (.slice A6_2 8 8), .c 62 (.pointer (some ((ad A6_2).add 2))), .c 63 (.int .i64 (((mk8 s)).getD 2 0)), tQu 64 .i64 (((mk8 s)).getD 2 0) 2 ((((mk8 s)).getD 2 0) / 2) (by rw [Int.tdiv_eq_ediv_of_nonneg (by omega)]; exact IntWalk.i64_in _ (by omega)), tRe 65 .i64 ((((mk8 s)).getD 2 0) / 2) 400 (((((mk8 s)).getD 2 0) / 2) % 400) (Int.tmod_eq_emod_of_nonneg (by omega)), .k 66 (.slice A6_2 8 8), .c 67 (.pointer (some ((ad A6_2).add 3))), .c 68 (.int .i64 (((mk8 s)).getD 3 0)), tQu 69 .i64 (((mk8 s)).getD 3 0) 4 ((((mk8 s)).getD 3 0) / 4) (by rw [Int.tdiv_eq_ediv_of_nonneg (by omega)]; exact IntWalk.i64_in _ (by omega)), tRe 70 .i64 ((((mk8 s)).getD 3 0) / 4) 24 (((((mk8 s)).getD 3 0) / 4) % 24) (Int.tmod_eq_emod_of_nonneg (by omega)), .k 71 (.agg #[.int .i64 (((((mk8 s)).getD 2 0) / 2) % 400), .int .i64 (((((mk8 s)).getD 3 0) / 4) % 24)]), .k 72 (.pointer (some ⟨B5_11, 2, none⟩)), .n] (fun ix σ β X => match ix with | 0 => True | 1 => True | 2 => True | 3 => True | 4 => True | 5 => True | 6 => True | 7 => True | 8 => True | 9 => True | 10 => True | 11 => True | 12 => X 4 = eB B5_11 27 #[.int .i64 (2 + ((((mk8 s)).getD 0 0) % 126)), .int .i64 0, .int .i64 (((((mk8 s)).getD 2 0) / 2) % 400), .int .i64 (((((mk8 s)).getD 3 0) / 4) % 24), .bool (((((mk8 s)).getD 2 0) % 3) == 1), .slice A42_11 rr.length c42_11] | _ => True) [0, 1, 2, 4] [1, 2, 6, 7, 12] [(61, 0, 12, 73)] hst20 ?_ ?_ ?_
    · exact fun ix _ _ _ _ _ _ hs hb hx h => match ix, h with
      | 12, h => by dsimp only at h ⊢; rw [← hx 4 rfl]; exact h
      | 0, _ | 1, _ | 2, _ | 3, _ | 4, _ | 5, _ | 6, _ | 7, _ | 8, _ | 9, _ | 10, _ | 11, _ | _ + 13, _ => trivial
    · refine ⟨?_, ?_, ?_, ?_, ?_, trivial⟩
      · exact s4 rfl (fun _ _ _ h => h) fun cx => run_indexSl (e := 3) (m := 2) rfl (by kernel_rfl) (by kernel_rfl) (cx.anc 0 rfl) (cx.sees.const _) (by omega) (by omega) (At.of_own (cx.row (cx.init 1 _ rfl) rfl)) (by simp [mk8_len, curL_len])
      · exact s4 rfl (fun _ _ _ h => h) fun cx => run_load1 rfl (by kernel_rfl) (cx.anc 1 rfl) (At.cellAd (At.of_own (cx.row (cx.init 1 _ rfl) rfl)) (getD_int (by omega)))
      · exact s4 rfl (fun _ _ _ h => h) fun cx => run_indexSl (e := 3) (m := 3) rfl (by kernel_rfl) (by kernel_rfl) (cx.anc 5 rfl) (cx.sees.const _) (by omega) (by omega) (At.of_own (cx.row (cx.init 1 _ rfl) rfl)) (by simp [mk8_len, curL_len])
      · exact s4 rfl (fun _ _ _ h => h) fun cx => run_load1 rfl (by kernel_rfl) (cx.anc 6 rfl) (At.cellAd (At.of_own (cx.row (cx.init 1 _ rfl) rfl)) (getD_int (by omega)))
      · refine sv_any rfl rfl fun ρ β W X cx => ?_
        exact dv_store (n := 2) rfl (cx.anc 11 rfl) (cx.anc 10 rfl) (by kernel_rfl) (by kernel_rfl) (by kernel_rfl) cx (cx.init 3 _ rfl) rfl (Nat.le_of_ble_eq_true rfl) (by kernel_rfl) rfl rfl rfl (fun σ β' X' hs hb hx => hx)
    intro σ β X W22 hD hX hst22 fr hfr
    simp only [zM, exq 0 (hX 0 _ rfl), exq 1 (hX 1 _ rfl), exq 2 (hX 2 _ rfl), exq 4 ((dTn (hD 12 lq)))] at hst22
    dsimp only [mgT, vals, List.take, List.drop, List.cons_append, List.nil_append] at hfr
    clear hX hD; subst hfr; clear σ β X
    refine then_normal ?_
    refine wp_seq ?_
    refine wp_region_T [0, 1] [[3], [0]] [[], [4]] [[], [0]] [.c 73 (.agg #[.int .i64 (2 + ((((mk8 s)).getD 0 0) % 126)), .int .i64 0, .int .i64 (((((mk8 s)).getD 2 0) / 2) % 400), .int .i64 (((((mk8 s)).getD 3 0) / 4) % 24), .bool (((((mk8 s)).getD 2 0) % 3) == 1), .slice A42_11 rr.length c42_11]), .n] (fun ix σ β X => match ix with | 0 => True | 1 => X 4 = eB B2_1 27 #[.int .i64 (2 + ((((mk8 s)).getD 0 0) % 126)), .int .i64 0, .int .i64 (((((mk8 s)).getD 2 0) / 2) % 400), .int .i64 (((((mk8 s)).getD 3 0) / 4) % 24), .bool (((((mk8 s)).getD 2 0) % 3) == 1), .slice A42_11 rr.length c42_11] | _ => True) [1, 2, 3, 4] [0, 1] [(73, 0, 1, 74)] hst22 ?_ ?_ ?_
    · exact fun ix _ _ _ _ _ _ hs hb hx h => match ix, h with
      | 1, h => by dsimp only at h ⊢; rw [← hx 4 rfl]; exact h
      | 0, _ | _ + 2, _ => trivial
    · refine ⟨?_, ?_, trivial⟩
      · exact s4 rfl (fun _ _ _ h => h) fun cx => run_loadB (n := 6) rfl (by kernel_rfl) (by kernel_rfl) (cx.out 5 rfl) (cx.blk (cx.init 3 _ rfl) rfl) (Nat.le_of_ble_eq_true rfl) rfl
      · refine sv_any rfl rfl fun ρ β W X cx => ?_
        exact dv_store (n := 6) rfl (cx.out 2 rfl) (cx.anc 0 rfl) (by kernel_rfl) (by kernel_rfl) (by kernel_rfl) cx (cx.init 0 _ rfl) rfl (Nat.le_of_ble_eq_true rfl) (by kernel_rfl) rfl rfl rfl (fun σ β' X' hs hb hx => hx)
    intro σ β X W23 hD hX hst23 fr hfr
    simp only [zM, exq 1 (hX 1 _ rfl), exq 2 (hX 2 _ rfl), exq 3 (hX 3 _ rfl), exq 4 ((dTn (hD 1 lq)))] at hst23
    dsimp only [mgT, vals, List.take, List.drop, List.cons_append, List.nil_append] at hfr
    clear hX hD; subst hfr; clear σ β X
    refine then_normal ?_
    refine wp_ret ?_
    refine bodyPost_ret (v := .agg #[.int .i64 (2 + ((((mk8 s)).getD 0 0) % 126)), .int .i64 0, .int .i64 (((((mk8 s)).getD 2 0) / 2) % 400), .int .i64 (((((mk8 s)).getD 3 0) / 4) % 24), .bool (((((mk8 s)).getD 2 0) % 3) == 1), .slice A42_11 rr.length c42_11]) (results_cell (n := 6) Tryd.results14 rfl (by kernel_rfl) (by kernel_rfl) (hst23.blk 3 rfl) rfl) rfl ?_
    exact VerPost.of rfl (by rw [vmaxF, hs13]; rfl) (by rw [vpgF, hs21]; rfl) (by rw [vslF, hs21]; rfl) rfl hrr (hst23.own' 1 rfl) hst23.ext
  have hs21p : ((((mk8 s)).getD 2 0) % 2) ≠ 1 := by simpa using hs21
  refine wp_cond_false (show Act.eval _ _ = .bool false from (congrArg Value.bool hs21)) ?_
  refine wp_skip ?_
  refine then_normal ?_
  refine wp_seq ?_
  refine wp_region_T [0, 1] [[3], [0]] [[], [4]] [[], [0]] [.c 73 (.agg #[.int .i64 (2 + ((((mk8 s)).getD 0 0) % 126)), .int .i64 0, .int .i64 (-1), .int .i64 0, .bool (((((mk8 s)).getD 2 0) % 3) == 1), .slice A42_11 rr.length c42_11]), .n] (fun ix σ β X => match ix with | 0 => True | 1 => X 4 = eB B2_1 27 #[.int .i64 (2 + ((((mk8 s)).getD 0 0) % 126)), .int .i64 0, .int .i64 (-1), .int .i64 0, .bool (((((mk8 s)).getD 2 0) % 3) == 1), .slice A42_11 rr.length c42_11] | _ => True) [1, 2, 3, 4] [0, 1] [(73, 0, 1, 74)] hst20 ?_ ?_ ?_
  · exact fun ix _ _ _ _ _ _ hs hb hx h => match ix, h with
    | 1, h => by dsimp only at h ⊢; rw [← hx 4 rfl]; exact h
    | 0, _ | _ + 2, _ => trivial
  · refine ⟨?_, ?_, trivial⟩
    · exact s4 rfl (fun _ _ _ h => h) fun cx => run_loadB (n := 6) rfl (by kernel_rfl) (by kernel_rfl) (cx.out 5 rfl) (cx.blk (cx.init 3 _ rfl) rfl) (Nat.le_of_ble_eq_true rfl) rfl
    · refine sv_any rfl rfl fun ρ β W X cx => ?_
      exact dv_store (n := 6) rfl (cx.out 2 rfl) (cx.anc 0 rfl) (by kernel_rfl) (by kernel_rfl) (by kernel_rfl) cx (cx.init 0 _ rfl) rfl (Nat.le_of_ble_eq_true rfl) (by kernel_rfl) rfl rfl rfl (fun σ β' X' hs hb hx => hx)
  intro σ β X W24 hD hX hst24 fr hfr
  simp only [zM, exq 1 (hX 1 _ rfl), exq 2 (hX 2 _ rfl), exq 3 (hX 3 _ rfl), exq 4 ((dTn (hD 1 lq)))] at hst24
  dsimp only [mgT, vals, List.take, List.drop, List.cons_append, List.nil_append] at hfr
  clear hX hD; subst hfr; clear σ β X
  refine then_normal ?_
  refine wp_ret ?_
  refine bodyPost_ret (v := .agg #[.int .i64 (2 + ((((mk8 s)).getD 0 0) % 126)), .int .i64 0, .int .i64 (-1), .int .i64 0, .bool (((((mk8 s)).getD 2 0) % 3) == 1), .slice A42_11 rr.length c42_11]) (results_cell (n := 6) Tryd.results14 rfl (by kernel_rfl) (by kernel_rfl) (hst24.blk 3 rfl) rfl) rfl ?_
  exact VerPost.of rfl (by rw [vmaxF, hs13]; rfl) (by rw [vpgF, hs21]; rfl) (by rw [vslF, hs21]; rfl) rfl hrr (hst24.own' 1 rfl) hst24.ext

end Go.Proofs.YtfjpglohcppjeaaDoor

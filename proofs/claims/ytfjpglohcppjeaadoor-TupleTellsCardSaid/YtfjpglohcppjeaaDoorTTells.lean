/- the walk of TupleTells. -/
import Derived.Test.YtfjpglohcppjeaaDoorTRef
import Derived.Test.YtfjpglohcppjeaaDoorT13
namespace Go.Proofs.YtfjpglohcppjeaaDoor
open Go.RowKit
set_option linter.unusedVariables false
set_option linter.unusedSimpArgs false

def tabL (bs : List Int) (n : Nat) : List Int := (List.range 128).map fun i => if i < n then standF bs (i : Int) else 0
theorem tabL_len (bs : List Int) (n : Nat) : (tabL bs n).length = 128 := by simp [tabL]
theorem tabL_0 (bs : List Int) : tabL bs 0 = List.replicate 128 0 := by
  apply List.ext_getElem
  · simp [tabL]
  · intro i h1 h2
    rw [List.getElem_replicate]
    simp only [tabL, List.getElem_map]
    rw [if_neg (by omega)]
theorem tabL_set (bs : List Int) (k : Nat) (h : k < 128) : (tabL bs k).set k (standF bs (k : Int)) = tabL bs (k + 1) := by
  apply List.ext_getElem
  · simp [tabL]
  · intro j h1 h2
    simp only [tabL, List.length_set, List.length_map, List.length_range] at h1
    rw [List.getElem_set]
    simp only [tabL, List.getElem_map, List.getElem_range]
    by_cases e : k = j
    · subst e
      rw [if_pos rfl, if_pos (by omega)]
    · rw [if_neg e]
      by_cases h3 : j < k
      · rw [if_pos h3, if_pos (by omega)]
      · rw [if_neg h3, if_neg (by omega)]
theorem tab_stand (bs : List Int) (x : Int) : tabF (tabL bs 128) x = standF bs x := by
  unfold tabF
  by_cases h : x < 0 ∨ 127 < x
  · rw [if_pos h, standF, if_neg (by omega), if_pos (by omega)]
  · rw [if_neg h]
    have hj : x.toNat < (tabL bs 128).length := by rw [tabL_len]; omega
    rw [List.getD_eq_getElem?_getD, List.getElem?_eq_getElem hj, Option.getD_some]
    simp only [tabL, List.getElem_map, List.getElem_range]
    rw [if_pos (by omega), show ((x.toNat : Nat) : Int) = x by omega]
def cutV (v : Val) : Val := (v.1, v.2.1, v.2.2.extract 0 (min v.2.2.size 60))
def fewK (rs : List Val) (k : Nat) : List Val := (rs.take k).map cutV
abbrev fewF (rs : List Val) : List Val := fewK rs 8
theorem fewK_len (rs : List Val) (k : Nat) (h : k ≤ rs.length) : (fewK rs k).length = k := by simp [fewK, h]
theorem fewK_snoc {rs : List Val} {k : Nat} (h : k < rs.length) : flatR (fewK rs k) ++ flatR [cutV (rs.getD k v0)] = flatR (fewK rs (k + 1)) := by
  rw [fewK, fewK, List.take_add_one, List.getElem?_eq_getElem h, List.getD_eq_getElem?_getD, List.getElem?_eq_getElem h, List.map_append, flatR, flatR, flatR, List.flatMap_append]; rfl
theorem flatR_one (rs : List Val) : ∀ u ∈ flatR rs, u.oneCell' = true := by
  intro u hu
  obtain ⟨v, _, hv⟩ := List.mem_flatMap.1 hu
  simp only [cellsV, List.mem_cons, List.not_mem_nil, or_false] at hv
  rcases hv with rfl | rfl | rfl <;> rfl
theorem fewK_end {rs : List Val} {k : Nat} (h : k ≤ rs.length) (h8 : k ≤ 8) (he : rs.length ≤ k ∨ 8 ≤ k) : fewK rs k = fewF rs := by
  rcases he with he | he
  · rw [fewK, fewF, fewK, List.take_of_length_le he, List.take_of_length_le (by omega)]
  · rw [show k = 8 by omega]
theorem few_len8 (rs : List Val) : (fewF rs).length ≤ 8 := by simp [fewF, fewK]; omega
def FewPost (a b n1 n2 : Int) (ho : Bool) (rs : List Val) (w : World) (e : Ending) (w' : World) : Prop := ∃ A c, e = .returned (.agg #[.int .i64 a, .int .i64 b, .int .i64 n1, .int .i64 n2, .bool ho, .slice A (fewF rs).length c]) ∧
  w'.ownsRow w.heap.size 103 3 (.slice A (fewF rs).length c) (fewF rs).length (flatR (fewF rs)) ∧ Ext w w'
theorem bes12 (hi : Int) (ls own : List Int) (g : Int → Int) (b : Int) : bes2F hi ls own g b = bes1F hi ls own g b := by
  rw [bes2F, bes1F]
  by_cases h : b = 0
  · subst h; simp
  · simp [h]
theorem sameV_self {a b n1 n2 : Int} {ho : Bool} {rs : List Val} : sameV a b n1 n2 ho rs a b n1 n2 ho rs = true := by simp [sameV]
set_option maxRecDepth 100000 in
set_option maxHeartbeats 4000000 in
theorem table_any (SA : Option Addr) (sc : Nat) (bs : List Int) (w : World) (hSA : At w SA (bs.map (Value.int .u8))) (hbs : ∀ b ∈ bs, 0 ≤ b ∧ b ≤ 255) :
    Calls Tryd.prog 22 #[.slice SA bs.length sc] w (Ret (.agg ((tabL bs 128).map (Value.int .i64)).toArray) w) := by
  go_enter Tryd.func22, Tryd.ntmps22
  have hst0 := St.start w
  refine wp_seq ?_
  refine wp_region_T [0] [] [[0]] [] [.a 2] (fun ix σ β X => match ix with | 0 => σ 2 = .pointer (some ⟨(pb (β 2)), 0, none⟩) ∧ X 0 = eB (pb (β 2)) 49 ((List.replicate 128 (0 : Int)).map (Value.int .i64)).toArray | _ => True) [0] [0] [(2, 0, 1, 3)] hst0 ?_ ?_ ?_
  · exact fun ix _ _ _ _ _ _ hs hb hx h => match ix, h with
    | 0, h => by dsimp only at h ⊢; rw [← hs 2 rfl, ← hb 2 rfl, ← hx 0 rfl]; exact h
    | _ + 1, _ => trivial
  · refine ⟨?_, trivial⟩
    · refine sv_any rfl rfl fun ρ β W X cx => ?_
      exact dv_alloc (cs := ((List.replicate 128 (0 : Int)).map (Value.int .i64)).toArray) rfl (by kernel_rfl) rfl rfl (fun σ β' X' hs hb hv hx => ⟨hv, hx⟩)
  intro σ β X W1 hD hX hst1 fr hfr
  obtain ⟨B2_1, hu_B2_1⟩ : ∃ z, pb (β 2) = z := ⟨_, rfl⟩
  simp only [zM, exq 0 ((dTn (hD 0 lq)).2), hu_B2_1] at hst1
  dsimp only [mgT, vals, List.take, List.drop, List.cons_append, List.nil_append] at hfr
  simp only [ed 2 ((dTn (hD 0 lq)).1), hu_B2_1] at hfr
  clear hX hD hu_B2_1; subst hfr; clear σ β X
  refine then_normal ?_
  refine wp_seq ?_
  refine wp_region_T [0] [] [[1]] [] [.a 3] (fun ix σ β X => match ix with | 0 => σ 3 = .pointer (some ⟨(pb (β 3)), 0, none⟩) ∧ X 1 = eB (pb (β 3)) 49 ((List.replicate 128 (0 : Int)).map (Value.int .i64)).toArray | _ => True) [0, 1] [0] [(3, 0, 1, 4)] hst1 ?_ ?_ ?_
  · exact fun ix _ _ _ _ _ _ hs hb hx h => match ix, h with
    | 0, h => by dsimp only at h ⊢; rw [← hs 3 rfl, ← hb 3 rfl, ← hx 1 rfl]; exact h
    | _ + 1, _ => trivial
  · refine ⟨?_, trivial⟩
    · refine sv_any rfl rfl fun ρ β W X cx => ?_
      exact dv_alloc (cs := ((List.replicate 128 (0 : Int)).map (Value.int .i64)).toArray) rfl (by kernel_rfl) rfl rfl (fun σ β' X' hs hb hv hx => ⟨hv, hx⟩)
  intro σ β X W2 hD hX hst2 fr hfr
  obtain ⟨B3_2, hu_B3_2⟩ : ∃ z, pb (β 3) = z := ⟨_, rfl⟩
  simp only [zM, exq 0 (hX 0 _ rfl), exq 1 ((dTn (hD 0 lq)).2), hu_B3_2] at hst2
  dsimp only [mgT, vals, List.take, List.drop, List.cons_append, List.nil_append] at hfr
  simp only [ed 3 ((dTn (hD 0 lq)).1), hu_B3_2] at hfr
  clear hX hD hu_B3_2; subst hfr; clear σ β X
  refine then_normal ?_
  refine wp_seq ?_
  refine wp_seq ?_
  refine wp_region_P [0] [.k 4 (.int .i64 0)] [(4, 0, 1, 5)] hst2 fun W3 hst3 => ?_
  refine then_normal ?_
  refine wp_block ?_
  rw [← tabL_0 bs] at hst3
  refine wp_loopN (fun mz az W => ∃ k : Nat, ∃ u4_ : List Value, k ≤ 128 ∧ mz = 128 - k ∧ az = ⟨#[.slice SA bs.length sc, undef, .pointer (some ⟨B2_1, 0, none⟩), .pointer (some ⟨B3_2, 0, none⟩), .int .i64 ((k : Int)), (u4_.getD 0 undef), (u4_.getD 1 undef), (u4_.getD 2 undef), (u4_.getD 3 undef), (u4_.getD 4 undef), (u4_.getD 5 undef), (u4_.getD 6 undef), (u4_.getD 7 undef), (u4_.getD 8 undef), (u4_.getD 9 undef), undef], []⟩ ∧ St w [] [eB B2_1 49 ((tabL bs 0).map (Value.int .i64)).toArray, eB B3_2 49 ((tabL bs k).map (Value.int .i64)).toArray] W) (128 - 0) ?_ ?_
  · -- the loop begins
    have hp5 := hst3.pick [0, 1] (by decide) rfl
    exact ⟨0, [undef, undef, undef, undef, undef, undef, undef, undef, undef, undef], by omega, rfl, rfl, hp5⟩
  rintro n4 a4 W4 ⟨k, u4_, hk, rfl, rfl, hst4⟩
  refine wp_seq ?_
  refine wp_seq ?_
  refine wp_region_P [0, 1] [.k 5 (.int .i64 ((k : Int))), .k 6 (.bool (decide ((k : Int) < 128)))] [(5, 0, 2, 7)] hst4 fun W6 hst6 => ?_
  refine then_normal ?_
  rcases Bool.eq_false_or_eq_true (decide ((k : Int) < 128)) with hs7 | hs7
  · skip
    have hs7p : (k : Int) < 128 := by simpa using hs7
    refine wp_cond_true (show Act.eval _ _ = .bool true from (congrArg Value.bool hs7)) ?_
    refine wp_skip ?_
    refine then_normal ?_
    refine wp_seq ?_
    refine wp_block ?_
    refine wp_region_T [0, 0, 0, 6, 0, 31, 63] [[], [], [], [], [], [], [1]] [[], [], [], [], [], [], [2]] [[], [], [], [], [], [], [1]] [.k 9 (.int .i64 ((k : Int))), .k 10 (.slice SA bs.length sc), .k 11 (.int .i64 ((k : Int))), .c 12 (.int .i64 (standF bs (k : Int))), .k 13 (.pointer (some ⟨B3_2, 0, none⟩)), .c 14 (.pointer (some ⟨B3_2, k, none⟩)), .n] (fun ix σ β X => match ix with | 0 => True | 1 => True | 2 => True | 3 => True | 4 => True | 5 => True | 6 => X 2 = eB B3_2 49 ((tabL bs (k + 1)).map (Value.int .i64)).toArray | _ => True) [0, 2] [3, 5, 6] [(9, 0, 6, 15)] hst6 ?_ ?_ ?_
    · exact fun ix _ _ _ _ _ _ hs hb hx h => match ix, h with
      | 6, h => by dsimp only at h ⊢; rw [← hx 2 rfl]; exact h
      | 0, _ | 1, _ | 2, _ | 3, _ | 4, _ | 5, _ | _ + 7, _ => trivial
    · refine ⟨?_, ?_, ?_, trivial⟩
      · exact sv_call rfl rfl rfl rfl rfl (fun _ _ _ h => h) fun ρ β W X cx => ⟨_, _, run_callF (args := #[.slice SA bs.length sc, .int .i64 ((k : Int))]) rfl cx.sees rfl (by kernel_rfl) (map2 (cx.anc 1 rfl) (cx.anc 2 rfl)), stand_any _ _ bs (k : Int) _ (hSA.ext cx.upd.to_ext) hbs⟩
      · exact s4 rfl (fun _ _ _ h => h) fun cx => run_indexArrB (n := 128) (sz := 1) (m := k) (q := k) rfl (by kernel_rfl) (cx.anc 4 rfl) (cx.anc 0 rfl) (by omega) (by omega) (by omega)
      · refine sv_any rfl rfl fun ρ β W X cx => ?_
        exact dv_storeAr (m := k) rfl (cx.anc 5 rfl) (cx.anc 3 rfl) (by kernel_rfl) rfl rfl cx (cx.init 1 _ rfl) rfl (by rw [List.length_map, tabL_len]; omega) rfl (by rw [← List.map_set, tabL_set bs k (by omega)]) rfl rfl (fun σ β' X' hs hb hx => hx)
    intro σ β X W8 hD hX hst8 fr hfr
    simp only [zM, exq 0 (hX 0 _ rfl), exq 2 ((dTn (hD 6 lq)))] at hst8
    dsimp only [mgT, vals, List.take, List.drop, List.cons_append, List.nil_append] at hfr
    clear hX hD; subst hfr; clear σ β X
    refine blk_normal ?_
    refine then_normal ?_
    refine wp_region_P [0, 1, 3] [.k 7 (.int .i64 ((k : Int))), tI 8 ((k : Int) + 1) (by omega), .k 4 (.int .i64 ((k : Int) + 1))] [(4, 2, 1, 5), (2, 0, 2, 4)] hst8 fun W9 hst9 => ?_
    refine then_normal ?_
    refine ⟨128 - ((k + 1)), by omega, ?_⟩
    have hp10 := hst9.pick [0, 1] (by decide) rfl
    exact ⟨(k + 1), [.int .i64 ((k : Int)), .bool (decide ((k : Int) < 128)), .int .i64 ((k : Int)), .int .i64 ((k : Int) + 1), .int .i64 ((k : Int)), .slice SA bs.length sc, .int .i64 ((k : Int)), .int .i64 (standF bs (k : Int)), .pointer (some ⟨B3_2, 0, none⟩), .pointer (some ⟨B3_2, k, none⟩)], by omega, rfl, rfl, hp10⟩
  have hs7p : ¬ ((k : Int) < 128) := by simpa using hs7
  refine wp_cond_false (show Act.eval _ _ = .bool false from (congrArg Value.bool hs7)) ?_
  refine wp_exit ?_
  refine then_exit ?_
  refine then_exit ?_
  refine blk_eq ?_
  refine then_normal ?_
  refine wp_seq ?_
  obtain rfl : k = 128 := by omega
  refine wp_region_T [0, 1] [[1], [0]] [[], [2]] [[], [0]] [.c 15 (.agg ((tabL bs (128 : Nat)).map (Value.int .i64)).toArray), .n] (fun ix σ β X => match ix with | 0 => True | 1 => X 2 = eB B2_1 49 ((tabL bs (128 : Nat)).map (Value.int .i64)).toArray | _ => True) [1, 2] [0, 1] [(15, 0, 1, 16)] hst6 ?_ ?_ ?_
  · exact fun ix _ _ _ _ _ _ hs hb hx h => match ix, h with
    | 1, h => by dsimp only at h ⊢; rw [← hx 2 rfl]; exact h
    | 0, _ | _ + 2, _ => trivial
  · refine ⟨?_, ?_, trivial⟩
    · exact s4 rfl (fun _ _ _ h => h) fun cx => run_loadAr (n := 128) rfl (by kernel_rfl) (by kernel_rfl) (cx.out 3 rfl) (cx.blk (cx.init 1 _ rfl) rfl) (by simp [tabL_len])
    · refine sv_any rfl rfl fun ρ β W X cx => ?_
      exact dv_storeL (n := 128) rfl (cx.out 2 rfl) (cx.anc 0 rfl) (by kernel_rfl) (by simp [tabL_len]) (by simp [tabL_len]) (int_one _) cx (cx.init 0 _ rfl) rfl rfl rfl rfl (fun σ β' X' hs hb hx => hx)
  intro σ β X W11 hD hX hst11 fr hfr
  simp only [zM, exq 1 (hX 1 _ rfl), exq 2 ((dTn (hD 1 lq)))] at hst11
  dsimp only [mgT, vals, List.take, List.drop, List.cons_append, List.nil_append] at hfr
  clear hX hD; subst hfr; clear σ β X
  refine then_normal ?_
  refine wp_ret ?_
  refine bodyPost_ret (v := .agg ((tabL bs (128 : Nat)).map (Value.int .i64)).toArray) (results_cell (n := 128) Tryd.results22 rfl (by kernel_rfl) (by kernel_rfl) (hst11.blk 1 rfl) (by simp [tabL_len])) rfl ?_
  exact Ret.of rfl hst11.ext

set_option maxRecDepth 100000 in
set_option maxHeartbeats 4000000 in
theorem few_any (a b n1 n2 : Int) (ho : Bool) (RA : Option Addr) (rc : Nat) (rs : List Val) (w : World) (hA : At w RA (flatR rs)) (hlr : rs.length ≤ 9223372036854775807) :
    Calls Tryd.prog 13 #[.agg #[.int .i64 a, .int .i64 b, .int .i64 n1, .int .i64 n2, .bool ho, .slice RA rs.length rc]] w (FewPost a b n1 n2 ho rs w) := by
  go_enter Tryd.func13, Tryd.ntmps13
  have hst0 := St.start w
  refine wp_seq ?_
  refine wp_region_T [0, 0] [] [[0], [1]] [] [.a 1, .a 2] (fun ix σ β X => match ix with | 0 => σ 1 = .pointer (some ⟨(pb (β 1)), 0, none⟩) ∧ X 0 = eB (pb (β 1)) 27 #[.int .i64 a, .int .i64 b, .int .i64 n1, .int .i64 n2, .bool ho, .slice RA rs.length rc] | 1 => σ 2 = .pointer (some ⟨(pb (β 2)), 0, none⟩) ∧ X 1 = eB (pb (β 2)) 27 #[.int .i64 0, .int .i64 0, .int .i64 0, .int .i64 0, .bool false, .slice none 0 0] | _ => True) [0, 1] [0, 1] [(1, 0, 2, 3)] hst0 ?_ ?_ ?_
  · exact fun ix _ _ _ _ _ _ hs hb hx h => match ix, h with
    | 0, h => by dsimp only at h ⊢; rw [← hs 1 rfl, ← hb 1 rfl, ← hx 0 rfl]; exact h
    | 1, h => by dsimp only at h ⊢; rw [← hs 2 rfl, ← hb 2 rfl, ← hx 1 rfl]; exact h
    | _ + 2, _ => trivial
  · refine ⟨?_, ?_, trivial⟩
    · refine sv_any rfl rfl fun ρ β W X cx => ?_
      exact dv_box (cs := #[.int .i64 a, .int .i64 b, .int .i64 n1, .int .i64 n2, .bool ho, .slice RA rs.length rc]) rfl (cx.out 0 rfl) rfl rfl rfl (fun σ β' X' hs hb hv hx => ⟨hv, hx⟩)
    · refine sv_any rfl rfl fun ρ β W X cx => ?_
      exact dv_alloc (cs := #[.int .i64 0, .int .i64 0, .int .i64 0, .int .i64 0, .bool false, .slice none 0 0]) rfl (by kernel_rfl) rfl rfl (fun σ β' X' hs hb hv hx => ⟨hv, hx⟩)
  intro σ β X W1 hD hX hst1 fr hfr
  obtain ⟨B1_1, hu_B1_1⟩ : ∃ z, pb (β 1) = z := ⟨_, rfl⟩
  obtain ⟨B2_1, hu_B2_1⟩ : ∃ z, pb (β 2) = z := ⟨_, rfl⟩
  simp only [zM, exq 0 ((dTn (hD 0 lq)).2), exq 1 ((dTn (hD 1 lq)).2), hu_B1_1, hu_B2_1] at hst1
  dsimp only [mgT, vals, List.take, List.drop, List.cons_append, List.nil_append] at hfr
  simp only [ed 1 ((dTn (hD 0 lq)).1), ed 2 ((dTn (hD 1 lq)).1), hu_B1_1, hu_B2_1] at hfr
  clear hX hD hu_B1_1 hu_B2_1; subst hfr; clear σ β X
  refine then_normal ?_
  refine wp_seq ?_
  refine wp_region_T [0, 1] [] [[2]] [] [.a 6, .a 3] (fun ix σ β X => match ix with | 0 => σ 6 = .slice ((some ⟨(pb' (β 6)), 0, none⟩)) 0 0 ∧ X 2 = eO 103 3 (.slice ((some ⟨(pb' (β 6)), 0, none⟩)) 0 0) 0 (flatR (fewK rs 0)) | 1 => σ 3 = .slice ((some ⟨(pb' (β 6)), 0, none⟩)) 0 0 | _ => True) [0, 1, 2] [0, 1] [(3, 1, 1, 4), (2, 0, 1, 3)] hst1 ?_ ?_ ?_
  · exact fun ix _ _ _ _ _ _ hs hb hx h => match ix, h with
    | 0, h => by dsimp only at h ⊢; rw [← hs 6 rfl, ← hb 6 rfl, ← hx 2 rfl]; exact h
    | 1, h => by dsimp only at h ⊢; rw [← hs 3 rfl, ← hb 6 rfl]; exact h
    | _ + 2, _ => trivial
  · refine ⟨?_, ?_, trivial⟩
    · refine sv_any rfl rfl fun ρ β W X cx => ?_
      exact dv_litN (e := 103) (sz := 3) (xs := []) rfl (by simp [go_sem]) rfl (by decide) rfl rfl (fun σ β' X' hs hb hv hx => ⟨hv, hx⟩)
    · exact sv rfl rfl rfl rfl rfl _ (fun _ _ _ h => h) (fun β β' h => by rw [h 6 (by decide)]) fun ρ β W X cx => run_assign' rfl (dTn (cx.anc 0 rfl)).1
  intro σ β X W2 hD hX hst2 fr hfr
  obtain ⟨B6_2, hu_B6_2⟩ : ∃ z, pb' (β 6) = z := ⟨_, rfl⟩
  simp only [zM, exq 0 (hX 0 _ rfl), exq 1 (hX 1 _ rfl), exq 2 ((dTn (hD 0 lq)).2), hu_B6_2] at hst2
  dsimp only [mgT, vals, List.take, List.drop, List.cons_append, List.nil_append] at hfr
  simp only [ed 6 ((dTn (hD 0 lq)).1), ed 3 ((dTn (hD 1 lq))), hu_B6_2] at hfr
  clear hX hD hu_B6_2; subst hfr; clear σ β X
  refine then_normal ?_
  refine wp_seq ?_
  refine wp_seq ?_
  refine wp_region_P [0] [.k 4 (.int .i64 0)] [(4, 0, 1, 5)] hst2 fun W3 hst3 => ?_
  refine then_normal ?_
  refine wp_block ?_
  refine wp_loopN (fun mz az W => ∃ k : Nat, ∃ RB : Option Addr, ∃ RC : Nat, ∃ u4_ : List Value, k ≤ rs.length ∧ k ≤ 8 ∧ mz = rs.length - k ∧ az = ⟨#[.agg #[.int .i64 a, .int .i64 b, .int .i64 n1, .int .i64 n2, .bool ho, .slice RA rs.length rc], .pointer (some ⟨B1_1, 0, none⟩), .pointer (some ⟨B2_1, 0, none⟩), .slice RB k RC, .int .i64 ((k : Int)), (u4_.getD 0 undef), .slice ((some ⟨B6_2, 0, none⟩)) 0 0, (u4_.getD 1 undef), (u4_.getD 2 undef), (u4_.getD 3 undef), (u4_.getD 4 undef), (u4_.getD 5 undef), (u4_.getD 6 undef), (u4_.getD 7 undef), (u4_.getD 8 undef), (u4_.getD 9 undef), (u4_.getD 10 undef), (u4_.getD 11 undef), (u4_.getD 12 undef), (u4_.getD 13 undef), (u4_.getD 14 undef), (u4_.getD 15 undef), (u4_.getD 16 undef), (u4_.getD 17 undef), (u4_.getD 18 undef), (u4_.getD 19 undef), (u4_.getD 20 undef), (u4_.getD 21 undef), (u4_.getD 22 undef), (u4_.getD 23 undef), (u4_.getD 24 undef), (u4_.getD 25 undef), (u4_.getD 26 undef), (u4_.getD 27 undef), (u4_.getD 28 undef), undef, undef, undef], []⟩ ∧ St w [] [eB B1_1 27 #[.int .i64 a, .int .i64 b, .int .i64 n1, .int .i64 n2, .bool ho, .slice RA rs.length rc], eB B2_1 27 #[.int .i64 0, .int .i64 0, .int .i64 0, .int .i64 0, .bool false, .slice none 0 0], eO 103 3 (.slice RB k RC) k (flatR (fewK rs k))] W) (rs.length - 0) ?_ ?_
  · -- the loop begins
    have hp5 := hst3.pick [0, 1, 2] (by decide) rfl
    exact ⟨0, (some ⟨B6_2, 0, none⟩), 0, [undef, undef, undef, undef, undef, undef, undef, undef, undef, undef, undef, undef, undef, undef, undef, undef, undef, undef, undef, undef, undef, undef, undef, undef, undef, undef, undef, undef, undef], by omega, by omega, rfl, rfl, hp5⟩
  rintro n4 a4 W4 ⟨k, RB, RC, u4_, hk, hk8, rfl, rfl, hst4⟩
  refine wp_seq ?_
  refine wp_seq ?_
  refine wp_region_T [0, 0, 2, 6, 15, 31, 63, 127, 255] [[], [], [0]] [] [] [.k 7 (.int .i64 ((k : Int))), .k 8 (.pointer (some ⟨B1_1, 5, none⟩)), .c 9 (.slice RA rs.length rc), .k 10 (.int .i64 ((rs.length : Int))), .k 11 (.bool (decide ((k : Int) < (rs.length : Int)))), .k 12 (.bool (decide ((k : Int) < (rs.length : Int)))), .z 13 (decide ((k : Int) < (rs.length : Int))) (.int .i64 ((k : Int))), .z 14 (decide ((k : Int) < (rs.length : Int))) (.bool (decide ((k : Int) < 8))), tA 15 (decide ((k : Int) < (rs.length : Int))) (decide ((k : Int) < 8))] (fun _ _ _ _ => True) [0, 1, 2] [2] [(7, 0, 9, 16)] hst4 ?_ ?_ ?_
  · exact fun _ _ _ _ _ _ _ _ _ _ h => h
  · refine ⟨?_, trivial⟩
    · exact s4 rfl (fun _ _ _ h => h) fun cx => run_load1 rfl (by kernel_rfl) (cx.anc 1 rfl) ((cx.blk (cx.init 0 _ rfl) rfl).cell 5)
  intro σ β X W6 hD hX hst6 fr hfr
  simp only [zM, exq 0 (hX 0 _ rfl), exq 1 (hX 1 _ rfl), exq 2 (hX 2 _ rfl)] at hst6
  dsimp only [mgT, vals, List.take, List.drop, List.cons_append, List.nil_append] at hfr
  clear hX hD; subst hfr; clear σ β X
  refine then_normal ?_
  rcases Bool.eq_false_or_eq_true ((decide ((k : Int) < (rs.length : Int))) && (decide ((k : Int) < 8))) with hs7 | hs7
  · skip
    have hs7p := hs7
    simp only [zB] at hs7p
    obtain ⟨hs7p1, hs7p2⟩ := hs7p
    refine wp_cond_true (show Act.eval _ _ = .bool true from (congrArg Value.bool hs7)) ?_
    refine wp_skip ?_
    refine then_normal ?_
    refine wp_seq ?_
    refine wp_block ?_
    refine wp_seq ?_
    refine wp_region_T [0, 1, 0, 7, 15, 0, 63] [[], [0], [], [], [], [], [3]] [[], [], [], [], [], [3], [4]] [[], [], [], [], [], [], [3]] [.k 18 (.pointer (some ⟨B1_1, 5, none⟩)), .c 19 (.slice RA rs.length rc), .k 20 (.int .i64 ((k : Int))), .c 21 (.pointer (some ((ad RA).add (k * 3)))), .c 22 (.agg #[.int .i64 ((rs.getD k v0).1), .int .i64 ((rs.getD k v0).2.1), .string ((rs.getD k v0).2.2)]), .a 5, .n] (fun ix σ β X => match ix with | 0 => True | 1 => True | 2 => True | 3 => True | 4 => True | 5 => σ 5 = .pointer (some ⟨(pb (β 5)), 0, none⟩) ∧ X 3 = eB (pb (β 5)) 103 #[.int .i64 0, .int .i64 0, .string ByteArray.empty] | 6 => X 4 = eB (pb (β 5)) 103 #[.int .i64 ((rs.getD k v0).1), .int .i64 ((rs.getD k v0).2.1), .string ((rs.getD k v0).2.2)] | _ => True) [0, 1, 2, 4] [1, 3, 4, 5, 6] [(5, 5, 1, 6), (12, 0, 5, 17)] hst6 ?_ ?_ ?_
    · exact fun ix _ _ _ _ _ _ hs hb hx h => match ix, h with
      | 5, h => by dsimp only at h ⊢; rw [← hs 5 rfl, ← hb 5 rfl, ← hx 3 rfl]; exact h
      | 6, h => by dsimp only at h ⊢; rw [← hb 5 rfl, ← hx 4 rfl]; exact h
      | 0, _ | 1, _ | 2, _ | 3, _ | 4, _ | _ + 7, _ => trivial
    · refine ⟨?_, ?_, ?_, ?_, ?_, trivial⟩
      · exact s4 rfl (fun _ _ _ h => h) fun cx => run_load1 rfl (by kernel_rfl) (cx.anc 0 rfl) ((cx.blk (cx.init 0 _ rfl) rfl).cell 5)
      · exact s4 rfl (fun _ _ _ h => h) fun cx => run_indexSlM (e := 103) (m := k) (sz := 3) rfl (by kernel_rfl) (by kernel_rfl) (cx.anc 1 rfl) (cx.anc 2 rfl) (by omega) (by omega) (hA.ext cx.upd.to_ext) (by have h_ := flatLen (f := cellsV) (sz := 3) cellsV_len rs; show 0 < (List.flatMap cellsV rs).length; omega)
      · exact s4 rfl (fun _ _ _ h => h) fun cx => run_loadElt (f := cellsV) (m := k) (sz := 3) (off := 0) (n := 3) rfl (by kernel_rfl) (by kernel_rfl) (cx.anc 3 rfl) rfl cellsV_len (hA.ext cx.upd.to_ext) (getD_some (ts := rs) (m := k) v0 (by omega)) (fun k hk => match k, hk with | 0, _ => rfl | 1, _ => rfl | 2, _ => rfl | k + 3, hk => absurd hk (by omega))
      · refine sv_any rfl rfl fun ρ β W X cx => ?_
        exact dv_alloc (cs := #[.int .i64 0, .int .i64 0, .string ByteArray.empty]) rfl (by kernel_rfl) rfl rfl (fun σ β' X' hs hb hv hx => ⟨hv, hx⟩)
      · refine sv_any rfl rfl fun ρ β W X cx => ?_
        exact dv_store (n := 3) rfl (dTn (cx.anc 5 rfl)).1 (cx.anc 4 rfl) (by kernel_rfl) (by kernel_rfl) (by kernel_rfl) cx (dTn (cx.anc 5 rfl)).2 rfl (Nat.le_of_ble_eq_true rfl) (by kernel_rfl) rfl rfl rfl (fun σ β' X' hs hb hx => by rw [hb 5]; exact hx)
    intro σ β X W8 hD hX hst8 fr hfr
    obtain ⟨B5_8, hu_B5_8⟩ : ∃ z, pb (β 5) = z := ⟨_, rfl⟩
    simp only [zM, exq 0 (hX 0 _ rfl), exq 1 (hX 1 _ rfl), exq 2 (hX 2 _ rfl), exq 4 ((dTn (hD 6 lq))), hu_B5_8] at hst8
    dsimp only [mgT, vals, List.take, List.drop, List.cons_append, List.nil_append] at hfr
    simp only [ed 5 ((dTn (hD 5 lq)).1), hu_B5_8] at hfr
    clear hX hD hu_B5_8; subst hfr; clear σ β X
    refine then_normal ?_
    refine wp_seq ?_
    refine wp_region_T [0, 1, 0, 4, 12, 28, 63, 127, 255] [[], [3], [], [3], [], [], [], [], [3]] [[], [], [], [], [], [], [], [], [4]] [[], [], [], [], [], [], [], [], [3]] [.k 23 (.pointer (some ⟨B5_8, 2, none⟩)), .c 24 (.string ((rs.getD k v0).2.2)), .k 25 (.pointer (some ⟨B5_8, 2, none⟩)), .c 26 (.string ((rs.getD k v0).2.2)), .k 27 (.int .i64 ((((rs.getD k v0).2.2).size : Int))), .c 28 (.int .i64 (((min (((rs.getD k v0).2.2).size) 60 : Nat) : Int))), .c 29 (.string (((rs.getD k v0).2.2).extract 0 (((min (((rs.getD k v0).2.2).size) 60 : Nat))))), .k 30 (.pointer (some ⟨B5_8, 2, none⟩)), .n] (fun ix σ β X => match ix with | 0 => True | 1 => True | 2 => True | 3 => True | 4 => True | 5 => True | 6 => True | 7 => True | 8 => X 4 = eB B5_8 103 #[.int .i64 ((rs.getD k v0).1), .int .i64 ((rs.getD k v0).2.1), .string (((rs.getD k v0).2.2).extract 0 (((min (((rs.getD k v0).2.2).size) 60 : Nat))))] | _ => True) [0, 1, 2, 4] [1, 3, 5, 6, 8] [(23, 0, 8, 31)] hst8 ?_ ?_ ?_
    · exact fun ix _ _ _ _ _ _ hs hb hx h => match ix, h with
      | 8, h => by dsimp only at h ⊢; rw [← hx 4 rfl]; exact h
      | 0, _ | 1, _ | 2, _ | 3, _ | 4, _ | 5, _ | 6, _ | 7, _ | _ + 9, _ => trivial
    · refine ⟨?_, ?_, ?_, ?_, ?_, trivial⟩
      · exact s4 rfl (fun _ _ _ h => h) fun cx => run_load1 rfl (by kernel_rfl) (cx.anc 0 rfl) ((cx.blk (cx.init 3 _ rfl) rfl).cell 2)
      · exact s4 rfl (fun _ _ _ h => h) fun cx => run_load1 rfl (by kernel_rfl) (cx.anc 2 rfl) ((cx.blk (cx.init 3 _ rfl) rfl).cell 2)
      · exact s4 rfl (fun _ _ _ h => h) fun cx => run_min2 rfl (cx.anc 4 rfl) (cx.sees.const _) (by omega)
      · exact s4 rfl (fun _ _ _ h => h) fun cx => run_slice_hi (l := ((min (((rs.getD k v0).2.2).size) 60 : Nat))) rfl (by kernel_rfl) (cx.anc 1 rfl) (cx.anc 5 rfl) (by omega) (by omega)
      · refine sv_any rfl rfl fun ρ β W X cx => ?_
        exact dv_store (n := 1) rfl (cx.anc 7 rfl) (cx.anc 6 rfl) (by kernel_rfl) (by kernel_rfl) (by kernel_rfl) cx (cx.init 3 _ rfl) rfl (Nat.le_of_ble_eq_true rfl) (by kernel_rfl) rfl rfl rfl (fun σ β' X' hs hb hx => hx)
    intro σ β X W9 hD hX hst9 fr hfr
    simp only [zM, exq 0 (hX 0 _ rfl), exq 1 (hX 1 _ rfl), exq 2 (hX 2 _ rfl), exq 4 ((dTn (hD 8 lq)))] at hst9
    dsimp only [mgT, vals, List.take, List.drop, List.cons_append, List.nil_append] at hfr
    clear hX hD; subst hfr; clear σ β X
    refine then_normal ?_
    refine wp_region_T [0, 0, 2, 7, 15] [[], [3], [], [4, 2]] [[], [], [4], [5]] [[], [], [], [2]] [.k 31 (.slice RB k RC), .c 32 (.agg #[.int .i64 ((rs.getD k v0).1), .int .i64 ((rs.getD k v0).2.1), .string (((rs.getD k v0).2.2).extract 0 (((min (((rs.getD k v0).2.2).size) 60 : Nat))))]), .a 33, .a 34, .a 3] (fun ix σ β X => match ix with | 0 => True | 1 => True | 2 => σ 33 = .slice ((some ⟨(pb' (β 33)), 0, none⟩)) 1 1 ∧ X 4 = eO 103 3 (.slice ((some ⟨(pb' (β 33)), 0, none⟩)) 1 1) 1 (flatR [cutV (rs.getD k v0)]) | 3 => σ 34 = .slice (sA (β 34)) (k + 1) (sC (β 34)) ∧ X 5 = eO 103 3 (.slice (sA (β 34)) (k + 1) (sC (β 34))) (k + 1) (flatR (fewK rs (k + 1))) | 4 => σ 3 = .slice (sA (β 34)) (k + 1) (sC (β 34)) | _ => True) [0, 1, 3, 4, 5] [1, 2, 3, 4] [(3, 4, 1, 4), (27, 0, 4, 31)] hst9 ?_ ?_ ?_
    · exact fun ix _ _ _ _ _ _ hs hb hx h => match ix, h with
      | 2, h => by dsimp only at h ⊢; rw [← hs 33 rfl, ← hb 33 rfl, ← hx 4 rfl]; exact h
      | 3, h => by dsimp only at h ⊢; rw [← hs 34 rfl, ← hb 34 rfl, ← hx 5 rfl]; exact h
      | 4, h => by dsimp only at h ⊢; rw [← hs 3 rfl, ← hb 34 rfl]; exact h
      | 0, _ | 1, _ | _ + 5, _ => trivial
    · refine ⟨?_, ?_, ?_, ?_, trivial⟩
      · exact s4 rfl (fun _ _ _ h => h) fun cx => run_loadB (n := 3) rfl (by kernel_rfl) (by kernel_rfl) (cx.out 5 rfl) (cx.blk (cx.init 3 _ rfl) rfl) (Nat.le_of_ble_eq_true rfl) rfl
      · refine sv_any rfl rfl fun ρ β W X cx => ?_
        have fF32 : ρ (.tmp 32) = .agg #[.int .i64 ((rs.getD k v0).1), .int .i64 ((rs.getD k v0).2.1), .string (((rs.getD k v0).2.2).extract 0 (((min (((rs.getD k v0).2.2).size) 60 : Nat))))] := (cx.anc 1 rfl)
        exact dv_litN (e := 103) (sz := 3) (xs := [.int .i64 ((rs.getD k v0).1), .int .i64 ((rs.getD k v0).2.1), .string (((rs.getD k v0).2.2).extract 0 (((min (((rs.getD k v0).2.2).size) 60 : Nat))))]) rfl (by simp [go_sem, fF32]) rfl (by decide) rfl rfl (fun σ β' X' hs hb hv hx => ⟨hv, hx⟩)
      · refine sv_any rfl rfl fun ρ β W X cx => ?_
        obtain ⟨i0, hi0, hz0, hz1, hz2⟩ := info_parts Tryd.infoVal
        refine dv_appendN (n := k) (m := 1) (nm := k + 1) (sz := 3) (xs := flatR (fewK rs k)) (news := flatR [cutV (rs.getD k v0)]) (xs' := flatR (fewK rs (k + 1))) rfl (ty := 25) rfl (by kernel_rfl) hi0 hz0 hz1 hz2 rfl (by decide) (cx.anc 0 rfl) cx (cx.init 2 _ rfl) rfl (dTn (cx.anc 2 rfl)).1 (by rfl) (At.of_ownN (cx.row (dTn (cx.anc 2 rfl)).2 rfl)) (flatR_one _) (by simp only [maxLen]; omega) (by omega) rfl rfl rfl (by omega) (fewK_snoc (by omega)) (fun σ β' X' hs hb hv hx => ?_)
        exact ⟨hv, hx⟩
      · exact sv rfl rfl rfl rfl rfl _ (fun _ _ _ h => h) (fun β β' h => by rw [h 34 (by decide)]) fun ρ β W X cx => run_assign' rfl (dTn (cx.anc 3 rfl)).1
    intro σ β X W10 hD hX hst10 fr hfr
    obtain ⟨B33_10, hu_B33_10⟩ : ∃ z, pb' (β 33) = z := ⟨_, rfl⟩
    obtain ⟨A34_10, hu_A34_10⟩ : ∃ z, sA (β 34) = z := ⟨_, rfl⟩
    obtain ⟨c34_10, hu_c34_10⟩ : ∃ z, sC (β 34) = z := ⟨_, rfl⟩
    simp only [zM, exq 0 (hX 0 _ rfl), exq 1 (hX 1 _ rfl), exq 3 (hX 3 _ rfl), exq 4 ((dTn (hD 2 lq)).2), exq 5 ((dTn (hD 3 lq)).2), hu_B33_10, hu_A34_10, hu_c34_10] at hst10
    dsimp only [mgT, vals, List.take, List.drop, List.cons_append, List.nil_append] at hfr
    simp only [ed 33 ((dTn (hD 2 lq)).1), ed 34 ((dTn (hD 3 lq)).1), ed 3 ((dTn (hD 4 lq))), hu_B33_10, hu_A34_10, hu_c34_10] at hfr
    clear hX hD hu_B33_10 hu_A34_10 hu_c34_10; subst hfr; clear σ β X
    refine blk_normal ?_
    refine then_normal ?_
    refine wp_region_P [0, 1, 3] [.k 16 (.int .i64 ((k : Int))), tI 17 ((k : Int) + 1) (by omega), .k 4 (.int .i64 ((k : Int) + 1))] [(4, 2, 1, 5), (11, 0, 2, 13)] hst10 fun W11 hst11 => ?_
    refine then_normal ?_
    refine ⟨rs.length - ((k + 1)), by omega, ?_⟩
    have hp12 := hst11.pick [0, 1, 4] (by decide) rfl
    exact ⟨(k + 1), A34_10, c34_10, [.pointer (some ⟨B5_8, 0, none⟩), .int .i64 ((k : Int)), .pointer (some ⟨B1_1, 5, none⟩), .slice RA rs.length rc, .int .i64 ((rs.length : Int)), .bool (decide ((k : Int) < (rs.length : Int))), .bool (decide ((k : Int) < (rs.length : Int))), mb (decide ((k : Int) < (rs.length : Int))) (.int .i64 ((k : Int))), mb (decide ((k : Int) < (rs.length : Int))) (.bool (decide ((k : Int) < 8))), .bool ((decide ((k : Int) < (rs.length : Int))) && (decide ((k : Int) < 8))), .int .i64 ((k : Int)), .int .i64 ((k : Int) + 1), .pointer (some ⟨B1_1, 5, none⟩), .slice RA rs.length rc, .int .i64 ((k : Int)), .pointer (some ((ad RA).add (k * 3))), .agg #[.int .i64 ((rs.getD k v0).1), .int .i64 ((rs.getD k v0).2.1), .string ((rs.getD k v0).2.2)], .pointer (some ⟨B5_8, 2, none⟩), .string ((rs.getD k v0).2.2), .pointer (some ⟨B5_8, 2, none⟩), .string ((rs.getD k v0).2.2), .int .i64 ((((rs.getD k v0).2.2).size : Int)), .int .i64 (((min (((rs.getD k v0).2.2).size) 60 : Nat) : Int)), .string (((rs.getD k v0).2.2).extract 0 (((min (((rs.getD k v0).2.2).size) 60 : Nat)))), .pointer (some ⟨B5_8, 2, none⟩), .slice RB k RC, .agg #[.int .i64 ((rs.getD k v0).1), .int .i64 ((rs.getD k v0).2.1), .string (((rs.getD k v0).2.2).extract 0 (((min (((rs.getD k v0).2.2).size) 60 : Nat))))], .slice ((some ⟨B33_10, 0, none⟩)) 1 1, .slice A34_10 (k + 1) c34_10], by omega, by omega, rfl, rfl, hp12⟩
  have hs7p := hs7
  simp only [zB] at hs7p
  refine wp_cond_false (show Act.eval _ _ = .bool false from (congrArg Value.bool hs7)) ?_
  refine wp_exit ?_
  refine then_exit ?_
  refine then_exit ?_
  refine blk_eq ?_
  refine then_normal ?_
  refine wp_seq ?_
  refine wp_region_T [0, 1, 3] [[], [], [0]] [[], [], [3]] [[], [], [0]] [.k 35 (.slice RB k RC), .k 36 (.pointer (some ⟨B1_1, 5, none⟩)), .n] (fun ix σ β X => match ix with | 0 => True | 1 => True | 2 => X 3 = eB B1_1 27 #[.int .i64 a, .int .i64 b, .int .i64 n1, .int .i64 n2, .bool ho, .slice RB k RC] | _ => True) [1, 2, 3] [2] [(35, 0, 2, 37)] hst6 ?_ ?_ ?_
  · exact fun ix _ _ _ _ _ _ hs hb hx h => match ix, h with
    | 2, h => by dsimp only at h ⊢; rw [← hx 3 rfl]; exact h
    | 0, _ | 1, _ | _ + 3, _ => trivial
  · refine ⟨?_, trivial⟩
    · refine sv_any rfl rfl fun ρ β W X cx => ?_
      exact dv_store (n := 1) rfl (cx.anc 1 rfl) (cx.anc 0 rfl) (by kernel_rfl) (by kernel_rfl) (by kernel_rfl) cx (cx.init 0 _ rfl) rfl (Nat.le_of_ble_eq_true rfl) (by kernel_rfl) rfl rfl rfl (fun σ β' X' hs hb hx => hx)
  intro σ β X W13 hD hX hst13 fr hfr
  simp only [zM, exq 1 (hX 1 _ rfl), exq 2 (hX 2 _ rfl), exq 3 ((dTn (hD 2 lq)))] at hst13
  dsimp only [mgT, vals, List.take, List.drop, List.cons_append, List.nil_append] at hfr
  clear hX hD; subst hfr; clear σ β X
  refine then_normal ?_
  refine wp_seq ?_
  refine wp_region_T [0, 1] [[2], [0]] [[], [3]] [[], [0]] [.c 37 (.agg #[.int .i64 a, .int .i64 b, .int .i64 n1, .int .i64 n2, .bool ho, .slice RB k RC]), .n] (fun ix σ β X => match ix with | 0 => True | 1 => X 3 = eB B2_1 27 #[.int .i64 a, .int .i64 b, .int .i64 n1, .int .i64 n2, .bool ho, .slice RB k RC] | _ => True) [1, 2, 3] [0, 1] [(37, 0, 1, 38)] hst13 ?_ ?_ ?_
  · exact fun ix _ _ _ _ _ _ hs hb hx h => match ix, h with
    | 1, h => by dsimp only at h ⊢; rw [← hx 3 rfl]; exact h
    | 0, _ | _ + 2, _ => trivial
  · refine ⟨?_, ?_, trivial⟩
    · exact s4 rfl (fun _ _ _ h => h) fun cx => run_loadB (n := 6) rfl (by kernel_rfl) (by kernel_rfl) (cx.out 1 rfl) (cx.blk (cx.init 2 _ rfl) rfl) (Nat.le_of_ble_eq_true rfl) rfl
    · refine sv_any rfl rfl fun ρ β W X cx => ?_
      exact dv_store (n := 6) rfl (cx.out 2 rfl) (cx.anc 0 rfl) (by kernel_rfl) (by kernel_rfl) (by kernel_rfl) cx (cx.init 0 _ rfl) rfl (Nat.le_of_ble_eq_true rfl) (by kernel_rfl) rfl rfl rfl (fun σ β' X' hs hb hx => hx)
  intro σ β X W14 hD hX hst14 fr hfr
  simp only [zM, exq 1 (hX 1 _ rfl), exq 2 (hX 2 _ rfl), exq 3 ((dTn (hD 1 lq)))] at hst14
  dsimp only [mgT, vals, List.take, List.drop, List.cons_append, List.nil_append] at hfr
  clear hX hD; subst hfr; clear σ β X
  refine then_normal ?_
  refine wp_ret ?_
  refine bodyPost_ret (v := .agg #[.int .i64 a, .int .i64 b, .int .i64 n1, .int .i64 n2, .bool ho, .slice RB k RC]) (results_cell (n := 6) Tryd.results13 rfl (by kernel_rfl) (by kernel_rfl) (hst14.blk 2 rfl) rfl) rfl ?_
  have hrw := fewK_end hk hk8 (by omega)
  have hrl : k = (fewF rs).length := by rw [← hrw, fewK_len rs k hk]
  exact ⟨_, _, by rw [← hrl], by have h := hst14.own' 0 rfl; rw [hrw] at h; rw [← hrl]; exact h, hst14.ext⟩

set_option maxRecDepth 100000 in
set_option maxHeartbeats 16000000 in
theorem tupletells_any (a b n1 n2 : Int) (ho : Bool) (RA : Option Addr) (rc : Nat) (rs : List Val) (LA0 : Option Addr) (c0 : Nat) (l : List Int) (hi hz : Int) (LA : Option Addr) (lc : Nat) (ls : List Int) (OA : Option Addr) (oc : Nat) (own : List Int) (SA : Option Addr) (sc : Nat) (bs : List Int) (w : World) (hA : At w RA (flatR rs)) (hlr : rs.length ≤ 9223372036854775807) (hA0 : At w LA0 (l.map (Value.int .i64))) (hl0 : l.length ≤ 9223372036854775807) (hL : At w LA (ls.map (Value.int .i64))) (hO : At w OA (own.map (Value.int .i64))) (hlc : ls.length ≤ lc) (hoc : own.length ≤ oc) (hSA : At w SA (bs.map (Value.int .u8))) (hbs : ∀ b ∈ bs, 0 ≤ b ∧ b ≤ 255) (hN : NoneAt w) :
    Calls Tryd.prog 4 #[.agg #[.int .i64 a, .int .i64 b, .int .i64 n1, .int .i64 n2, .bool ho, .slice RA rs.length rc], .slice LA0 l.length c0, .agg #[.int .i64 hi, .slice LA ls.length lc, .slice OA own.length oc, .int .i64 hz, .slice SA bs.length sc]] w (Ret (.bool true) w) := by
  have hvr : (vrowF l).length ≤ 3 := by rw [vrowF, madeR_len]; omega
  have hfr := few_len8 rs
  have hl1 : (ls.take 60).length ≤ 60 := by rw [List.length_take]; omega
  have hl2 : (own.take 20).length ≤ 20 := by rw [List.length_take]; omega
  go_enter Tryd.func4, Tryd.ntmps4
  have hst0 := St.start w
  refine wp_seq ?_
  refine wp_region_T [0, 0, 0] [] [[0], [1]] [] [.a 3, .a 5, .k 6 (.bool false)] (fun ix σ β X => match ix with | 0 => σ 3 = .pointer (some ⟨(pb (β 3)), 0, none⟩) ∧ X 0 = eB (pb (β 3)) 27 #[.int .i64 a, .int .i64 b, .int .i64 n1, .int .i64 n2, .bool ho, .slice RA rs.length rc] | 1 => σ 5 = .pointer (some ⟨(pb (β 5)), 0, none⟩) ∧ X 1 = eB (pb (β 5)) 45 #[.int .i64 hi, .slice LA ls.length lc, .slice OA own.length oc, .int .i64 hz, .slice SA bs.length sc] | _ => True) [0, 1] [0, 1] [(3, 0, 1, 4), (1, 1, 2, 3)] hst0 ?_ ?_ ?_
  · exact fun ix _ _ _ _ _ _ hs hb hx h => match ix, h with
    | 0, h => by dsimp only at h ⊢; rw [← hs 3 rfl, ← hb 3 rfl, ← hx 0 rfl]; exact h
    | 1, h => by dsimp only at h ⊢; rw [← hs 5 rfl, ← hb 5 rfl, ← hx 1 rfl]; exact h
    | _ + 2, _ => trivial
  · refine ⟨?_, ?_, trivial⟩
    · refine sv_any rfl rfl fun ρ β W X cx => ?_
      exact dv_box (cs := #[.int .i64 a, .int .i64 b, .int .i64 n1, .int .i64 n2, .bool ho, .slice RA rs.length rc]) rfl (cx.out 0 rfl) rfl rfl rfl (fun σ β' X' hs hb hv hx => ⟨hv, hx⟩)
    · refine sv_any rfl rfl fun ρ β W X cx => ?_
      exact dv_box (cs := #[.int .i64 hi, .slice LA ls.length lc, .slice OA own.length oc, .int .i64 hz, .slice SA bs.length sc]) rfl (cx.out 2 rfl) rfl rfl rfl (fun σ β' X' hs hb hv hx => ⟨hv, hx⟩)
  intro σ β X W1 hD hX hst1 fr hfr
  obtain ⟨B3_1, hu_B3_1⟩ : ∃ z, pb (β 3) = z := ⟨_, rfl⟩
  obtain ⟨B5_1, hu_B5_1⟩ : ∃ z, pb (β 5) = z := ⟨_, rfl⟩
  simp only [zM, exq 0 ((dTn (hD 0 lq)).2), exq 1 ((dTn (hD 1 lq)).2), hu_B3_1, hu_B5_1] at hst1
  dsimp only [mgT, vals, List.take, List.drop, List.cons_append, List.nil_append] at hfr
  simp only [ed 3 ((dTn (hD 0 lq)).1), ed 5 ((dTn (hD 1 lq)).1), hu_B3_1, hu_B5_1] at hfr
  clear hX hD hu_B3_1 hu_B5_1; subst hfr; clear σ β X
  refine then_normal ?_
  refine wp_seq ?_
  refine wp_region_T [0, 1] [] [] [] [.c 20 (.bool true), .k 7 (.bool true)] (fun _ _ _ _ => True) [0, 1] [0] [(7, 1, 1, 8), (12, 0, 1, 13)] hst1 ?_ ?_ ?_
  · exact fun _ _ _ _ _ _ _ _ _ _ h => h
  · refine ⟨?_, trivial⟩
    · exact sv_call rfl rfl rfl rfl rfl (fun _ _ _ h => h) fun ρ β W X cx => ⟨_, _, run_callF (args := #[]) rfl cx.sees rfl (by kernel_rfl) map0, sanity_any _ (hN.ext cx.upd.to_ext)⟩
  intro σ β X W2 hD hX hst2 fr hfr
  simp only [zM, exq 0 (hX 0 _ rfl), exq 1 (hX 1 _ rfl)] at hst2
  dsimp only [mgT, vals, List.take, List.drop, List.cons_append, List.nil_append] at hfr
  clear hX hD; subst hfr; clear σ β X
  refine then_normal ?_
  refine wp_seq ?_
  refine wp_region_T [0, 1, 3] [[1], [], [1]] [[], [2, 3], [4]] [[], [], [1]] [.c 21 (.agg #[.int .i64 hi, .slice LA ls.length lc, .slice OA own.length oc, .int .i64 hz, .slice SA bs.length sc]), .a 22, .n] (fun ix σ β X => match ix with | 0 => True | 1 => σ 22 = .agg #[.int .i64 hi, .slice (sA (tg (β 22) 1)) ((ls.take 60).length) (sC (tg (β 22) 1)), .slice (sA (tg (β 22) 2)) ((own.take 20).length) (sC (tg (β 22) 2)), .int .i64 hz, .slice SA bs.length sc] ∧ X 2 = eO 3 1 (.slice (sA (tg (β 22) 1)) ((ls.take 60).length) (sC (tg (β 22) 1))) ((ls.take 60).length) ((ls.take 60).map (Value.int .i64)) ∧ X 3 = eO 3 1 (.slice (sA (tg (β 22) 2)) ((own.take 20).length) (sC (tg (β 22) 2))) ((own.take 20).length) ((own.take 20).map (Value.int .i64)) | 2 => X 4 = eB B5_1 45 #[.int .i64 hi, .slice (sA (tg (β 22) 1)) ((ls.take 60).length) (sC (tg (β 22) 1)), .slice (sA (tg (β 22) 2)) ((own.take 20).length) (sC (tg (β 22) 2)), .int .i64 hz, .slice SA bs.length sc] | _ => True) [0, 2, 3, 4] [0, 1, 2] [(21, 0, 2, 23)] hst2 ?_ ?_ ?_
  · exact fun ix _ _ _ _ _ _ hs hb hx h => match ix, h with
    | 1, h => by dsimp only at h ⊢; rw [← hs 22 rfl, ← hb 22 rfl, ← hx 2 rfl, ← hx 3 rfl]; exact h
    | 2, h => by dsimp only at h ⊢; rw [← hb 22 rfl, ← hx 4 rfl]; exact h
    | 0, _ | _ + 3, _ => trivial
  · refine ⟨?_, ?_, ?_, trivial⟩
    · exact s4 rfl (fun _ _ _ h => h) fun cx => run_loadB (n := 5) rfl (by kernel_rfl) (by kernel_rfl) (cx.out 5 rfl) (cx.blk (cx.init 1 _ rfl) rfl) (Nat.le_of_ble_eq_true rfl) rfl
    · refine sv_any rfl rfl fun ρ β W X cx => ?_
      refine DoesU.call (run_callF (args := #[.agg #[.int .i64 hi, .slice LA ls.length lc, .slice OA own.length oc, .int .i64 hz, .slice SA bs.length sc]]) rfl cx.sees rfl (by kernel_rfl) (map1 (cx.anc 0 rfl))) ?_
      refine (cut_any hi hz _ _ ls _ _ own _ _ _ _ (hL.ext cx.upd.to_ext) (hO.ext cx.upd.to_ext) hlc hoc).mono ?_
      rintro e W1 ⟨A4, c4, B4, d4, rfl, hc⟩
      refine ⟨_, rfl, post_st [eO 3 1 (.slice A4 (ls.take 60).length c4) (ls.take 60).length ((ls.take 60).map (Value.int .i64)), eO 3 1 (.slice B4 (own.take 20).length d4) (own.take 20).length ((own.take 20).map (Value.int .i64))] rfl rfl hc (fun σ β' X' hs hb hv hN => ?_)⟩
      have hv1 := (hv 22 rfl).1; have hv2 := (hv 22 rfl).2
      exact ⟨hv1.trans (by rw [hv2]; rfl), (by rw [hv2]; exact (List.cons.inj hN).1), (by rw [hv2]; exact (List.cons.inj (List.cons.inj hN).2).1)⟩
    · refine sv_any rfl rfl fun ρ β W X cx => ?_
      exact dv_store (n := 5) rfl (cx.out 5 rfl) (dTn (cx.anc 1 rfl)).1 (by kernel_rfl) (by kernel_rfl) (by kernel_rfl) cx (cx.init 1 _ rfl) rfl (Nat.le_of_ble_eq_true rfl) (by kernel_rfl) rfl rfl rfl (fun σ β' X' hs hb hx => by rw [hb 22]; exact hx)
  intro σ β X W3 hD hX hst3 fr hfr
  obtain ⟨A22_3, hu_A22_3⟩ : ∃ z, sA (tg (β 22) 1) = z := ⟨_, rfl⟩
  obtain ⟨c22_3, hu_c22_3⟩ : ∃ z, sC (tg (β 22) 1) = z := ⟨_, rfl⟩
  obtain ⟨A22q_3, hu_A22q_3⟩ : ∃ z, sA (tg (β 22) 2) = z := ⟨_, rfl⟩
  obtain ⟨c22q_3, hu_c22q_3⟩ : ∃ z, sC (tg (β 22) 2) = z := ⟨_, rfl⟩
  simp only [zM, exq 0 (hX 0 _ rfl), exq 2 ((dTn (hD 1 lq)).2.1), exq 3 ((dTn (hD 1 lq)).2.2), exq 4 ((dTn (hD 2 lq))), hu_A22_3, hu_c22_3, hu_A22q_3, hu_c22q_3] at hst3
  dsimp only [mgT, vals, List.take, List.drop, List.cons_append, List.nil_append] at hfr
  simp only [ed 22 ((dTn (hD 1 lq)).1), hu_A22_3, hu_c22_3, hu_A22q_3, hu_c22q_3] at hfr
  clear hX hD hu_A22_3 hu_c22_3 hu_A22q_3 hu_c22q_3; subst hfr; clear σ β X
  refine then_normal ?_
  refine wp_seq ?_
  refine wp_region_T [0, 1, 3, 0, 15] [[], [3], [], [], [4]] [[], [], [], [4], [5]] [[], [], [], [], [4]] [.k 23 (.pointer (some ⟨B5_1, 4, none⟩)), .c 24 (.slice SA bs.length sc), .c 25 (.agg ((tabL bs 128).map (Value.int .i64)).toArray), .a 8, .n] (fun ix σ β X => match ix with | 0 => True | 1 => True | 2 => True | 3 => σ 8 = .pointer (some ⟨(pb (β 8)), 0, none⟩) ∧ X 4 = eB (pb (β 8)) 49 ((List.replicate 128 (0 : Int)).map (Value.int .i64)).toArray | 4 => X 5 = eB (pb (β 8)) 49 ((tabL bs 128).map (Value.int .i64)).toArray | _ => True) [0, 1, 2, 3, 5] [1, 2, 3, 4] [(8, 3, 1, 9), (14, 0, 3, 17)] hst3 ?_ ?_ ?_
  · exact fun ix _ _ _ _ _ _ hs hb hx h => match ix, h with
    | 3, h => by dsimp only at h ⊢; rw [← hs 8 rfl, ← hb 8 rfl, ← hx 4 rfl]; exact h
    | 4, h => by dsimp only at h ⊢; rw [← hb 8 rfl, ← hx 5 rfl]; exact h
    | 0, _ | 1, _ | 2, _ | _ + 5, _ => trivial
  · refine ⟨?_, ?_, ?_, ?_, trivial⟩
    · exact s4 rfl (fun _ _ _ h => h) fun cx => run_load1 rfl (by kernel_rfl) (cx.anc 0 rfl) ((cx.blk (cx.init 3 _ rfl) rfl).cell 4)
    · exact sv_call rfl rfl rfl rfl rfl (fun _ _ _ h => h) fun ρ β W X cx => ⟨_, _, run_callF (args := #[.slice SA bs.length sc]) rfl cx.sees rfl (by kernel_rfl) (map1 (cx.anc 1 rfl)), table_any _ _ bs _ (hSA.ext cx.upd.to_ext) hbs⟩
    · refine sv_any rfl rfl fun ρ β W X cx => ?_
      exact dv_alloc (cs := ((List.replicate 128 (0 : Int)).map (Value.int .i64)).toArray) rfl (by kernel_rfl) rfl rfl (fun σ β' X' hs hb hv hx => ⟨hv, hx⟩)
    · refine sv_any rfl rfl fun ρ β W X cx => ?_
      exact dv_storeL (n := 128) rfl (dTn (cx.anc 3 rfl)).1 (cx.anc 2 rfl) (by kernel_rfl) (by simp [tabL_len]) (by simp [tabL_len]) (int_one _) cx (dTn (cx.anc 3 rfl)).2 rfl rfl rfl rfl (fun σ β' X' hs hb hx => by rw [hb 8]; exact hx)
  intro σ β X W4 hD hX hst4 fr hfr
  obtain ⟨B8_4, hu_B8_4⟩ : ∃ z, pb (β 8) = z := ⟨_, rfl⟩
  simp only [zM, exq 0 (hX 0 _ rfl), exq 1 (hX 1 _ rfl), exq 2 (hX 2 _ rfl), exq 3 (hX 3 _ rfl), exq 5 ((dTn (hD 4 lq))), hu_B8_4] at hst4
  dsimp only [mgT, vals, List.take, List.drop, List.cons_append, List.nil_append] at hfr
  simp only [ed 8 ((dTn (hD 3 lq)).1), hu_B8_4] at hfr
  clear hX hD hu_B8_4; subst hfr; clear σ β X
  refine then_normal ?_
  refine wp_seq ?_
  refine wp_region_T [0, 1, 0, 7, 15, 0, 63] [[0], [], [], [], [], [], [7]] [[], [5], [], [6], [], [7], [8]] [[], [], [], [], [], [], [7]] [.c 26 (.agg #[.int .i64 a, .int .i64 b, .int .i64 n1, .int .i64 n2, .bool ho, .slice RA rs.length rc]), .a 27, .k 28 (.slice LA0 l.length c0), .a 29, .a 30, .a 9, .n] (fun ix σ β X => match ix with | 0 => True | 1 => σ 27 = .agg #[.int .i64 a, .int .i64 b, .int .i64 n1, .int .i64 n2, .bool ho, .slice (sA (tg (β 27) 5)) ((fewF rs).length) (sC (tg (β 27) 5))] ∧ X 5 = eO 103 3 (.slice (sA (tg (β 27) 5)) ((fewF rs).length) (sC (tg (β 27) 5))) ((fewF rs).length) (flatR (fewF rs)) | 2 => True | 3 => σ 29 = .agg #[.int .i64 (vminF l), .int .i64 (vmaxF l), .int .i64 (vpgF l), .int .i64 (vslF l), .bool (vhotF l), .slice (sA (tg (β 29) 5)) ((vrowF l).length) (sC (tg (β 29) 5))] ∧ X 6 = eO 103 3 (.slice (sA (tg (β 29) 5)) ((vrowF l).length) (sC (tg (β 29) 5))) ((vrowF l).length) (flatR (vrowF l)) | 4 => σ 30 = .agg #[.int .i64 a, .int .i64 b, .int .i64 n1, .int .i64 n2, .bool ho, .slice (sA (tg (β 27) 5)) ((fewF rs).length) (sC (tg (β 27) 5)), .int .i64 (vminF l), .int .i64 (vmaxF l), .int .i64 (vpgF l), .int .i64 (vslF l), .bool (vhotF l), .slice (sA (tg (β 29) 5)) ((vrowF l).length) (sC (tg (β 29) 5))] | 5 => σ 9 = .pointer (some ⟨(pb (β 9)), 0, none⟩) ∧ X 7 = eB (pb (β 9)) 51 #[.int .i64 0, .int .i64 0, .int .i64 0, .int .i64 0, .bool false, .slice none 0 0, .int .i64 0, .int .i64 0, .int .i64 0, .int .i64 0, .bool false, .slice none 0 0] | 6 => X 8 = eB (pb (β 9)) 51 #[.int .i64 a, .int .i64 b, .int .i64 n1, .int .i64 n2, .bool ho, .slice (sA (tg (β 27) 5)) ((fewF rs).length) (sC (tg (β 27) 5)), .int .i64 (vminF l), .int .i64 (vmaxF l), .int .i64 (vpgF l), .int .i64 (vslF l), .bool (vhotF l), .slice (sA (tg (β 29) 5)) ((vrowF l).length) (sC (tg (β 29) 5))] | _ => True) [0, 1, 2, 3, 4, 5, 6, 8] [0, 1, 3, 4, 5, 6] [(9, 5, 1, 10), (16, 0, 5, 21)] hst4 ?_ ?_ ?_
  · exact fun ix _ _ _ _ _ _ hs hb hx h => match ix, h with
    | 1, h => by dsimp only at h ⊢; rw [← hs 27 rfl, ← hb 27 rfl, ← hx 5 rfl]; exact h
    | 3, h => by dsimp only at h ⊢; rw [← hs 29 rfl, ← hb 29 rfl, ← hx 6 rfl]; exact h
    | 4, h => by dsimp only at h ⊢; rw [← hs 30 rfl, ← hb 27 rfl, ← hb 29 rfl]; exact h
    | 5, h => by dsimp only at h ⊢; rw [← hs 9 rfl, ← hb 9 rfl, ← hx 7 rfl]; exact h
    | 6, h => by dsimp only at h ⊢; rw [← hb 9 rfl, ← hb 27 rfl, ← hb 29 rfl, ← hx 8 rfl]; exact h
    | 0, _ | 2, _ | _ + 7, _ => trivial
  · refine ⟨?_, ?_, ?_, ?_, ?_, ?_, trivial⟩
    · exact s4 rfl (fun _ _ _ h => h) fun cx => run_loadB (n := 6) rfl (by kernel_rfl) (by kernel_rfl) (cx.out 3 rfl) (cx.blk (cx.init 0 _ rfl) rfl) (Nat.le_of_ble_eq_true rfl) rfl
    · refine sv_any rfl rfl fun ρ β W X cx => ?_
      refine DoesU.call (run_callF (args := #[.agg #[.int .i64 a, .int .i64 b, .int .i64 n1, .int .i64 n2, .bool ho, .slice RA rs.length rc]]) rfl cx.sees rfl (by kernel_rfl) (map1 (cx.anc 0 rfl))) ?_
      refine (few_any _ _ _ _ _ _ _ rs _ (hA.ext cx.upd.to_ext) (by omega)).mono ?_
      rintro e W1 ⟨A4, c4, rfl, ho, hx⟩
      refine ⟨_, rfl, post_call [eO 103 3 (.slice A4 ((fewF rs).length) c4) ((fewF rs).length) (flatR (fewF rs))] rfl rfl hx (one_new (eO_new ho)) (List.pairwise_singleton _ _) (fun σ β' X' hs hb hv hN => ?_)⟩
      have hv1 := (hv 27 rfl).1; have hv2 := (hv 27 rfl).2
      exact ⟨hv1.trans (by rw [hv2]; rfl), (by rw [hv2]; exact (List.cons.inj hN).1)⟩
    · refine sv_any rfl rfl fun ρ β W X cx => ?_
      refine DoesU.call (run_callF (args := #[.slice LA0 l.length c0]) rfl cx.sees rfl (by kernel_rfl) (map1 (cx.anc 2 rfl))) ?_
      refine (made08_any _ _ l _ (hA0.ext cx.upd.to_ext) (by omega)).mono ?_
      rintro e W1 ⟨A4, c4, rfl, ho, hx⟩
      refine ⟨_, rfl, post_call [eO 103 3 (.slice A4 ((vrowF l).length) c4) ((vrowF l).length) (flatR (vrowF l))] rfl rfl hx (one_new (eO_new ho)) (List.pairwise_singleton _ _) (fun σ β' X' hs hb hv hN => ?_)⟩
      have hv1 := (hv 29 rfl).1; have hv2 := (hv 29 rfl).2
      exact ⟨hv1.trans (by rw [hv2]; rfl), (by rw [hv2]; exact (List.cons.inj hN).1)⟩
    · exact sv rfl rfl rfl rfl rfl _ (fun _ _ _ h => h) (fun β β' h => by rw [h 27 (by decide), h 29 (by decide)]) fun ρ β W X cx => run_buildL rfl (pmc (dTn (cx.anc 1 rfl)).1 (pmc (dTn (cx.anc 3 rfl)).1 pmn)) (by kernel_rfl)
    · refine sv_any rfl rfl fun ρ β W X cx => ?_
      exact dv_alloc (cs := #[.int .i64 0, .int .i64 0, .int .i64 0, .int .i64 0, .bool false, .slice none 0 0, .int .i64 0, .int .i64 0, .int .i64 0, .int .i64 0, .bool false, .slice none 0 0]) rfl (by kernel_rfl) rfl rfl (fun σ β' X' hs hb hv hx => ⟨hv, hx⟩)
    · refine sv_any rfl rfl fun ρ β W X cx => ?_
      exact dv_store (n := 12) rfl (dTn (cx.anc 5 rfl)).1 (dTn (cx.anc 4 rfl)) (by kernel_rfl) (by kernel_rfl) (by kernel_rfl) cx (dTn (cx.anc 5 rfl)).2 rfl (Nat.le_of_ble_eq_true rfl) (by kernel_rfl) rfl rfl rfl (fun σ β' X' hs hb hx => by rw [hb 9, hb 27, hb 29]; exact hx)
  intro σ β X W5 hD hX hst5 fr hfr
  obtain ⟨A27_5, hu_A27_5⟩ : ∃ z, sA (tg (β 27) 5) = z := ⟨_, rfl⟩
  obtain ⟨c27_5, hu_c27_5⟩ : ∃ z, sC (tg (β 27) 5) = z := ⟨_, rfl⟩
  obtain ⟨A29_5, hu_A29_5⟩ : ∃ z, sA (tg (β 29) 5) = z := ⟨_, rfl⟩
  obtain ⟨c29_5, hu_c29_5⟩ : ∃ z, sC (tg (β 29) 5) = z := ⟨_, rfl⟩
  obtain ⟨B9_5, hu_B9_5⟩ : ∃ z, pb (β 9) = z := ⟨_, rfl⟩
  simp only [zM, exq 0 (hX 0 _ rfl), exq 1 (hX 1 _ rfl), exq 2 (hX 2 _ rfl), exq 3 (hX 3 _ rfl), exq 4 (hX 4 _ rfl), exq 5 ((dTn (hD 1 lq)).2), exq 6 ((dTn (hD 3 lq)).2), exq 8 ((dTn (hD 6 lq))), hu_A27_5, hu_c27_5, hu_A29_5, hu_c29_5, hu_B9_5] at hst5
  dsimp only [mgT, vals, List.take, List.drop, List.cons_append, List.nil_append] at hfr
  simp only [ed 27 ((dTn (hD 1 lq)).1), ed 29 ((dTn (hD 3 lq)).1), ed 30 ((dTn (hD 4 lq))), ed 9 ((dTn (hD 5 lq)).1), hu_A27_5, hu_c27_5, hu_A29_5, hu_c29_5, hu_B9_5] at hfr
  clear hX hD hu_A27_5 hu_c27_5 hu_A29_5 hu_c29_5 hu_B9_5; subst hfr; clear σ β X
  refine then_normal ?_
  refine wp_seq ?_
  refine wp_seq ?_
  refine wp_region_P [0] [.k 10 (.int .i64 0)] [(10, 0, 1, 11)] hst5 fun W6 hst6 => ?_
  refine then_normal ?_
  refine wp_block ?_
  refine wp_loopN (fun mz az W => ∃ k : Nat, ∃ u7_ : List Value, k ≤ 2 ∧ mz = 2 - k ∧ az = ⟨#[.agg #[.int .i64 a, .int .i64 b, .int .i64 n1, .int .i64 n2, .bool ho, .slice RA rs.length rc], .slice LA0 l.length c0, .agg #[.int .i64 hi, .slice LA ls.length lc, .slice OA own.length oc, .int .i64 hz, .slice SA bs.length sc], .pointer (some ⟨B3_1, 0, none⟩), undef, .pointer (some ⟨B5_1, 0, none⟩), (u7_.getD 0 undef), .bool true, .pointer (some ⟨B8_4, 0, none⟩), .pointer (some ⟨B9_5, 0, none⟩), .int .i64 ((k : Int)), (u7_.getD 1 undef), (u7_.getD 2 undef), (u7_.getD 3 undef), (u7_.getD 4 undef), (u7_.getD 5 undef), (u7_.getD 6 undef), (u7_.getD 7 undef), (u7_.getD 8 undef), (u7_.getD 9 undef), .bool true, .agg #[.int .i64 hi, .slice LA ls.length lc, .slice OA own.length oc, .int .i64 hz, .slice SA bs.length sc], .agg #[.int .i64 hi, .slice A22_3 ((ls.take 60).length) c22_3, .slice A22q_3 ((own.take 20).length) c22q_3, .int .i64 hz, .slice SA bs.length sc], .pointer (some ⟨B5_1, 4, none⟩), .slice SA bs.length sc, .agg ((tabL bs 128).map (Value.int .i64)).toArray, .agg #[.int .i64 a, .int .i64 b, .int .i64 n1, .int .i64 n2, .bool ho, .slice RA rs.length rc], .agg #[.int .i64 a, .int .i64 b, .int .i64 n1, .int .i64 n2, .bool ho, .slice A27_5 ((fewF rs).length) c27_5], .slice LA0 l.length c0, .agg #[.int .i64 (vminF l), .int .i64 (vmaxF l), .int .i64 (vpgF l), .int .i64 (vslF l), .bool (vhotF l), .slice A29_5 ((vrowF l).length) c29_5], .agg #[.int .i64 a, .int .i64 b, .int .i64 n1, .int .i64 n2, .bool ho, .slice A27_5 ((fewF rs).length) c27_5, .int .i64 (vminF l), .int .i64 (vmaxF l), .int .i64 (vpgF l), .int .i64 (vslF l), .bool (vhotF l), .slice A29_5 ((vrowF l).length) c29_5], (u7_.getD 10 undef), (u7_.getD 11 undef), (u7_.getD 12 undef), (u7_.getD 13 undef), (u7_.getD 14 undef), (u7_.getD 15 undef), (u7_.getD 16 undef), (u7_.getD 17 undef), (u7_.getD 18 undef), (u7_.getD 19 undef), (u7_.getD 20 undef), (u7_.getD 21 undef), (u7_.getD 22 undef), (u7_.getD 23 undef), (u7_.getD 24 undef), (u7_.getD 25 undef), (u7_.getD 26 undef), (u7_.getD 27 undef), (u7_.getD 28 undef), (u7_.getD 29 undef), (u7_.getD 30 undef), (u7_.getD 31 undef), (u7_.getD 32 undef), (u7_.getD 33 undef), (u7_.getD 34 undef), (u7_.getD 35 undef), (u7_.getD 36 undef), (u7_.getD 37 undef), (u7_.getD 38 undef), (u7_.getD 39 undef), (u7_.getD 40 undef), (u7_.getD 41 undef), (u7_.getD 42 undef), (u7_.getD 43 undef), (u7_.getD 44 undef), (u7_.getD 45 undef), (u7_.getD 46 undef), (u7_.getD 47 undef), (u7_.getD 48 undef), (u7_.getD 49 undef), (u7_.getD 50 undef), (u7_.getD 51 undef), (u7_.getD 52 undef), (u7_.getD 53 undef), (u7_.getD 54 undef), (u7_.getD 55 undef), (u7_.getD 56 undef), (u7_.getD 57 undef), (u7_.getD 58 undef), (u7_.getD 59 undef), (u7_.getD 60 undef), (u7_.getD 61 undef), (u7_.getD 62 undef), (u7_.getD 63 undef), (u7_.getD 64 undef), (u7_.getD 65 undef), (u7_.getD 66 undef), (u7_.getD 67 undef), (u7_.getD 68 undef), (u7_.getD 69 undef), (u7_.getD 70 undef), (u7_.getD 71 undef), (u7_.getD 72 undef), (u7_.getD 73 undef), (u7_.getD 74 undef), (u7_.getD 75 undef), (u7_.getD 76 undef), (u7_.getD 77 undef), (u7_.getD 78 undef), (u7_.getD 79 undef), (u7_.getD 80 undef), (u7_.getD 81 undef), (u7_.getD 82 undef), (u7_.getD 83 undef), (u7_.getD 84 undef), (u7_.getD 85 undef), (u7_.getD 86 undef), (u7_.getD 87 undef), (u7_.getD 88 undef), (u7_.getD 89 undef), (u7_.getD 90 undef), (u7_.getD 91 undef), (u7_.getD 92 undef), (u7_.getD 93 undef), (u7_.getD 94 undef), (u7_.getD 95 undef), (u7_.getD 96 undef), (u7_.getD 97 undef), (u7_.getD 98 undef), (u7_.getD 99 undef), (u7_.getD 100 undef), (u7_.getD 101 undef), (u7_.getD 102 undef), (u7_.getD 103 undef), (u7_.getD 104 undef), (u7_.getD 105 undef), (u7_.getD 106 undef), (u7_.getD 107 undef), (u7_.getD 108 undef), (u7_.getD 109 undef), (u7_.getD 110 undef), (u7_.getD 111 undef), (u7_.getD 112 undef), (u7_.getD 113 undef), (u7_.getD 114 undef), (u7_.getD 115 undef), (u7_.getD 116 undef), (u7_.getD 117 undef), (u7_.getD 118 undef), (u7_.getD 119 undef), (u7_.getD 120 undef), (u7_.getD 121 undef), (u7_.getD 122 undef), (u7_.getD 123 undef), (u7_.getD 124 undef), (u7_.getD 125 undef), (u7_.getD 126 undef), (u7_.getD 127 undef), (u7_.getD 128 undef), (u7_.getD 129 undef), (u7_.getD 130 undef), (u7_.getD 131 undef), (u7_.getD 132 undef), (u7_.getD 133 undef), (u7_.getD 134 undef), (u7_.getD 135 undef), (u7_.getD 136 undef), (u7_.getD 137 undef), (u7_.getD 138 undef), (u7_.getD 139 undef), (u7_.getD 140 undef), (u7_.getD 141 undef), undef], []⟩ ∧ St w [] [eB B3_1 27 #[.int .i64 a, .int .i64 b, .int .i64 n1, .int .i64 n2, .bool ho, .slice RA rs.length rc], eO 3 1 (.slice A22_3 ((ls.take 60).length) c22_3) ((ls.take 60).length) ((ls.take 60).map (Value.int .i64)), eO 3 1 (.slice A22q_3 ((own.take 20).length) c22q_3) ((own.take 20).length) ((own.take 20).map (Value.int .i64)), eB B5_1 45 #[.int .i64 hi, .slice A22_3 ((ls.take 60).length) c22_3, .slice A22q_3 ((own.take 20).length) c22q_3, .int .i64 hz, .slice SA bs.length sc], eB B8_4 49 ((tabL bs 128).map (Value.int .i64)).toArray, eO 103 3 (.slice A27_5 ((fewF rs).length) c27_5) ((fewF rs).length) (flatR (fewF rs)), eO 103 3 (.slice A29_5 ((vrowF l).length) c29_5) ((vrowF l).length) (flatR (vrowF l)), eB B9_5 51 #[.int .i64 a, .int .i64 b, .int .i64 n1, .int .i64 n2, .bool ho, .slice A27_5 ((fewF rs).length) c27_5, .int .i64 (vminF l), .int .i64 (vmaxF l), .int .i64 (vpgF l), .int .i64 (vslF l), .bool (vhotF l), .slice A29_5 ((vrowF l).length) c29_5]] W) (2 - 0) ?_ ?_
  · -- the loop begins
    have hp8 := hst6.pick [0, 1, 2, 3, 4, 5, 6, 7] (by decide) rfl
    exact ⟨0, [.bool false, undef, undef, undef, undef, undef, undef, undef, undef, undef, undef, undef, undef, undef, undef, undef, undef, undef, undef, undef, undef, undef, undef, undef, undef, undef, undef, undef, undef, undef, undef, undef, undef, undef, undef, undef, undef, undef, undef, undef, undef, undef, undef, undef, undef, undef, undef, undef, undef, undef, undef, undef, undef, undef, undef, undef, undef, undef, undef, undef, undef, undef, undef, undef, undef, undef, undef, undef, undef, undef, undef, undef, undef, undef, undef, undef, undef, undef, undef, undef, undef, undef, undef, undef, undef, undef, undef, undef, undef, undef, undef, undef, undef, undef, undef, undef, undef, undef, undef, undef, undef, undef, undef, undef, undef, undef, undef, undef, undef, undef, undef, undef, undef, undef, undef, undef, undef, undef, undef, undef, undef, undef, undef, undef, undef, undef, undef, undef, undef, undef, undef, undef, undef, undef, undef, undef, undef, undef, undef, undef, undef, undef], by omega, rfl, rfl, hp8⟩
  rintro n7 a7 W7 ⟨k, u7_, hk, rfl, rfl, hst7⟩
  rcases (by omega : k = 0 ∨ k = 1 ∨ k = 2) with rfl | rfl | rfl
  · skip
    refine wp_seq ?_
    refine wp_seq ?_
    refine wp_region_P [0, 1] [.k 31 (.int .i64 0), .k 32 (.bool true)] [(31, 0, 2, 33)] hst7 fun W9 hst9 => ?_
    refine then_normal ?_
    refine wp_cond_true (show Act.eval _ _ = .bool true from rfl) ?_
    refine wp_skip ?_
    refine then_normal ?_
    refine wp_seq ?_
    refine wp_block ?_
    refine wp_seq ?_
    refine wp_region_T [0, 1, 3, 0, 15] [[], [], [7], [], [8]] [[], [], [], [8], [9]] [[], [], [], [], [8]] [.k 35 (.int .i64 0), .c 36 (.pointer (some ⟨B9_5, 0, none⟩)), .c 37 (.agg #[.int .i64 a, .int .i64 b, .int .i64 n1, .int .i64 n2, .bool ho, .slice A27_5 ((fewF rs).length) c27_5]), .a 11, .n] (fun ix σ β X => match ix with | 0 => True | 1 => True | 2 => True | 3 => σ 11 = .pointer (some ⟨(pb (β 11)), 0, none⟩) ∧ X 8 = eB (pb (β 11)) 27 #[.int .i64 0, .int .i64 0, .int .i64 0, .int .i64 0, .bool false, .slice none 0 0] | 4 => X 9 = eB (pb (β 11)) 27 #[.int .i64 a, .int .i64 b, .int .i64 n1, .int .i64 n2, .bool ho, .slice A27_5 ((fewF rs).length) c27_5] | _ => True) [0, 1, 2, 3, 4, 5, 6, 7, 9] [1, 2, 3, 4] [(11, 3, 1, 12), (23, 0, 3, 26)] hst9 ?_ ?_ ?_
    · exact fun ix _ _ _ _ _ _ hs hb hx h => match ix, h with
      | 3, h => by dsimp only at h ⊢; rw [← hs 11 rfl, ← hb 11 rfl, ← hx 8 rfl]; exact h
      | 4, h => by dsimp only at h ⊢; rw [← hb 11 rfl, ← hx 9 rfl]; exact h
      | 0, _ | 1, _ | 2, _ | _ + 5, _ => trivial
    · refine ⟨?_, ?_, ?_, ?_, trivial⟩
      · exact s4 rfl (fun _ _ _ h => h) fun cx => run_indexArrB (n := 2) (sz := 6) (m := 0) (q := 0) rfl (by kernel_rfl) (cx.out 9 rfl) (cx.anc 0 rfl) (by omega) (by omega) (by omega)
      · exact s4 rfl (fun _ _ _ h => h) fun cx => run_loadB (n := 6) rfl (by kernel_rfl) (by kernel_rfl) (cx.anc 1 rfl) (cx.blk (cx.init 7 _ rfl) rfl) (Nat.le_of_ble_eq_true rfl) rfl
      · refine sv_any rfl rfl fun ρ β W X cx => ?_
        exact dv_alloc (cs := #[.int .i64 0, .int .i64 0, .int .i64 0, .int .i64 0, .bool false, .slice none 0 0]) rfl (by kernel_rfl) rfl rfl (fun σ β' X' hs hb hv hx => ⟨hv, hx⟩)
      · refine sv_any rfl rfl fun ρ β W X cx => ?_
        exact dv_store (n := 6) rfl (dTn (cx.anc 3 rfl)).1 (cx.anc 2 rfl) (by kernel_rfl) (by kernel_rfl) (by kernel_rfl) cx (dTn (cx.anc 3 rfl)).2 rfl (Nat.le_of_ble_eq_true rfl) (by kernel_rfl) rfl rfl rfl (fun σ β' X' hs hb hx => by rw [hb 11]; exact hx)
    intro σ β X W10 hD hX hst10 fr hfr
    obtain ⟨B11_10, hu_B11_10⟩ : ∃ z, pb (β 11) = z := ⟨_, rfl⟩
    simp only [zM, exq 0 (hX 0 _ rfl), exq 1 (hX 1 _ rfl), exq 2 (hX 2 _ rfl), exq 3 (hX 3 _ rfl), exq 4 (hX 4 _ rfl), exq 5 (hX 5 _ rfl), exq 6 (hX 6 _ rfl), exq 7 (hX 7 _ rfl), exq 9 ((dTn (hD 4 lq))), hu_B11_10] at hst10
    dsimp only [mgT, vals, List.take, List.drop, List.cons_append, List.nil_append] at hfr
    simp only [ed 11 ((dTn (hD 3 lq)).1), hu_B11_10] at hfr
    clear hX hD hu_B11_10; subst hfr; clear σ β X
    refine then_normal ?_
    refine wp_seq ?_
    refine wp_region_T [0, 0, 2, 0, 8, 0, 32, 96, 255, 511, 1023, 1023, 2047, 8191] [[8], [], [3], [], [3], [], [3], [], [1, 2]] [] [] [.c 39 (.agg #[.int .i64 a, .int .i64 b, .int .i64 n1, .int .i64 n2, .bool ho, .slice A27_5 ((fewF rs).length) c27_5]), .k 40 (.pointer (some ⟨B5_1, 0, none⟩)), .c 41 (.agg #[.int .i64 hi, .slice A22_3 ((ls.take 60).length) c22_3]), .k 42 (.pointer (some ⟨B5_1, 2, none⟩)), .c 43 (.slice A22q_3 ((own.take 20).length) c22q_3), .k 44 (.pointer (some ⟨B5_1, 4, none⟩)), .c 45 (.slice SA bs.length sc), .c 46 (.iface 43 (.slice SA bs.length sc)), .c 47 (.tuple #[.int .i64 (bes1F hi (ls.take 60) (own.take 20) (standF bs) a), .int .i64 (bes2F hi (ls.take 60) (own.take 20) (standF bs) b)]), .k 38 (.tuple #[.int .i64 (bes1F hi (ls.take 60) (own.take 20) (standF bs) a), .int .i64 (bes2F hi (ls.take 60) (own.take 20) (standF bs) b)]), .k 48 (.int .i64 (bes1F hi (ls.take 60) (own.take 20) (standF bs) a)), .k 49 (.int .i64 (bes2F hi (ls.take 60) (own.take 20) (standF bs) b)), .k 12 (.int .i64 (bes1F hi (ls.take 60) (own.take 20) (standF bs) a)), .k 13 (.int .i64 (bes2F hi (ls.take 60) (own.take 20) (standF bs) b))] (fun _ _ _ _ => True) [0, 1, 2, 3, 4, 5, 6, 7, 8] [0, 2, 4, 6, 7, 8] [(12, 12, 2, 14), (24, 9, 1, 25), (0, 0, 9, 9), (0, 10, 2, 2)] hst10 ?_ ?_ ?_
    · exact fun _ _ _ _ _ _ _ _ _ _ h => h
    · refine ⟨?_, ?_, ?_, ?_, ?_, ?_, trivial⟩
      · exact s4 rfl (fun _ _ _ h => h) fun cx => run_loadB (n := 6) rfl (by kernel_rfl) (by kernel_rfl) (cx.out 11 rfl) (cx.blk (cx.init 8 _ rfl) rfl) (Nat.le_of_ble_eq_true rfl) rfl
      · exact s4 rfl (fun _ _ _ h => h) fun cx => run_loadB (n := 2) rfl (by kernel_rfl) (by kernel_rfl) (cx.anc 1 rfl) (cx.blk (cx.init 3 _ rfl) rfl) (Nat.le_of_ble_eq_true rfl) rfl
      · exact s4 rfl (fun _ _ _ h => h) fun cx => run_load1 rfl (by kernel_rfl) (cx.anc 3 rfl) ((cx.blk (cx.init 3 _ rfl) rfl).cell 2)
      · exact s4 rfl (fun _ _ _ h => h) fun cx => run_load1 rfl (by kernel_rfl) (cx.anc 5 rfl) ((cx.blk (cx.init 3 _ rfl) rfl).cell 4)
      · exact sv0 rfl rfl rfl rfl rfl (fun _ _ _ h => h) fun ρ β W X cx => by
          have fF45 : ρ (.tmp 45) = .slice SA bs.length sc := (cx.anc 6 rfl)
          simp [go_sem, fF45]
      · exact sv_call rfl rfl rfl rfl rfl (fun _ _ _ h => h) fun ρ β W X cx => ⟨_, _, run_callF (args := #[.agg #[.int .i64 a, .int .i64 b, .int .i64 n1, .int .i64 n2, .bool ho, .slice A27_5 ((fewF rs).length) c27_5], .agg #[.int .i64 hi, .slice A22_3 ((ls.take 60).length) c22_3], .slice A22q_3 ((own.take 20).length) c22q_3, .iface 43 (.slice SA bs.length sc)]) rfl cx.sees rfl (by kernel_rfl) (map4 (cx.anc 0 rfl) (cx.anc 2 rfl) (cx.anc 4 rfl) (cx.anc 7 rfl)), beside_any _ _ _ _ _ _ _ _ _ _ _ (ls.take 60) _ _ (own.take 20) _ _ _ _ (At.of_own (cx.row (cx.init 1 _ rfl) rfl)) (by first | omega | decide | (simp; done) | (simp; omega)) (At.of_own (cx.row (cx.init 2 _ rfl) rfl)) (by first | omega | decide | (simp; done) | (simp; omega)) (stand_ok _ _ _ bs _ (rfl) (hSA.ext cx.upd.to_ext) hbs)⟩
    intro σ β X W11 hD hX hst11 fr hfr
    simp only [zM, exq 0 (hX 0 _ rfl), exq 1 (hX 1 _ rfl), exq 2 (hX 2 _ rfl), exq 3 (hX 3 _ rfl), exq 4 (hX 4 _ rfl), exq 5 (hX 5 _ rfl), exq 6 (hX 6 _ rfl), exq 7 (hX 7 _ rfl), exq 8 (hX 8 _ rfl)] at hst11
    dsimp only [mgT, vals, List.take, List.drop, List.cons_append, List.nil_append] at hfr
    clear hX hD; subst hfr; clear σ β X
    refine then_normal ?_
    refine wp_seq ?_
    refine wp_region_T [0, 0, 2, 0, 8, 0, 63, 0, 255] [[8], [], [3], [], [3], [4], [1, 2], [], [9]] [[], [], [], [], [], [], [], [9], [10]] [[], [], [], [], [], [], [], [], [9]] [.c 50 (.agg #[.int .i64 a, .int .i64 b, .int .i64 n1, .int .i64 n2, .bool ho, .slice A27_5 ((fewF rs).length) c27_5]), .k 51 (.pointer (some ⟨B5_1, 0, none⟩)), .c 52 (.agg #[.int .i64 hi, .slice A22_3 ((ls.take 60).length) c22_3]), .k 53 (.pointer (some ⟨B5_1, 2, none⟩)), .c 54 (.slice A22q_3 ((own.take 20).length) c22q_3), .c 55 (.agg ((tabL bs 128).map (Value.int .i64)).toArray), .c 56 (.agg #[.int .i64 (bes1F hi (ls.take 60) (own.take 20) (standF bs) a), .int .i64 (bes1F hi (ls.take 60) (own.take 20) (standF bs) b)]), .a 14, .n] (fun ix σ β X => match ix with | 0 => True | 1 => True | 2 => True | 3 => True | 4 => True | 5 => True | 6 => True | 7 => σ 14 = .pointer (some ⟨(pb (β 14)), 0, none⟩) ∧ X 9 = eB (pb (β 14)) 55 #[.int .i64 0, .int .i64 0] | 8 => X 10 = eB (pb (β 14)) 55 #[.int .i64 (bes1F hi (ls.take 60) (own.take 20) (standF bs) a), .int .i64 (bes1F hi (ls.take 60) (own.take 20) (standF bs) b)] | _ => True) [0, 1, 2, 3, 4, 5, 6, 7, 8, 10] [0, 2, 4, 5, 6, 7, 8] [(14, 7, 1, 15), (35, 0, 7, 42)] hst11 ?_ ?_ ?_
    · exact fun ix _ _ _ _ _ _ hs hb hx h => match ix, h with
      | 7, h => by dsimp only at h ⊢; rw [← hs 14 rfl, ← hb 14 rfl, ← hx 9 rfl]; exact h
      | 8, h => by dsimp only at h ⊢; rw [← hb 14 rfl, ← hx 10 rfl]; exact h
      | 0, _ | 1, _ | 2, _ | 3, _ | 4, _ | 5, _ | 6, _ | _ + 9, _ => trivial
    · refine ⟨?_, ?_, ?_, ?_, ?_, ?_, ?_, trivial⟩
      · exact s4 rfl (fun _ _ _ h => h) fun cx => run_loadB (n := 6) rfl (by kernel_rfl) (by kernel_rfl) (cx.out 11 rfl) (cx.blk (cx.init 8 _ rfl) rfl) (Nat.le_of_ble_eq_true rfl) rfl
      · exact s4 rfl (fun _ _ _ h => h) fun cx => run_loadB (n := 2) rfl (by kernel_rfl) (by kernel_rfl) (cx.anc 1 rfl) (cx.blk (cx.init 3 _ rfl) rfl) (Nat.le_of_ble_eq_true rfl) rfl
      · exact s4 rfl (fun _ _ _ h => h) fun cx => run_load1 rfl (by kernel_rfl) (cx.anc 3 rfl) ((cx.blk (cx.init 3 _ rfl) rfl).cell 2)
      · exact s4 rfl (fun _ _ _ h => h) fun cx => run_loadAr (n := 128) rfl (by kernel_rfl) (by kernel_rfl) (cx.out 8 rfl) (cx.blk (cx.init 4 _ rfl) rfl) (by simp [tabL_len])
      · exact sv_call rfl rfl rfl rfl rfl (fun _ _ _ h => h) fun ρ β W X cx => ⟨_, _, run_callF (args := #[.agg #[.int .i64 a, .int .i64 b, .int .i64 n1, .int .i64 n2, .bool ho, .slice A27_5 ((fewF rs).length) c27_5], .agg #[.int .i64 hi, .slice A22_3 ((ls.take 60).length) c22_3], .slice A22q_3 ((own.take 20).length) c22q_3, .agg ((tabL bs 128).map (Value.int .i64)).toArray]) rfl cx.sees rfl (by kernel_rfl) (map4 (cx.anc 0 rfl) (cx.anc 2 rfl) (cx.anc 4 rfl) (cx.anc 5 rfl)), rbeside_any hi _ _ (ls.take 60) _ _ (own.take 20) (tabL bs 128) (standF bs) a b n1 n2 ho _ _ _ _ (At.of_own (cx.row (cx.init 1 _ rfl) rfl)) (by first | omega | decide | (simp; done) | (simp; omega)) (At.of_own (cx.row (cx.init 2 _ rfl) rfl)) (by first | omega | decide | (simp; done) | (simp; omega)) (tabL_len bs 128) (tab_stand bs)⟩
      · refine sv_any rfl rfl fun ρ β W X cx => ?_
        exact dv_alloc (cs := #[.int .i64 0, .int .i64 0]) rfl (by kernel_rfl) rfl rfl (fun σ β' X' hs hb hv hx => ⟨hv, hx⟩)
      · refine sv_any rfl rfl fun ρ β W X cx => ?_
        exact dv_store (n := 2) rfl (dTn (cx.anc 7 rfl)).1 (cx.anc 6 rfl) (by kernel_rfl) (by kernel_rfl) (by kernel_rfl) cx (dTn (cx.anc 7 rfl)).2 rfl (Nat.le_of_ble_eq_true rfl) (by kernel_rfl) rfl rfl rfl (fun σ β' X' hs hb hx => by rw [hb 14]; exact hx)
    intro σ β X W12 hD hX hst12 fr hfr
    obtain ⟨B14_12, hu_B14_12⟩ : ∃ z, pb (β 14) = z := ⟨_, rfl⟩
    simp only [zM, exq 0 (hX 0 _ rfl), exq 1 (hX 1 _ rfl), exq 2 (hX 2 _ rfl), exq 3 (hX 3 _ rfl), exq 4 (hX 4 _ rfl), exq 5 (hX 5 _ rfl), exq 6 (hX 6 _ rfl), exq 7 (hX 7 _ rfl), exq 8 (hX 8 _ rfl), exq 10 ((dTn (hD 8 lq))), hu_B14_12] at hst12
    dsimp only [mgT, vals, List.take, List.drop, List.cons_append, List.nil_append] at hfr
    simp only [ed 14 ((dTn (hD 7 lq)).1), hu_B14_12] at hfr
    clear hX hD hu_B14_12; subst hfr; clear σ β X
    refine then_normal ?_
    refine wp_seq ?_
    refine wp_region_T [0, 0, 2, 0, 8, 24, 63, 127, 255, 255, 0, 1535, 4095] [[8], [], [3], [], [3], [], [5], [], [], [], [], [11]] [[], [], [], [], [], [], [10], [], [], [], [11], [12]] [[], [], [], [], [], [], [], [], [], [], [], [11]] [.c 58 (.agg #[.int .i64 a, .int .i64 b, .int .i64 n1, .int .i64 n2, .bool ho, .slice A27_5 ((fewF rs).length) c27_5]), .k 59 (.pointer (some ⟨B5_1, 3, none⟩)), .c 60 (.int .i64 hz), .k 61 (.pointer (some ⟨B5_1, 4, none⟩)), .c 62 (.slice SA bs.length sc), .c 63 (.iface 43 (.slice SA bs.length sc)), .a 64, .a 57, .a 65, .c 66 (.bool (oldF (standF bs) hz a || fzX (standF bs) b)), .a 15, .n, .k 16 (.bool (oldF (standF bs) hz a || fzX (standF bs) b))] (fun ix σ β X => match ix with | 0 => True | 1 => True | 2 => True | 3 => True | 4 => True | 5 => True | 6 => σ 64 = .tuple #[.agg #[.int .i64 (fzA hz (standF bs) a), .int .i64 (if fzX (standF bs) b then 0 else b), .int .i64 (if fzX (standF bs) b then -1 else n1), .int .i64 (if fzX (standF bs) b then 0 else n2), .bool ho, .slice (sA (tg (tg (β 64) 0) 5)) ((fewF rs).length) (sC (tg (tg (β 64) 0) 5))], .bool (oldF (standF bs) hz a || fzX (standF bs) b)] ∧ X 10 = eO 103 3 (.slice (sA (tg (tg (β 64) 0) 5)) ((fewF rs).length) (sC (tg (tg (β 64) 0) 5))) ((fewF rs).length) (flatR (fewF rs)) | 7 => σ 57 = .tuple #[.agg #[.int .i64 (fzA hz (standF bs) a), .int .i64 (if fzX (standF bs) b then 0 else b), .int .i64 (if fzX (standF bs) b then -1 else n1), .int .i64 (if fzX (standF bs) b then 0 else n2), .bool ho, .slice (sA (tg (tg (β 64) 0) 5)) ((fewF rs).length) (sC (tg (tg (β 64) 0) 5))], .bool (oldF (standF bs) hz a || fzX (standF bs) b)] | 8 => σ 65 = .agg #[.int .i64 (fzA hz (standF bs) a), .int .i64 (if fzX (standF bs) b then 0 else b), .int .i64 (if fzX (standF bs) b then -1 else n1), .int .i64 (if fzX (standF bs) b then 0 else n2), .bool ho, .slice (sA (tg (tg (β 64) 0) 5)) ((fewF rs).length) (sC (tg (tg (β 64) 0) 5))] | 9 => True | 10 => σ 15 = .pointer (some ⟨(pb (β 15)), 0, none⟩) ∧ X 11 = eB (pb (β 15)) 27 #[.int .i64 0, .int .i64 0, .int .i64 0, .int .i64 0, .bool false, .slice none 0 0] | 11 => X 12 = eB (pb (β 15)) 27 #[.int .i64 (fzA hz (standF bs) a), .int .i64 (if fzX (standF bs) b then 0 else b), .int .i64 (if fzX (standF bs) b then -1 else n1), .int .i64 (if fzX (standF bs) b then 0 else n2), .bool ho, .slice (sA (tg (tg (β 64) 0) 5)) ((fewF rs).length) (sC (tg (tg (β 64) 0) 5))] | _ => True) [0, 1, 2, 3, 4, 5, 6, 7, 8, 9, 10, 12] [0, 2, 4, 5, 6, 7, 8, 9, 10, 11] [(15, 10, 3, 17), (40, 7, 1, 41), (0, 0, 7, 7), (0, 8, 2, 2)] hst12 ?_ ?_ ?_
    · exact fun ix _ _ _ _ _ _ hs hb hx h => match ix, h with
      | 6, h => by dsimp only at h ⊢; rw [← hs 64 rfl, ← hb 64 rfl, ← hx 10 rfl]; exact h
      | 7, h => by dsimp only at h ⊢; rw [← hs 57 rfl, ← hb 64 rfl]; exact h
      | 8, h => by dsimp only at h ⊢; rw [← hs 65 rfl, ← hb 64 rfl]; exact h
      | 10, h => by dsimp only at h ⊢; rw [← hs 15 rfl, ← hb 15 rfl, ← hx 11 rfl]; exact h
      | 11, h => by dsimp only at h ⊢; rw [← hb 15 rfl, ← hb 64 rfl, ← hx 12 rfl]; exact h
      | 0, _ | 1, _ | 2, _ | 3, _ | 4, _ | 5, _ | 9, _ | _ + 12, _ => trivial
    · refine ⟨?_, ?_, ?_, ?_, ?_, ?_, ?_, ?_, ?_, ?_, trivial⟩
      · exact s4 rfl (fun _ _ _ h => h) fun cx => run_loadB (n := 6) rfl (by kernel_rfl) (by kernel_rfl) (cx.out 11 rfl) (cx.blk (cx.init 8 _ rfl) rfl) (Nat.le_of_ble_eq_true rfl) rfl
      · exact s4 rfl (fun _ _ _ h => h) fun cx => run_load1 rfl (by kernel_rfl) (cx.anc 1 rfl) ((cx.blk (cx.init 3 _ rfl) rfl).cell 3)
      · exact s4 rfl (fun _ _ _ h => h) fun cx => run_load1 rfl (by kernel_rfl) (cx.anc 3 rfl) ((cx.blk (cx.init 3 _ rfl) rfl).cell 4)
      · exact sv0 rfl rfl rfl rfl rfl (fun _ _ _ h => h) fun ρ β W X cx => by
          have fF62 : ρ (.tmp 62) = .slice SA bs.length sc := (cx.anc 4 rfl)
          simp [go_sem, fF62]
      · refine sv_any rfl rfl fun ρ β W X cx => ?_
        refine DoesU.call (run_callF (args := #[.agg #[.int .i64 a, .int .i64 b, .int .i64 n1, .int .i64 n2, .bool ho, .slice A27_5 ((fewF rs).length) c27_5], .int .i64 hz, .iface 43 (.slice SA bs.length sc)]) rfl cx.sees rfl (by kernel_rfl) (map3 (cx.anc 0 rfl) (cx.anc 2 rfl) (cx.anc 5 rfl))) ?_
        refine (freeze_any _ _ _ _ _ _ _ (fewF rs) _ _ _ _ _ (At.of_ownN (cx.row (cx.init 5 _ rfl) rfl)) (by first | omega | decide | (simp; done) | (simp; omega)) (stand_ok _ _ _ bs _ (rfl) (hSA.ext cx.upd.to_ext) hbs) (hN.ext cx.upd.to_ext)).mono ?_
        rintro e W1 ⟨A4, c4, rfl, ho, hx⟩
        refine ⟨_, rfl, post_call [eO 103 3 (.slice A4 ((fewF rs).length) c4) ((fewF rs).length) (flatR (fewF rs))] rfl rfl hx (one_new (eO_new ho)) (List.pairwise_singleton _ _) (fun σ β' X' hs hb hv hN => ?_)⟩
        have hv1 := (hv 64 rfl).1; have hv2 := (hv 64 rfl).2
        exact ⟨hv1.trans (by rw [hv2]; rfl), (by rw [hv2]; exact (List.cons.inj hN).1)⟩
      · exact sv rfl rfl rfl rfl rfl _ (fun _ _ _ h => h) (fun β β' h => by rw [h 64 (by decide)]) fun ρ β W X cx => run_move' rfl (dTn (cx.anc 6 rfl)).1
      · exact sv rfl rfl rfl rfl rfl _ (fun _ _ _ h => h) (fun β β' h => by rw [h 64 (by decide)]) fun ρ β W X cx => run_extract' rfl (dTn (cx.anc 7 rfl)) rfl
      · exact s4 rfl (fun _ _ _ h => h) fun cx => run_extract' rfl (dTn (cx.anc 7 rfl)) rfl
      · refine sv_any rfl rfl fun ρ β W X cx => ?_
        exact dv_alloc (cs := #[.int .i64 0, .int .i64 0, .int .i64 0, .int .i64 0, .bool false, .slice none 0 0]) rfl (by kernel_rfl) rfl rfl (fun σ β' X' hs hb hv hx => ⟨hv, hx⟩)
      · refine sv_any rfl rfl fun ρ β W X cx => ?_
        exact dv_store (n := 6) rfl (dTn (cx.anc 10 rfl)).1 (dTn (cx.anc 8 rfl)) (by kernel_rfl) (by kernel_rfl) (by kernel_rfl) cx (dTn (cx.anc 10 rfl)).2 rfl (Nat.le_of_ble_eq_true rfl) (by kernel_rfl) rfl rfl rfl (fun σ β' X' hs hb hx => by rw [hb 15, hb 64]; exact hx)
    intro σ β X W13 hD hX hst13 fr hfr
    obtain ⟨A64_13, hu_A64_13⟩ : ∃ z, sA (tg (tg (β 64) 0) 5) = z := ⟨_, rfl⟩
    obtain ⟨c64_13, hu_c64_13⟩ : ∃ z, sC (tg (tg (β 64) 0) 5) = z := ⟨_, rfl⟩
    obtain ⟨B15_13, hu_B15_13⟩ : ∃ z, pb (β 15) = z := ⟨_, rfl⟩
    simp only [zM, exq 0 (hX 0 _ rfl), exq 1 (hX 1 _ rfl), exq 2 (hX 2 _ rfl), exq 3 (hX 3 _ rfl), exq 4 (hX 4 _ rfl), exq 5 (hX 5 _ rfl), exq 6 (hX 6 _ rfl), exq 7 (hX 7 _ rfl), exq 8 (hX 8 _ rfl), exq 9 (hX 9 _ rfl), exq 10 ((dTn (hD 6 lq)).2), exq 12 ((dTn (hD 11 lq))), hu_A64_13, hu_c64_13, hu_B15_13] at hst13
    dsimp only [mgT, vals, List.take, List.drop, List.cons_append, List.nil_append] at hfr
    simp only [ed 64 ((dTn (hD 6 lq)).1), ed 57 ((dTn (hD 7 lq))), ed 65 ((dTn (hD 8 lq))), ed 15 ((dTn (hD 10 lq)).1), hu_A64_13, hu_c64_13, hu_B15_13] at hfr
    clear hX hD hu_A64_13 hu_c64_13 hu_B15_13; subst hfr; clear σ β X
    refine then_normal ?_
    refine wp_seq ?_
    refine wp_region_T [0, 0, 2, 0, 15, 0, 63] [[8], [], [3], [4], [], [], [12]] [[], [], [], [], [], [12], [13]] [[], [], [], [], [], [], [12]] [.c 67 (.agg #[.int .i64 a, .int .i64 b, .int .i64 n1, .int .i64 n2, .bool ho, .slice A27_5 ((fewF rs).length) c27_5]), .k 68 (.pointer (some ⟨B5_1, 3, none⟩)), .c 69 (.int .i64 hz), .c 70 (.agg ((tabL bs 128).map (Value.int .i64)).toArray), .c 71 (.agg #[.int .i64 (fzA hz (standF bs) a), .int .i64 (if fzX (standF bs) b then 0 else b), .int .i64 (if fzX (standF bs) b then -1 else n1), .int .i64 (if fzX (standF bs) b then 0 else n2), .bool ho, .slice A27_5 ((fewF rs).length) c27_5, .bool (oldF (standF bs) hz a || fzX (standF bs) b)]), .a 17, .n] (fun ix σ β X => match ix with | 0 => True | 1 => True | 2 => True | 3 => True | 4 => True | 5 => σ 17 = .pointer (some ⟨(pb (β 17)), 0, none⟩) ∧ X 12 = eB (pb (β 17)) 60 #[.int .i64 0, .int .i64 0, .int .i64 0, .int .i64 0, .bool false, .slice none 0 0, .bool false] | 6 => X 13 = eB (pb (β 17)) 60 #[.int .i64 (fzA hz (standF bs) a), .int .i64 (if fzX (standF bs) b then 0 else b), .int .i64 (if fzX (standF bs) b then -1 else n1), .int .i64 (if fzX (standF bs) b then 0 else n2), .bool ho, .slice A27_5 ((fewF rs).length) c27_5, .bool (oldF (standF bs) hz a || fzX (standF bs) b)] | _ => True) [0, 1, 2, 3, 4, 5, 6, 7, 8, 9, 10, 11, 13] [0, 2, 3, 4, 5, 6] [(17, 5, 1, 18), (49, 0, 5, 54)] hst13 ?_ ?_ ?_
    · exact fun ix _ _ _ _ _ _ hs hb hx h => match ix, h with
      | 5, h => by dsimp only at h ⊢; rw [← hs 17 rfl, ← hb 17 rfl, ← hx 12 rfl]; exact h
      | 6, h => by dsimp only at h ⊢; rw [← hb 17 rfl, ← hx 13 rfl]; exact h
      | 0, _ | 1, _ | 2, _ | 3, _ | 4, _ | _ + 7, _ => trivial
    · refine ⟨?_, ?_, ?_, ?_, ?_, ?_, trivial⟩
      · exact s4 rfl (fun _ _ _ h => h) fun cx => run_loadB (n := 6) rfl (by kernel_rfl) (by kernel_rfl) (cx.out 11 rfl) (cx.blk (cx.init 8 _ rfl) rfl) (Nat.le_of_ble_eq_true rfl) rfl
      · exact s4 rfl (fun _ _ _ h => h) fun cx => run_load1 rfl (by kernel_rfl) (cx.anc 1 rfl) ((cx.blk (cx.init 3 _ rfl) rfl).cell 3)
      · exact s4 rfl (fun _ _ _ h => h) fun cx => run_loadAr (n := 128) rfl (by kernel_rfl) (by kernel_rfl) (cx.out 8 rfl) (cx.blk (cx.init 4 _ rfl) rfl) (by simp [tabL_len])
      · exact sv_call rfl rfl rfl rfl rfl (fun _ _ _ h => h) fun ρ β W X cx => ⟨_, _, run_callF (args := #[.agg #[.int .i64 a, .int .i64 b, .int .i64 n1, .int .i64 n2, .bool ho, .slice A27_5 ((fewF rs).length) c27_5], .int .i64 hz, .agg ((tabL bs 128).map (Value.int .i64)).toArray]) rfl cx.sees rfl (by kernel_rfl) (map3 (cx.anc 0 rfl) (cx.anc 2 rfl) (cx.anc 3 rfl)), rfrz_any hz (tabL bs 128) (standF bs) a b n1 n2 ho _ _ _ _ (tabL_len bs 128) (tab_stand bs)⟩
      · refine sv_any rfl rfl fun ρ β W X cx => ?_
        exact dv_alloc (cs := #[.int .i64 0, .int .i64 0, .int .i64 0, .int .i64 0, .bool false, .slice none 0 0, .bool false]) rfl (by kernel_rfl) rfl rfl (fun σ β' X' hs hb hv hx => ⟨hv, hx⟩)
      · refine sv_any rfl rfl fun ρ β W X cx => ?_
        exact dv_store (n := 7) rfl (dTn (cx.anc 5 rfl)).1 (cx.anc 4 rfl) (by kernel_rfl) (by kernel_rfl) (by kernel_rfl) cx (dTn (cx.anc 5 rfl)).2 rfl (Nat.le_of_ble_eq_true rfl) (by kernel_rfl) rfl rfl rfl (fun σ β' X' hs hb hx => by rw [hb 17]; exact hx)
    intro σ β X W14 hD hX hst14 fr hfr
    obtain ⟨B17_14, hu_B17_14⟩ : ∃ z, pb (β 17) = z := ⟨_, rfl⟩
    simp only [zM, exq 0 (hX 0 _ rfl), exq 1 (hX 1 _ rfl), exq 2 (hX 2 _ rfl), exq 3 (hX 3 _ rfl), exq 4 (hX 4 _ rfl), exq 5 (hX 5 _ rfl), exq 6 (hX 6 _ rfl), exq 7 (hX 7 _ rfl), exq 8 (hX 8 _ rfl), exq 9 (hX 9 _ rfl), exq 10 (hX 10 _ rfl), exq 11 (hX 11 _ rfl), exq 13 ((dTn (hD 6 lq))), hu_B17_14] at hst14
    dsimp only [mgT, vals, List.take, List.drop, List.cons_append, List.nil_append] at hfr
    simp only [ed 17 ((dTn (hD 5 lq)).1), hu_B17_14] at hfr
    clear hX hD hu_B17_14; subst hfr; clear σ β X
    refine then_normal ?_
    refine wp_seq ?_
    have hd16 : ((visF hi (ls.take 60) (own.take 20) (standF bs) a b) == (visF hi (ls.take 60) (own.take 20) (standF bs) a b)) = true := by simp
    have hd17 : ((bes1F hi (ls.take 60) (own.take 20) (standF bs) a) == (bes1F hi (ls.take 60) (own.take 20) (standF bs) a)) = true := by simp
    have hd18 : ((bes2F hi (ls.take 60) (own.take 20) (standF bs) b) == (bes1F hi (ls.take 60) (own.take 20) (standF bs) b)) = true := by rw [bes12]; simp
    refine wp_region_T [0, 0, 2, 0, 8, 0, 32, 96, 255, 0, 0, 1024, 0, 4096, 0, 32767, 65535, 131071, 262143, 262143, 786431, 2097151, 4194303, 8388607, 16777215, 16777215, 50331647, 134217727, 268435455, 536870911] [[8], [], [3], [], [3], [], [3], [], [1, 2], [8], [], [3], [], [3], [4], [1, 2], [], [], [], [], [9], [], [], [], [], [], [9]] [] [] [.c 72 (.agg #[.int .i64 a, .int .i64 b, .int .i64 n1, .int .i64 n2, .bool ho, .slice A27_5 ((fewF rs).length) c27_5]), .k 73 (.pointer (some ⟨B5_1, 0, none⟩)), .c 74 (.agg #[.int .i64 hi, .slice A22_3 ((ls.take 60).length) c22_3]), .k 75 (.pointer (some ⟨B5_1, 2, none⟩)), .c 76 (.slice A22q_3 ((own.take 20).length) c22q_3), .k 77 (.pointer (some ⟨B5_1, 4, none⟩)), .c 78 (.slice SA bs.length sc), .c 79 (.iface 43 (.slice SA bs.length sc)), .c 80 (.bool (visF hi (ls.take 60) (own.take 20) (standF bs) a b)), .c 81 (.agg #[.int .i64 a, .int .i64 b, .int .i64 n1, .int .i64 n2, .bool ho, .slice A27_5 ((fewF rs).length) c27_5]), .k 82 (.pointer (some ⟨B5_1, 0, none⟩)), .c 83 (.agg #[.int .i64 hi, .slice A22_3 ((ls.take 60).length) c22_3]), .k 84 (.pointer (some ⟨B5_1, 2, none⟩)), .c 85 (.slice A22q_3 ((own.take 20).length) c22q_3), .c 86 (.agg ((tabL bs 128).map (Value.int .i64)).toArray), .c 87 (.bool (visF hi (ls.take 60) (own.take 20) (standF bs) a b)), .c 88 (.bool true), .k 89 (.bool true), .k 90 (.int .i64 (bes1F hi (ls.take 60) (own.take 20) (standF bs) a)), .k 91 (.pointer (some ⟨B14_12, 0, none⟩)), .c 92 (.int .i64 (bes1F hi (ls.take 60) (own.take 20) (standF bs) a)), .e 93 (.bool ((bes1F hi (ls.take 60) (own.take 20) (standF bs) a) == (bes1F hi (ls.take 60) (own.take 20) (standF bs) a))) (.bool true) (congrArg Value.bool hd17), .k 94 (.bool true), .k 95 (.bool true), .k 96 (.int .i64 (bes2F hi (ls.take 60) (own.take 20) (standF bs) b)), .k 97 (.pointer (some ⟨B14_12, 1, none⟩)), .c 98 (.int .i64 (bes1F hi (ls.take 60) (own.take 20) (standF bs) b)), .e 99 (.bool ((bes2F hi (ls.take 60) (own.take 20) (standF bs) b) == (bes1F hi (ls.take 60) (own.take 20) (standF bs) b))) (.bool true) (congrArg Value.bool hd18), .k 100 (.bool true), .k 18 (.bool true)] (fun _ _ _ _ => True) [0, 1, 2, 3, 4, 5, 6, 7, 8, 9, 10, 11, 12] [0, 2, 4, 6, 7, 8, 9, 11, 13, 14, 15, 16, 20, 26] [(18, 29, 1, 19), (53, 0, 29, 82)] hst14 ?_ ?_ ?_
    · exact fun _ _ _ _ _ _ _ _ _ _ h => h
    · refine ⟨?_, ?_, ?_, ?_, ?_, ?_, ?_, ?_, ?_, ?_, ?_, ?_, ?_, ?_, trivial⟩
      · exact s4 rfl (fun _ _ _ h => h) fun cx => run_loadB (n := 6) rfl (by kernel_rfl) (by kernel_rfl) (cx.out 11 rfl) (cx.blk (cx.init 8 _ rfl) rfl) (Nat.le_of_ble_eq_true rfl) rfl
      · exact s4 rfl (fun _ _ _ h => h) fun cx => run_loadB (n := 2) rfl (by kernel_rfl) (by kernel_rfl) (cx.anc 1 rfl) (cx.blk (cx.init 3 _ rfl) rfl) (Nat.le_of_ble_eq_true rfl) rfl
      · exact s4 rfl (fun _ _ _ h => h) fun cx => run_load1 rfl (by kernel_rfl) (cx.anc 3 rfl) ((cx.blk (cx.init 3 _ rfl) rfl).cell 2)
      · exact s4 rfl (fun _ _ _ h => h) fun cx => run_load1 rfl (by kernel_rfl) (cx.anc 5 rfl) ((cx.blk (cx.init 3 _ rfl) rfl).cell 4)
      · exact sv0 rfl rfl rfl rfl rfl (fun _ _ _ h => h) fun ρ β W X cx => by
          have fF78 : ρ (.tmp 78) = .slice SA bs.length sc := (cx.anc 6 rfl)
          simp [go_sem, fF78]
      · exact sv_call rfl rfl rfl rfl rfl (fun _ _ _ h => h) fun ρ β W X cx => ⟨_, _, run_callF (args := #[.agg #[.int .i64 a, .int .i64 b, .int .i64 n1, .int .i64 n2, .bool ho, .slice A27_5 ((fewF rs).length) c27_5], .agg #[.int .i64 hi, .slice A22_3 ((ls.take 60).length) c22_3], .slice A22q_3 ((own.take 20).length) c22q_3, .iface 43 (.slice SA bs.length sc)]) rfl cx.sees rfl (by kernel_rfl) (map4 (cx.anc 0 rfl) (cx.anc 2 rfl) (cx.anc 4 rfl) (cx.anc 7 rfl)), visible_any _ _ _ _ _ _ _ _ _ _ _ (ls.take 60) _ _ (own.take 20) _ _ _ _ (At.of_own (cx.row (cx.init 1 _ rfl) rfl)) (by first | omega | decide | (simp; done) | (simp; omega)) (At.of_own (cx.row (cx.init 2 _ rfl) rfl)) (by first | omega | decide | (simp; done) | (simp; omega)) (stand_ok _ _ _ bs _ (rfl) (hSA.ext cx.upd.to_ext) hbs)⟩
      · exact s4 rfl (fun _ _ _ h => h) fun cx => run_loadB (n := 6) rfl (by kernel_rfl) (by kernel_rfl) (cx.out 11 rfl) (cx.blk (cx.init 8 _ rfl) rfl) (Nat.le_of_ble_eq_true rfl) rfl
      · exact s4 rfl (fun _ _ _ h => h) fun cx => run_loadB (n := 2) rfl (by kernel_rfl) (by kernel_rfl) (cx.anc 10 rfl) (cx.blk (cx.init 3 _ rfl) rfl) (Nat.le_of_ble_eq_true rfl) rfl
      · exact s4 rfl (fun _ _ _ h => h) fun cx => run_load1 rfl (by kernel_rfl) (cx.anc 12 rfl) ((cx.blk (cx.init 3 _ rfl) rfl).cell 2)
      · exact s4 rfl (fun _ _ _ h => h) fun cx => run_loadAr (n := 128) rfl (by kernel_rfl) (by kernel_rfl) (cx.out 8 rfl) (cx.blk (cx.init 4 _ rfl) rfl) (by simp [tabL_len])
      · exact sv_call rfl rfl rfl rfl rfl (fun _ _ _ h => h) fun ρ β W X cx => ⟨_, _, run_callF (args := #[.agg #[.int .i64 a, .int .i64 b, .int .i64 n1, .int .i64 n2, .bool ho, .slice A27_5 ((fewF rs).length) c27_5], .agg #[.int .i64 hi, .slice A22_3 ((ls.take 60).length) c22_3], .slice A22q_3 ((own.take 20).length) c22q_3, .agg ((tabL bs 128).map (Value.int .i64)).toArray]) rfl cx.sees rfl (by kernel_rfl) (map4 (cx.anc 9 rfl) (cx.anc 11 rfl) (cx.anc 13 rfl) (cx.anc 14 rfl)), rvis_any hi _ _ (ls.take 60) _ _ (own.take 20) (tabL bs 128) (standF bs) a b n1 n2 ho _ _ _ _ (At.of_own (cx.row (cx.init 1 _ rfl) rfl)) (by first | omega | decide | (simp; done) | (simp; omega)) (At.of_own (cx.row (cx.init 2 _ rfl) rfl)) (by first | omega | decide | (simp; done) | (simp; omega)) (tabL_len bs 128) (tab_stand bs)⟩
      · exact sv0 rfl rfl rfl rfl rfl (fun _ _ _ h => h.trans (congrArg Value.bool hd16)) fun ρ β W X cx => by
          have fF80 : ρ (.tmp 80) = .bool (visF hi (ls.take 60) (own.take 20) (standF bs) a b) := (cx.anc 8 rfl)
          have fF87 : ρ (.tmp 87) = .bool (visF hi (ls.take 60) (own.take 20) (standF bs) a b) := (cx.anc 15 rfl)
          simp [go_sem, fF80, fF87]
      · exact s5 rfl (fun _ _ _ h => h) (fun cx => (cx.anc 17 rfl)) fun cx => run_load1 rfl (by kernel_rfl) (cx.anc 19 rfl) ((cx.blk (cx.init 9 _ rfl) rfl).cell 0)
      · exact s5 rfl (fun _ _ _ h => h) (fun cx => (cx.anc 23 rfl)) fun cx => run_load1 rfl (by kernel_rfl) (cx.anc 25 rfl) ((cx.blk (cx.init 9 _ rfl) rfl).cell 1)
    intro σ β X W15 hD hX hst15 fr hfr
    simp only [zM, exq 0 (hX 0 _ rfl), exq 1 (hX 1 _ rfl), exq 2 (hX 2 _ rfl), exq 3 (hX 3 _ rfl), exq 4 (hX 4 _ rfl), exq 5 (hX 5 _ rfl), exq 6 (hX 6 _ rfl), exq 7 (hX 7 _ rfl), exq 8 (hX 8 _ rfl), exq 9 (hX 9 _ rfl), exq 10 (hX 10 _ rfl), exq 11 (hX 11 _ rfl), exq 12 (hX 12 _ rfl)] at hst15
    dsimp only [mgT, vals, List.take, List.drop, List.cons_append, List.nil_append] at hfr
    clear hX hD; subst hfr; clear σ β X
    refine then_normal ?_
    refine wp_seq ?_
    have hd20 : ((busyF (own.take 20) (standF bs) b) == (busyF (own.take 20) (standF bs) b)) = true := by simp
    have hd21 : ((deadF (standF bs) hz a b) == (deadF (standF bs) hz a b)) = true := by simp
    refine wp_region_T [0, 0, 2, 0, 8, 24, 63, 0, 0, 256, 0, 2047, 4095, 8191, 16383, 16383, 49151, 16383, 147455, 409599, 1048575, 16383, 16383, 4210687, 16383, 33554431, 67108863, 134217727, 268435455] [[8], [], [3], [], [3], [], [2], [8], [], [3], [4], [2], [], [], [8], [], [3], [], [3], [], [], [8], [], [3], [4]] [] [] [.c 101 (.agg #[.int .i64 a, .int .i64 b, .int .i64 n1, .int .i64 n2, .bool ho, .slice A27_5 ((fewF rs).length) c27_5]), .k 102 (.pointer (some ⟨B5_1, 2, none⟩)), .c 103 (.slice A22q_3 ((own.take 20).length) c22q_3), .k 104 (.pointer (some ⟨B5_1, 4, none⟩)), .c 105 (.slice SA bs.length sc), .c 106 (.iface 43 (.slice SA bs.length sc)), .c 107 (.int .i64 (busyF (own.take 20) (standF bs) b)), .c 108 (.agg #[.int .i64 a, .int .i64 b, .int .i64 n1, .int .i64 n2, .bool ho, .slice A27_5 ((fewF rs).length) c27_5]), .k 109 (.pointer (some ⟨B5_1, 2, none⟩)), .c 110 (.slice A22q_3 ((own.take 20).length) c22q_3), .c 111 (.agg ((tabL bs 128).map (Value.int .i64)).toArray), .c 112 (.int .i64 (busyF (own.take 20) (standF bs) b)), .e 113 (.bool ((busyF (own.take 20) (standF bs) b) == (busyF (own.take 20) (standF bs) b))) (.bool true) (congrArg Value.bool hd20), .k 114 (.bool true), .c 115 (.agg #[.int .i64 a, .int .i64 b, .int .i64 n1, .int .i64 n2, .bool ho, .slice A27_5 ((fewF rs).length) c27_5]), .k 116 (.pointer (some ⟨B5_1, 3, none⟩)), .c 117 (.int .i64 hz), .k 118 (.pointer (some ⟨B5_1, 4, none⟩)), .c 119 (.slice SA bs.length sc), .c 120 (.iface 43 (.slice SA bs.length sc)), .c 121 (.bool (deadF (standF bs) hz a b)), .c 122 (.agg #[.int .i64 a, .int .i64 b, .int .i64 n1, .int .i64 n2, .bool ho, .slice A27_5 ((fewF rs).length) c27_5]), .k 123 (.pointer (some ⟨B5_1, 3, none⟩)), .c 124 (.int .i64 hz), .c 125 (.agg ((tabL bs 128).map (Value.int .i64)).toArray), .c 126 (.bool (deadF (standF bs) hz a b)), .c 127 (.bool true), .k 128 (.bool true), .k 19 (.bool true)] (fun _ _ _ _ => True) [0, 1, 2, 3, 4, 5, 6, 7, 8, 9, 10, 11, 12] [0, 2, 4, 5, 6, 7, 9, 10, 11, 14, 16, 18, 19, 20, 21, 23, 24, 25, 26] [(19, 28, 1, 20), (81, 0, 28, 109)] hst15 ?_ ?_ ?_
    · exact fun _ _ _ _ _ _ _ _ _ _ h => h
    · refine ⟨?_, ?_, ?_, ?_, ?_, ?_, ?_, ?_, ?_, ?_, ?_, ?_, ?_, ?_, ?_, ?_, ?_, ?_, ?_, trivial⟩
      · exact s4 rfl (fun _ _ _ h => h) fun cx => run_loadB (n := 6) rfl (by kernel_rfl) (by kernel_rfl) (cx.out 11 rfl) (cx.blk (cx.init 8 _ rfl) rfl) (Nat.le_of_ble_eq_true rfl) rfl
      · exact s4 rfl (fun _ _ _ h => h) fun cx => run_load1 rfl (by kernel_rfl) (cx.anc 1 rfl) ((cx.blk (cx.init 3 _ rfl) rfl).cell 2)
      · exact s4 rfl (fun _ _ _ h => h) fun cx => run_load1 rfl (by kernel_rfl) (cx.anc 3 rfl) ((cx.blk (cx.init 3 _ rfl) rfl).cell 4)
      · exact sv0 rfl rfl rfl rfl rfl (fun _ _ _ h => h) fun ρ β W X cx => by
          have fF105 : ρ (.tmp 105) = .slice SA bs.length sc := (cx.anc 4 rfl)
          simp [go_sem, fF105]
      · exact sv_call rfl rfl rfl rfl rfl (fun _ _ _ h => h) fun ρ β W X cx => ⟨_, _, run_callF (args := #[.agg #[.int .i64 a, .int .i64 b, .int .i64 n1, .int .i64 n2, .bool ho, .slice A27_5 ((fewF rs).length) c27_5], .slice A22q_3 ((own.take 20).length) c22q_3, .iface 43 (.slice SA bs.length sc)]) rfl cx.sees rfl (by kernel_rfl) (map3 (cx.anc 0 rfl) (cx.anc 2 rfl) (cx.anc 5 rfl)), busy_any _ _ _ _ _ _ _ _ _ _ (own.take 20) _ _ _ _ (At.of_own (cx.row (cx.init 2 _ rfl) rfl)) (by first | omega | decide | (simp; done) | (simp; omega)) (stand_ok _ _ _ bs _ (rfl) (hSA.ext cx.upd.to_ext) hbs)⟩
      · exact s4 rfl (fun _ _ _ h => h) fun cx => run_loadB (n := 6) rfl (by kernel_rfl) (by kernel_rfl) (cx.out 11 rfl) (cx.blk (cx.init 8 _ rfl) rfl) (Nat.le_of_ble_eq_true rfl) rfl
      · exact s4 rfl (fun _ _ _ h => h) fun cx => run_load1 rfl (by kernel_rfl) (cx.anc 8 rfl) ((cx.blk (cx.init 3 _ rfl) rfl).cell 2)
      · exact s4 rfl (fun _ _ _ h => h) fun cx => run_loadAr (n := 128) rfl (by kernel_rfl) (by kernel_rfl) (cx.out 8 rfl) (cx.blk (cx.init 4 _ rfl) rfl) (by simp [tabL_len])
      · exact sv_call rfl rfl rfl rfl rfl (fun _ _ _ h => h) fun ρ β W X cx => ⟨_, _, run_callF (args := #[.agg #[.int .i64 a, .int .i64 b, .int .i64 n1, .int .i64 n2, .bool ho, .slice A27_5 ((fewF rs).length) c27_5], .slice A22q_3 ((own.take 20).length) c22q_3, .agg ((tabL bs 128).map (Value.int .i64)).toArray]) rfl cx.sees rfl (by kernel_rfl) (map3 (cx.anc 7 rfl) (cx.anc 9 rfl) (cx.anc 10 rfl)), rbusy_any _ _ (own.take 20) (tabL bs 128) (standF bs) a b n1 n2 ho _ _ _ _ (At.of_own (cx.row (cx.init 2 _ rfl) rfl)) (by first | omega | decide | (simp; done) | (simp; omega)) (tabL_len bs 128) (tab_stand bs)⟩
      · exact s5 rfl (fun _ _ _ h => h) (fun cx => (cx.anc 13 rfl)) fun cx => run_loadB (n := 6) rfl (by kernel_rfl) (by kernel_rfl) (cx.out 11 rfl) (cx.blk (cx.init 8 _ rfl) rfl) (Nat.le_of_ble_eq_true rfl) rfl
      · exact s5 rfl (fun _ _ _ h => h) (fun cx => (cx.anc 13 rfl)) fun cx => run_load1 rfl (by kernel_rfl) (cx.anc 15 rfl) ((cx.blk (cx.init 3 _ rfl) rfl).cell 3)
      · exact s5 rfl (fun _ _ _ h => h) (fun cx => (cx.anc 13 rfl)) fun cx => run_load1 rfl (by kernel_rfl) (cx.anc 17 rfl) ((cx.blk (cx.init 3 _ rfl) rfl).cell 4)
      · exact sv0_on rfl rfl rfl rfl rfl rfl (fun _ _ _ h => h) (fun _ _ _ _ cx => (cx.anc 13 rfl)) fun ρ β W X cx => by
          have fF119 : ρ (.tmp 119) = .slice SA bs.length sc := (cx.anc 18 rfl)
          simp [go_sem, fF119]
      · exact sv_call_on rfl rfl rfl rfl rfl rfl (fun _ _ _ h => h) (fun _ _ _ _ cx => (cx.anc 13 rfl)) fun ρ β W X cx => ⟨_, _, run_callF (args := #[.agg #[.int .i64 a, .int .i64 b, .int .i64 n1, .int .i64 n2, .bool ho, .slice A27_5 ((fewF rs).length) c27_5], .int .i64 hz, .iface 43 (.slice SA bs.length sc)]) rfl cx.sees rfl (by kernel_rfl) (map3 (cx.anc 14 rfl) (cx.anc 16 rfl) (cx.anc 19 rfl)), dead_any _ _ _ _ _ _ _ _ _ _ _ _ _ (stand_ok _ _ _ bs _ (rfl) (hSA.ext cx.upd.to_ext) hbs)⟩
      · exact s5 rfl (fun _ _ _ h => h) (fun cx => (cx.anc 13 rfl)) fun cx => run_loadB (n := 6) rfl (by kernel_rfl) (by kernel_rfl) (cx.out 11 rfl) (cx.blk (cx.init 8 _ rfl) rfl) (Nat.le_of_ble_eq_true rfl) rfl
      · exact s5 rfl (fun _ _ _ h => h) (fun cx => (cx.anc 13 rfl)) fun cx => run_load1 rfl (by kernel_rfl) (cx.anc 22 rfl) ((cx.blk (cx.init 3 _ rfl) rfl).cell 3)
      · exact s5 rfl (fun _ _ _ h => h) (fun cx => (cx.anc 13 rfl)) fun cx => run_loadAr (n := 128) rfl (by kernel_rfl) (by kernel_rfl) (cx.out 8 rfl) (cx.blk (cx.init 4 _ rfl) rfl) (by simp [tabL_len])
      · exact sv_call_on rfl rfl rfl rfl rfl rfl (fun _ _ _ h => h) (fun _ _ _ _ cx => (cx.anc 13 rfl)) fun ρ β W X cx => ⟨_, _, run_callF (args := #[.agg #[.int .i64 a, .int .i64 b, .int .i64 n1, .int .i64 n2, .bool ho, .slice A27_5 ((fewF rs).length) c27_5], .int .i64 hz, .agg ((tabL bs 128).map (Value.int .i64)).toArray]) rfl cx.sees rfl (by kernel_rfl) (map3 (cx.anc 21 rfl) (cx.anc 23 rfl) (cx.anc 24 rfl)), rdead_any hz (tabL bs 128) (standF bs) a b n1 n2 ho _ _ _ _ (tabL_len bs 128) (tab_stand bs)⟩
      · exact sv0_on rfl rfl rfl rfl rfl rfl (fun _ _ _ h => h.trans (congrArg Value.bool hd21)) (fun _ _ _ _ cx => (cx.anc 13 rfl)) fun ρ β W X cx => by
          have fF121 : ρ (.tmp 121) = .bool (deadF (standF bs) hz a b) := (cx.anc 20 rfl)
          have fF126 : ρ (.tmp 126) = .bool (deadF (standF bs) hz a b) := (cx.anc 25 rfl)
          simp [go_sem, fF121, fF126]
    intro σ β X W19 hD hX hst19 fr hfr
    simp only [zM, exq 0 (hX 0 _ rfl), exq 1 (hX 1 _ rfl), exq 2 (hX 2 _ rfl), exq 3 (hX 3 _ rfl), exq 4 (hX 4 _ rfl), exq 5 (hX 5 _ rfl), exq 6 (hX 6 _ rfl), exq 7 (hX 7 _ rfl), exq 8 (hX 8 _ rfl), exq 9 (hX 9 _ rfl), exq 10 (hX 10 _ rfl), exq 11 (hX 11 _ rfl), exq 12 (hX 12 _ rfl)] at hst19
    dsimp only [mgT, vals, List.take, List.drop, List.cons_append, List.nil_append] at hfr
    clear hX hD; subst hfr; clear σ β X
    refine then_normal ?_
    refine wp_seq ?_
    have hd23 : (!((allF (standF bs) hz a b) == (allF (standF bs) hz a b))) = false := by simp
    have hd24 : (!((oldF (standF bs) hz a || fzX (standF bs) b) == (oldF (standF bs) hz a || fzX (standF bs) b))) = false := by simp
    have hd25 : (sameV (fzA hz (standF bs) a) (if fzX (standF bs) b then 0 else b) (if fzX (standF bs) b then -1 else n1) (if fzX (standF bs) b then 0 else n2) ho (fewF rs) (fzA hz (standF bs) a) (if fzX (standF bs) b then 0 else b) (if fzX (standF bs) b then -1 else n1) (if fzX (standF bs) b then 0 else n2) ho (fewF rs)) = true := sameV_self
    refine wp_region_T [0, 1, 3, 7, 15, 31, 63, 127, 127, 383, 127, 1151, 3199, 8191, 127, 127, 32895, 127, 262143, 524287, 1048575, 2097151, 4194303, 4194303, 12582911, 33554431, 67108863, 134217727, 268435455, 268435455, 805306367, 2147483647, 4294967295, 8589934591] [[], [], [], [], [], [], [], [8], [], [3], [], [3], [], [], [8], [], [3], [4], [], [], [], [], [], [], [12], [], [], [], [11], [], [12], [10, 5]] [] [] [.k 129 (.bool true), .k 130 (.bool false), .k 131 (.bool false), .k 132 (.bool true), .k 133 (.bool false), .k 134 (.bool false), .k 135 (.bool false), .c 136 (.agg #[.int .i64 a, .int .i64 b, .int .i64 n1, .int .i64 n2, .bool ho, .slice A27_5 ((fewF rs).length) c27_5]), .k 137 (.pointer (some ⟨B5_1, 3, none⟩)), .c 138 (.int .i64 hz), .k 139 (.pointer (some ⟨B5_1, 4, none⟩)), .c 140 (.slice SA bs.length sc), .c 141 (.iface 43 (.slice SA bs.length sc)), .c 142 (.bool (allF (standF bs) hz a b)), .c 143 (.agg #[.int .i64 a, .int .i64 b, .int .i64 n1, .int .i64 n2, .bool ho, .slice A27_5 ((fewF rs).length) c27_5]), .k 144 (.pointer (some ⟨B5_1, 3, none⟩)), .c 145 (.int .i64 hz), .c 146 (.agg ((tabL bs 128).map (Value.int .i64)).toArray), .c 147 (.bool (allF (standF bs) hz a b)), .c 148 (.bool false), .k 149 (.bool false), .k 150 (.bool false), .k 151 (.bool (oldF (standF bs) hz a || fzX (standF bs) b)), .k 152 (.pointer (some ⟨B17_14, 6, none⟩)), .c 153 (.bool (oldF (standF bs) hz a || fzX (standF bs) b)), .c 154 (.bool false), .k 155 (.bool false), .k 156 (.bool false), .c 157 (.agg #[.int .i64 (fzA hz (standF bs) a), .int .i64 (if fzX (standF bs) b then 0 else b), .int .i64 (if fzX (standF bs) b then -1 else n1), .int .i64 (if fzX (standF bs) b then 0 else n2), .bool ho, .slice A64_13 ((fewF rs).length) c64_13]), .k 158 (.pointer (some ⟨B17_14, 0, none⟩)), .c 159 (.agg #[.int .i64 (fzA hz (standF bs) a), .int .i64 (if fzX (standF bs) b then 0 else b), .int .i64 (if fzX (standF bs) b then -1 else n1), .int .i64 (if fzX (standF bs) b then 0 else n2), .bool ho, .slice A27_5 ((fewF rs).length) c27_5]), .c 160 (.bool true), .k 161 (.bool false), .k 162 (.bool false)] (fun _ _ _ _ => True) [0, 1, 2, 3, 4, 5, 6, 7, 8, 9, 10, 11, 12] [7, 9, 11, 12, 13, 14, 16, 17, 18, 19, 24, 25, 28, 30, 31] [(129, 0, 34, 163)] hst19 ?_ ?_ ?_
    · exact fun _ _ _ _ _ _ _ _ _ _ h => h
    · refine ⟨?_, ?_, ?_, ?_, ?_, ?_, ?_, ?_, ?_, ?_, ?_, ?_, ?_, ?_, ?_, trivial⟩
      · exact s5 rfl (fun _ _ _ h => h) (fun cx => (cx.anc 6 rfl)) fun cx => run_loadB (n := 6) rfl (by kernel_rfl) (by kernel_rfl) (cx.out 11 rfl) (cx.blk (cx.init 8 _ rfl) rfl) (Nat.le_of_ble_eq_true rfl) rfl
      · exact s5 rfl (fun _ _ _ h => h) (fun cx => (cx.anc 6 rfl)) fun cx => run_load1 rfl (by kernel_rfl) (cx.anc 8 rfl) ((cx.blk (cx.init 3 _ rfl) rfl).cell 3)
      · exact s5 rfl (fun _ _ _ h => h) (fun cx => (cx.anc 6 rfl)) fun cx => run_load1 rfl (by kernel_rfl) (cx.anc 10 rfl) ((cx.blk (cx.init 3 _ rfl) rfl).cell 4)
      · exact sv0_on rfl rfl rfl rfl rfl rfl (fun _ _ _ h => h) (fun _ _ _ _ cx => (cx.anc 6 rfl)) fun ρ β W X cx => by
          have fF140 : ρ (.tmp 140) = .slice SA bs.length sc := (cx.anc 11 rfl)
          simp [go_sem, fF140]
      · exact sv_call_on rfl rfl rfl rfl rfl rfl (fun _ _ _ h => h) (fun _ _ _ _ cx => (cx.anc 6 rfl)) fun ρ β W X cx => ⟨_, _, run_callF (args := #[.agg #[.int .i64 a, .int .i64 b, .int .i64 n1, .int .i64 n2, .bool ho, .slice A27_5 ((fewF rs).length) c27_5], .int .i64 hz, .iface 43 (.slice SA bs.length sc)]) rfl cx.sees rfl (by kernel_rfl) (map3 (cx.anc 7 rfl) (cx.anc 9 rfl) (cx.anc 12 rfl)), all_any _ _ _ _ _ _ _ _ _ _ _ _ _ (stand_ok _ _ _ bs _ (rfl) (hSA.ext cx.upd.to_ext) hbs)⟩
      · exact s5 rfl (fun _ _ _ h => h) (fun cx => (cx.anc 6 rfl)) fun cx => run_loadB (n := 6) rfl (by kernel_rfl) (by kernel_rfl) (cx.out 11 rfl) (cx.blk (cx.init 8 _ rfl) rfl) (Nat.le_of_ble_eq_true rfl) rfl
      · exact s5 rfl (fun _ _ _ h => h) (fun cx => (cx.anc 6 rfl)) fun cx => run_load1 rfl (by kernel_rfl) (cx.anc 15 rfl) ((cx.blk (cx.init 3 _ rfl) rfl).cell 3)
      · exact s5 rfl (fun _ _ _ h => h) (fun cx => (cx.anc 6 rfl)) fun cx => run_loadAr (n := 128) rfl (by kernel_rfl) (by kernel_rfl) (cx.out 8 rfl) (cx.blk (cx.init 4 _ rfl) rfl) (by simp [tabL_len])
      · exact sv_call_on rfl rfl rfl rfl rfl rfl (fun _ _ _ h => h) (fun _ _ _ _ cx => (cx.anc 6 rfl)) fun ρ β W X cx => ⟨_, _, run_callF (args := #[.agg #[.int .i64 a, .int .i64 b, .int .i64 n1, .int .i64 n2, .bool ho, .slice A27_5 ((fewF rs).length) c27_5], .int .i64 hz, .agg ((tabL bs 128).map (Value.int .i64)).toArray]) rfl cx.sees rfl (by kernel_rfl) (map3 (cx.anc 14 rfl) (cx.anc 16 rfl) (cx.anc 17 rfl)), rall_any hz (tabL bs 128) (standF bs) a b n1 n2 ho _ _ _ _ (tabL_len bs 128) (tab_stand bs)⟩
      · exact sv0_on rfl rfl rfl rfl rfl rfl (fun _ _ _ h => h.trans (congrArg Value.bool hd23)) (fun _ _ _ _ cx => (cx.anc 6 rfl)) fun ρ β W X cx => by
          have fF142 : ρ (.tmp 142) = .bool (allF (standF bs) hz a b) := (cx.anc 13 rfl)
          have fF147 : ρ (.tmp 147) = .bool (allF (standF bs) hz a b) := (cx.anc 18 rfl)
          simp [go_sem, fF142, fF147]
      · exact s5 rfl (fun _ _ _ h => h) (fun cx => (cx.anc 21 rfl)) fun cx => run_load1 rfl (by kernel_rfl) (cx.anc 23 rfl) ((cx.blk (cx.init 12 _ rfl) rfl).cell 6)
      · exact sv0_on rfl rfl rfl rfl rfl rfl (fun _ _ _ h => h.trans (congrArg Value.bool hd24)) (fun _ _ _ _ cx => (cx.anc 21 rfl)) fun ρ β W X cx => by
          have fF151 : ρ (.tmp 151) = .bool (oldF (standF bs) hz a || fzX (standF bs) b) := (cx.anc 22 rfl)
          have fF153 : ρ (.tmp 153) = .bool (oldF (standF bs) hz a || fzX (standF bs) b) := (cx.anc 24 rfl)
          simp [go_sem, fF151, fF153]
      · exact s5 rfl (fun _ _ _ h => h) (fun cx => (cx.anc 27 rfl)) fun cx => run_loadB (n := 6) rfl (by kernel_rfl) (by kernel_rfl) (cx.out 15 rfl) (cx.blk (cx.init 11 _ rfl) rfl) (Nat.le_of_ble_eq_true rfl) rfl
      · exact s5 rfl (fun _ _ _ h => h) (fun cx => (cx.anc 27 rfl)) fun cx => run_loadB (n := 6) rfl (by kernel_rfl) (by kernel_rfl) (cx.anc 29 rfl) (cx.blk (cx.init 12 _ rfl) rfl) (Nat.le_of_ble_eq_true rfl) rfl
      · exact sv_call_on rfl rfl rfl rfl rfl rfl (fun _ _ _ h => h.trans (congrArg Value.bool hd25)) (fun _ _ _ _ cx => (cx.anc 27 rfl)) fun ρ β W X cx => ⟨_, _, run_callF (args := #[.agg #[.int .i64 (fzA hz (standF bs) a), .int .i64 (if fzX (standF bs) b then 0 else b), .int .i64 (if fzX (standF bs) b then -1 else n1), .int .i64 (if fzX (standF bs) b then 0 else n2), .bool ho, .slice A64_13 ((fewF rs).length) c64_13], .agg #[.int .i64 (fzA hz (standF bs) a), .int .i64 (if fzX (standF bs) b then 0 else b), .int .i64 (if fzX (standF bs) b then -1 else n1), .int .i64 (if fzX (standF bs) b then 0 else n2), .bool ho, .slice A27_5 ((fewF rs).length) c27_5]]) rfl cx.sees rfl (by kernel_rfl) (map2 (cx.anc 28 rfl) (cx.anc 30 rfl)), vsame_any _ _ _ _ _ _ _ (fewF rs) _ _ _ _ _ _ _ (fewF rs) _ (At.of_ownN (cx.row (cx.init 10 _ rfl) rfl)) (At.of_ownN (cx.row (cx.init 5 _ rfl) rfl)) (by first | omega | decide | (simp; done) | (simp; omega)) (by first | omega | decide | (simp; done) | (simp; omega))⟩
    intro σ β X W22 hD hX hst22 fr hfr
    simp only [zM, exq 0 (hX 0 _ rfl), exq 1 (hX 1 _ rfl), exq 2 (hX 2 _ rfl), exq 3 (hX 3 _ rfl), exq 4 (hX 4 _ rfl), exq 5 (hX 5 _ rfl), exq 6 (hX 6 _ rfl), exq 7 (hX 7 _ rfl), exq 8 (hX 8 _ rfl), exq 9 (hX 9 _ rfl), exq 10 (hX 10 _ rfl), exq 11 (hX 11 _ rfl), exq 12 (hX 12 _ rfl)] at hst22
    dsimp only [mgT, vals, List.take, List.drop, List.cons_append, List.nil_append] at hfr
    clear hX hD; subst hfr; clear σ β X
    refine then_normal ?_
    refine wp_cond_false (show Act.eval _ _ = .bool false from rfl) ?_
    refine wp_skip ?_
    refine blk_normal ?_
    refine then_normal ?_
    refine wp_region_P [0, 1, 3] [.k 33 (.int .i64 0), .k 34 (.int .i64 1), .k 10 (.int .i64 1)] [(10, 2, 1, 11), (22, 0, 2, 24)] hst22 fun W26 hst26 => ?_
    refine then_normal ?_
    refine ⟨2 - 1, by omega, ?_⟩
    have hp27 := hst26.pick [0, 1, 2, 3, 4, 5, 6, 7] (by decide) rfl
    exact ⟨1, [(u7_.getD 0 undef), .pointer (some ⟨B11_10, 0, none⟩), .int .i64 (bes1F hi (ls.take 60) (own.take 20) (standF bs) a), .int .i64 (bes2F hi (ls.take 60) (own.take 20) (standF bs) b), .pointer (some ⟨B14_12, 0, none⟩), .pointer (some ⟨B15_13, 0, none⟩), .bool (oldF (standF bs) hz a || fzX (standF bs) b), .pointer (some ⟨B17_14, 0, none⟩), .bool true, .bool true, .int .i64 0, .bool true, .int .i64 0, .int .i64 1, .int .i64 0, .pointer (some ⟨B9_5, 0, none⟩), .agg #[.int .i64 a, .int .i64 b, .int .i64 n1, .int .i64 n2, .bool ho, .slice A27_5 ((fewF rs).length) c27_5], .tuple #[.int .i64 (bes1F hi (ls.take 60) (own.take 20) (standF bs) a), .int .i64 (bes2F hi (ls.take 60) (own.take 20) (standF bs) b)], .agg #[.int .i64 a, .int .i64 b, .int .i64 n1, .int .i64 n2, .bool ho, .slice A27_5 ((fewF rs).length) c27_5], .pointer (some ⟨B5_1, 0, none⟩), .agg #[.int .i64 hi, .slice A22_3 ((ls.take 60).length) c22_3], .pointer (some ⟨B5_1, 2, none⟩), .slice A22q_3 ((own.take 20).length) c22q_3, .pointer (some ⟨B5_1, 4, none⟩), .slice SA bs.length sc, .iface 43 (.slice SA bs.length sc), .tuple #[.int .i64 (bes1F hi (ls.take 60) (own.take 20) (standF bs) a), .int .i64 (bes2F hi (ls.take 60) (own.take 20) (standF bs) b)], .int .i64 (bes1F hi (ls.take 60) (own.take 20) (standF bs) a), .int .i64 (bes2F hi (ls.take 60) (own.take 20) (standF bs) b), .agg #[.int .i64 a, .int .i64 b, .int .i64 n1, .int .i64 n2, .bool ho, .slice A27_5 ((fewF rs).length) c27_5], .pointer (some ⟨B5_1, 0, none⟩), .agg #[.int .i64 hi, .slice A22_3 ((ls.take 60).length) c22_3], .pointer (some ⟨B5_1, 2, none⟩), .slice A22q_3 ((own.take 20).length) c22q_3, .agg ((tabL bs 128).map (Value.int .i64)).toArray, .agg #[.int .i64 (bes1F hi (ls.take 60) (own.take 20) (standF bs) a), .int .i64 (bes1F hi (ls.take 60) (own.take 20) (standF bs) b)], .tuple #[.agg #[.int .i64 (fzA hz (standF bs) a), .int .i64 (if fzX (standF bs) b then 0 else b), .int .i64 (if fzX (standF bs) b then -1 else n1), .int .i64 (if fzX (standF bs) b then 0 else n2), .bool ho, .slice A64_13 ((fewF rs).length) c64_13], .bool (oldF (standF bs) hz a || fzX (standF bs) b)], .agg #[.int .i64 a, .int .i64 b, .int .i64 n1, .int .i64 n2, .bool ho, .slice A27_5 ((fewF rs).length) c27_5], .pointer (some ⟨B5_1, 3, none⟩), .int .i64 hz, .pointer (some ⟨B5_1, 4, none⟩), .slice SA bs.length sc, .iface 43 (.slice SA bs.length sc), .tuple #[.agg #[.int .i64 (fzA hz (standF bs) a), .int .i64 (if fzX (standF bs) b then 0 else b), .int .i64 (if fzX (standF bs) b then -1 else n1), .int .i64 (if fzX (standF bs) b then 0 else n2), .bool ho, .slice A64_13 ((fewF rs).length) c64_13], .bool (oldF (standF bs) hz a || fzX (standF bs) b)], .agg #[.int .i64 (fzA hz (standF bs) a), .int .i64 (if fzX (standF bs) b then 0 else b), .int .i64 (if fzX (standF bs) b then -1 else n1), .int .i64 (if fzX (standF bs) b then 0 else n2), .bool ho, .slice A64_13 ((fewF rs).length) c64_13], .bool (oldF (standF bs) hz a || fzX (standF bs) b), .agg #[.int .i64 a, .int .i64 b, .int .i64 n1, .int .i64 n2, .bool ho, .slice A27_5 ((fewF rs).length) c27_5], .pointer (some ⟨B5_1, 3, none⟩), .int .i64 hz, .agg ((tabL bs 128).map (Value.int .i64)).toArray, .agg #[.int .i64 (fzA hz (standF bs) a), .int .i64 (if fzX (standF bs) b then 0 else b), .int .i64 (if fzX (standF bs) b then -1 else n1), .int .i64 (if fzX (standF bs) b then 0 else n2), .bool ho, .slice A27_5 ((fewF rs).length) c27_5, .bool (oldF (standF bs) hz a || fzX (standF bs) b)], .agg #[.int .i64 a, .int .i64 b, .int .i64 n1, .int .i64 n2, .bool ho, .slice A27_5 ((fewF rs).length) c27_5], .pointer (some ⟨B5_1, 0, none⟩), .agg #[.int .i64 hi, .slice A22_3 ((ls.take 60).length) c22_3], .pointer (some ⟨B5_1, 2, none⟩), .slice A22q_3 ((own.take 20).length) c22q_3, .pointer (some ⟨B5_1, 4, none⟩), .slice SA bs.length sc, .iface 43 (.slice SA bs.length sc), .bool (visF hi (ls.take 60) (own.take 20) (standF bs) a b), .agg #[.int .i64 a, .int .i64 b, .int .i64 n1, .int .i64 n2, .bool ho, .slice A27_5 ((fewF rs).length) c27_5], .pointer (some ⟨B5_1, 0, none⟩), .agg #[.int .i64 hi, .slice A22_3 ((ls.take 60).length) c22_3], .pointer (some ⟨B5_1, 2, none⟩), .slice A22q_3 ((own.take 20).length) c22q_3, .agg ((tabL bs 128).map (Value.int .i64)).toArray, .bool (visF hi (ls.take 60) (own.take 20) (standF bs) a b), .bool true, .bool true, .int .i64 (bes1F hi (ls.take 60) (own.take 20) (standF bs) a), .pointer (some ⟨B14_12, 0, none⟩), .int .i64 (bes1F hi (ls.take 60) (own.take 20) (standF bs) a), .bool true, .bool true, .bool true, .int .i64 (bes2F hi (ls.take 60) (own.take 20) (standF bs) b), .pointer (some ⟨B14_12, 1, none⟩), .int .i64 (bes1F hi (ls.take 60) (own.take 20) (standF bs) b), .bool true, .bool true, .agg #[.int .i64 a, .int .i64 b, .int .i64 n1, .int .i64 n2, .bool ho, .slice A27_5 ((fewF rs).length) c27_5], .pointer (some ⟨B5_1, 2, none⟩), .slice A22q_3 ((own.take 20).length) c22q_3, .pointer (some ⟨B5_1, 4, none⟩), .slice SA bs.length sc, .iface 43 (.slice SA bs.length sc), .int .i64 (busyF (own.take 20) (standF bs) b), .agg #[.int .i64 a, .int .i64 b, .int .i64 n1, .int .i64 n2, .bool ho, .slice A27_5 ((fewF rs).length) c27_5], .pointer (some ⟨B5_1, 2, none⟩), .slice A22q_3 ((own.take 20).length) c22q_3, .agg ((tabL bs 128).map (Value.int .i64)).toArray, .int .i64 (busyF (own.take 20) (standF bs) b), .bool true, .bool true, .agg #[.int .i64 a, .int .i64 b, .int .i64 n1, .int .i64 n2, .bool ho, .slice A27_5 ((fewF rs).length) c27_5], .pointer (some ⟨B5_1, 3, none⟩), .int .i64 hz, .pointer (some ⟨B5_1, 4, none⟩), .slice SA bs.length sc, .iface 43 (.slice SA bs.length sc), .bool (deadF (standF bs) hz a b), .agg #[.int .i64 a, .int .i64 b, .int .i64 n1, .int .i64 n2, .bool ho, .slice A27_5 ((fewF rs).length) c27_5], .pointer (some ⟨B5_1, 3, none⟩), .int .i64 hz, .agg ((tabL bs 128).map (Value.int .i64)).toArray, .bool (deadF (standF bs) hz a b), .bool true, .bool true, .bool true, .bool false, .bool false, .bool true, .bool false, .bool false, .bool false, .agg #[.int .i64 a, .int .i64 b, .int .i64 n1, .int .i64 n2, .bool ho, .slice A27_5 ((fewF rs).length) c27_5], .pointer (some ⟨B5_1, 3, none⟩), .int .i64 hz, .pointer (some ⟨B5_1, 4, none⟩), .slice SA bs.length sc, .iface 43 (.slice SA bs.length sc), .bool (allF (standF bs) hz a b), .agg #[.int .i64 a, .int .i64 b, .int .i64 n1, .int .i64 n2, .bool ho, .slice A27_5 ((fewF rs).length) c27_5], .pointer (some ⟨B5_1, 3, none⟩), .int .i64 hz, .agg ((tabL bs 128).map (Value.int .i64)).toArray, .bool (allF (standF bs) hz a b), .bool false, .bool false, .bool false, .bool (oldF (standF bs) hz a || fzX (standF bs) b), .pointer (some ⟨B17_14, 6, none⟩), .bool (oldF (standF bs) hz a || fzX (standF bs) b), .bool false, .bool false, .bool false, .agg #[.int .i64 (fzA hz (standF bs) a), .int .i64 (if fzX (standF bs) b then 0 else b), .int .i64 (if fzX (standF bs) b then -1 else n1), .int .i64 (if fzX (standF bs) b then 0 else n2), .bool ho, .slice A64_13 ((fewF rs).length) c64_13], .pointer (some ⟨B17_14, 0, none⟩), .agg #[.int .i64 (fzA hz (standF bs) a), .int .i64 (if fzX (standF bs) b then 0 else b), .int .i64 (if fzX (standF bs) b then -1 else n1), .int .i64 (if fzX (standF bs) b then 0 else n2), .bool ho, .slice A27_5 ((fewF rs).length) c27_5], .bool true, .bool false, .bool false], by omega, rfl, rfl, hp27⟩
  · skip
    refine wp_seq ?_
    refine wp_seq ?_
    refine wp_region_P [0, 1] [.k 31 (.int .i64 1), .k 32 (.bool true)] [(31, 0, 2, 33)] hst7 fun W28 hst28 => ?_
    refine then_normal ?_
    refine wp_cond_true (show Act.eval _ _ = .bool true from rfl) ?_
    refine wp_skip ?_
    refine then_normal ?_
    refine wp_seq ?_
    refine wp_block ?_
    refine wp_seq ?_
    refine wp_region_T [0, 1, 3, 0, 15] [[], [], [7], [], [8]] [[], [], [], [8], [9]] [[], [], [], [], [8]] [.k 35 (.int .i64 1), .c 36 (.pointer (some ⟨B9_5, 6, none⟩)), .c 37 (.agg #[.int .i64 (vminF l), .int .i64 (vmaxF l), .int .i64 (vpgF l), .int .i64 (vslF l), .bool (vhotF l), .slice A29_5 ((vrowF l).length) c29_5]), .a 11, .n] (fun ix σ β X => match ix with | 0 => True | 1 => True | 2 => True | 3 => σ 11 = .pointer (some ⟨(pb (β 11)), 0, none⟩) ∧ X 8 = eB (pb (β 11)) 27 #[.int .i64 0, .int .i64 0, .int .i64 0, .int .i64 0, .bool false, .slice none 0 0] | 4 => X 9 = eB (pb (β 11)) 27 #[.int .i64 (vminF l), .int .i64 (vmaxF l), .int .i64 (vpgF l), .int .i64 (vslF l), .bool (vhotF l), .slice A29_5 ((vrowF l).length) c29_5] | _ => True) [0, 1, 2, 3, 4, 5, 6, 7, 9] [1, 2, 3, 4] [(11, 3, 1, 12), (23, 0, 3, 26)] hst28 ?_ ?_ ?_
    · exact fun ix _ _ _ _ _ _ hs hb hx h => match ix, h with
      | 3, h => by dsimp only at h ⊢; rw [← hs 11 rfl, ← hb 11 rfl, ← hx 8 rfl]; exact h
      | 4, h => by dsimp only at h ⊢; rw [← hb 11 rfl, ← hx 9 rfl]; exact h
      | 0, _ | 1, _ | 2, _ | _ + 5, _ => trivial
    · refine ⟨?_, ?_, ?_, ?_, trivial⟩
      · exact s4 rfl (fun _ _ _ h => h) fun cx => run_indexArrB (n := 2) (sz := 6) (m := 1) (q := 6) rfl (by kernel_rfl) (cx.out 9 rfl) (cx.anc 0 rfl) (by omega) (by omega) (by omega)
      · exact s4 rfl (fun _ _ _ h => h) fun cx => run_loadB (n := 6) rfl (by kernel_rfl) (by kernel_rfl) (cx.anc 1 rfl) (cx.blk (cx.init 7 _ rfl) rfl) (Nat.le_of_ble_eq_true rfl) rfl
      · refine sv_any rfl rfl fun ρ β W X cx => ?_
        exact dv_alloc (cs := #[.int .i64 0, .int .i64 0, .int .i64 0, .int .i64 0, .bool false, .slice none 0 0]) rfl (by kernel_rfl) rfl rfl (fun σ β' X' hs hb hv hx => ⟨hv, hx⟩)
      · refine sv_any rfl rfl fun ρ β W X cx => ?_
        exact dv_store (n := 6) rfl (dTn (cx.anc 3 rfl)).1 (cx.anc 2 rfl) (by kernel_rfl) (by kernel_rfl) (by kernel_rfl) cx (dTn (cx.anc 3 rfl)).2 rfl (Nat.le_of_ble_eq_true rfl) (by kernel_rfl) rfl rfl rfl (fun σ β' X' hs hb hx => by rw [hb 11]; exact hx)
    intro σ β X W29 hD hX hst29 fr hfr
    obtain ⟨B11_29, hu_B11_29⟩ : ∃ z, pb (β 11) = z := ⟨_, rfl⟩
    simp only [zM, exq 0 (hX 0 _ rfl), exq 1 (hX 1 _ rfl), exq 2 (hX 2 _ rfl), exq 3 (hX 3 _ rfl), exq 4 (hX 4 _ rfl), exq 5 (hX 5 _ rfl), exq 6 (hX 6 _ rfl), exq 7 (hX 7 _ rfl), exq 9 ((dTn (hD 4 lq))), hu_B11_29] at hst29
    dsimp only [mgT, vals, List.take, List.drop, List.cons_append, List.nil_append] at hfr
    simp only [ed 11 ((dTn (hD 3 lq)).1), hu_B11_29] at hfr
    clear hX hD hu_B11_29; subst hfr; clear σ β X
    refine then_normal ?_
    refine wp_seq ?_
    refine wp_region_T [0, 0, 2, 0, 8, 0, 32, 96, 255, 511, 1023, 1023, 2047, 8191] [[8], [], [3], [], [3], [], [3], [], [1, 2]] [] [] [.c 39 (.agg #[.int .i64 (vminF l), .int .i64 (vmaxF l), .int .i64 (vpgF l), .int .i64 (vslF l), .bool (vhotF l), .slice A29_5 ((vrowF l).length) c29_5]), .k 40 (.pointer (some ⟨B5_1, 0, none⟩)), .c 41 (.agg #[.int .i64 hi, .slice A22_3 ((ls.take 60).length) c22_3]), .k 42 (.pointer (some ⟨B5_1, 2, none⟩)), .c 43 (.slice A22q_3 ((own.take 20).length) c22q_3), .k 44 (.pointer (some ⟨B5_1, 4, none⟩)), .c 45 (.slice SA bs.length sc), .c 46 (.iface 43 (.slice SA bs.length sc)), .c 47 (.tuple #[.int .i64 (bes1F hi (ls.take 60) (own.take 20) (standF bs) (vminF l)), .int .i64 (bes2F hi (ls.take 60) (own.take 20) (standF bs) (vmaxF l))]), .k 38 (.tuple #[.int .i64 (bes1F hi (ls.take 60) (own.take 20) (standF bs) (vminF l)), .int .i64 (bes2F hi (ls.take 60) (own.take 20) (standF bs) (vmaxF l))]), .k 48 (.int .i64 (bes1F hi (ls.take 60) (own.take 20) (standF bs) (vminF l))), .k 49 (.int .i64 (bes2F hi (ls.take 60) (own.take 20) (standF bs) (vmaxF l))), .k 12 (.int .i64 (bes1F hi (ls.take 60) (own.take 20) (standF bs) (vminF l))), .k 13 (.int .i64 (bes2F hi (ls.take 60) (own.take 20) (standF bs) (vmaxF l)))] (fun _ _ _ _ => True) [0, 1, 2, 3, 4, 5, 6, 7, 8] [0, 2, 4, 6, 7, 8] [(12, 12, 2, 14), (24, 9, 1, 25), (0, 0, 9, 9), (0, 10, 2, 2)] hst29 ?_ ?_ ?_
    · exact fun _ _ _ _ _ _ _ _ _ _ h => h
    · refine ⟨?_, ?_, ?_, ?_, ?_, ?_, trivial⟩
      · exact s4 rfl (fun _ _ _ h => h) fun cx => run_loadB (n := 6) rfl (by kernel_rfl) (by kernel_rfl) (cx.out 11 rfl) (cx.blk (cx.init 8 _ rfl) rfl) (Nat.le_of_ble_eq_true rfl) rfl
      · exact s4 rfl (fun _ _ _ h => h) fun cx => run_loadB (n := 2) rfl (by kernel_rfl) (by kernel_rfl) (cx.anc 1 rfl) (cx.blk (cx.init 3 _ rfl) rfl) (Nat.le_of_ble_eq_true rfl) rfl
      · exact s4 rfl (fun _ _ _ h => h) fun cx => run_load1 rfl (by kernel_rfl) (cx.anc 3 rfl) ((cx.blk (cx.init 3 _ rfl) rfl).cell 2)
      · exact s4 rfl (fun _ _ _ h => h) fun cx => run_load1 rfl (by kernel_rfl) (cx.anc 5 rfl) ((cx.blk (cx.init 3 _ rfl) rfl).cell 4)
      · exact sv0 rfl rfl rfl rfl rfl (fun _ _ _ h => h) fun ρ β W X cx => by
          have fF45 : ρ (.tmp 45) = .slice SA bs.length sc := (cx.anc 6 rfl)
          simp [go_sem, fF45]
      · exact sv_call rfl rfl rfl rfl rfl (fun _ _ _ h => h) fun ρ β W X cx => ⟨_, _, run_callF (args := #[.agg #[.int .i64 (vminF l), .int .i64 (vmaxF l), .int .i64 (vpgF l), .int .i64 (vslF l), .bool (vhotF l), .slice A29_5 ((vrowF l).length) c29_5], .agg #[.int .i64 hi, .slice A22_3 ((ls.take 60).length) c22_3], .slice A22q_3 ((own.take 20).length) c22q_3, .iface 43 (.slice SA bs.length sc)]) rfl cx.sees rfl (by kernel_rfl) (map4 (cx.anc 0 rfl) (cx.anc 2 rfl) (cx.anc 4 rfl) (cx.anc 7 rfl)), beside_any _ _ _ _ _ _ _ _ _ _ _ (ls.take 60) _ _ (own.take 20) _ _ _ _ (At.of_own (cx.row (cx.init 1 _ rfl) rfl)) (by first | omega | decide | (simp; done) | (simp; omega)) (At.of_own (cx.row (cx.init 2 _ rfl) rfl)) (by first | omega | decide | (simp; done) | (simp; omega)) (stand_ok _ _ _ bs _ (rfl) (hSA.ext cx.upd.to_ext) hbs)⟩
    intro σ β X W30 hD hX hst30 fr hfr
    simp only [zM, exq 0 (hX 0 _ rfl), exq 1 (hX 1 _ rfl), exq 2 (hX 2 _ rfl), exq 3 (hX 3 _ rfl), exq 4 (hX 4 _ rfl), exq 5 (hX 5 _ rfl), exq 6 (hX 6 _ rfl), exq 7 (hX 7 _ rfl), exq 8 (hX 8 _ rfl)] at hst30
    dsimp only [mgT, vals, List.take, List.drop, List.cons_append, List.nil_append] at hfr
    clear hX hD; subst hfr; clear σ β X
    refine then_normal ?_
    refine wp_seq ?_
    refine wp_region_T [0, 0, 2, 0, 8, 0, 63, 0, 255] [[8], [], [3], [], [3], [4], [1, 2], [], [9]] [[], [], [], [], [], [], [], [9], [10]] [[], [], [], [], [], [], [], [], [9]] [.c 50 (.agg #[.int .i64 (vminF l), .int .i64 (vmaxF l), .int .i64 (vpgF l), .int .i64 (vslF l), .bool (vhotF l), .slice A29_5 ((vrowF l).length) c29_5]), .k 51 (.pointer (some ⟨B5_1, 0, none⟩)), .c 52 (.agg #[.int .i64 hi, .slice A22_3 ((ls.take 60).length) c22_3]), .k 53 (.pointer (some ⟨B5_1, 2, none⟩)), .c 54 (.slice A22q_3 ((own.take 20).length) c22q_3), .c 55 (.agg ((tabL bs 128).map (Value.int .i64)).toArray), .c 56 (.agg #[.int .i64 (bes1F hi (ls.take 60) (own.take 20) (standF bs) (vminF l)), .int .i64 (bes1F hi (ls.take 60) (own.take 20) (standF bs) (vmaxF l))]), .a 14, .n] (fun ix σ β X => match ix with | 0 => True | 1 => True | 2 => True | 3 => True | 4 => True | 5 => True | 6 => True | 7 => σ 14 = .pointer (some ⟨(pb (β 14)), 0, none⟩) ∧ X 9 = eB (pb (β 14)) 55 #[.int .i64 0, .int .i64 0] | 8 => X 10 = eB (pb (β 14)) 55 #[.int .i64 (bes1F hi (ls.take 60) (own.take 20) (standF bs) (vminF l)), .int .i64 (bes1F hi (ls.take 60) (own.take 20) (standF bs) (vmaxF l))] | _ => True) [0, 1, 2, 3, 4, 5, 6, 7, 8, 10] [0, 2, 4, 5, 6, 7, 8] [(14, 7, 1, 15), (35, 0, 7, 42)] hst30 ?_ ?_ ?_
    · exact fun ix _ _ _ _ _ _ hs hb hx h => match ix, h with
      | 7, h => by dsimp only at h ⊢; rw [← hs 14 rfl, ← hb 14 rfl, ← hx 9 rfl]; exact h
      | 8, h => by dsimp only at h ⊢; rw [← hb 14 rfl, ← hx 10 rfl]; exact h
      | 0, _ | 1, _ | 2, _ | 3, _ | 4, _ | 5, _ | 6, _ | _ + 9, _ => trivial
    · refine ⟨?_, ?_, ?_, ?_, ?_, ?_, ?_, trivial⟩
      · exact s4 rfl (fun _ _ _ h => h) fun cx => run_loadB (n := 6) rfl (by kernel_rfl) (by kernel_rfl) (cx.out 11 rfl) (cx.blk (cx.init 8 _ rfl) rfl) (Nat.le_of_ble_eq_true rfl) rfl
      · exact s4 rfl (fun _ _ _ h => h) fun cx => run_loadB (n := 2) rfl (by kernel_rfl) (by kernel_rfl) (cx.anc 1 rfl) (cx.blk (cx.init 3 _ rfl) rfl) (Nat.le_of_ble_eq_true rfl) rfl
      · exact s4 rfl (fun _ _ _ h => h) fun cx => run_load1 rfl (by kernel_rfl) (cx.anc 3 rfl) ((cx.blk (cx.init 3 _ rfl) rfl).cell 2)
      · exact s4 rfl (fun _ _ _ h => h) fun cx => run_loadAr (n := 128) rfl (by kernel_rfl) (by kernel_rfl) (cx.out 8 rfl) (cx.blk (cx.init 4 _ rfl) rfl) (by simp [tabL_len])
      · exact sv_call rfl rfl rfl rfl rfl (fun _ _ _ h => h) fun ρ β W X cx => ⟨_, _, run_callF (args := #[.agg #[.int .i64 (vminF l), .int .i64 (vmaxF l), .int .i64 (vpgF l), .int .i64 (vslF l), .bool (vhotF l), .slice A29_5 ((vrowF l).length) c29_5], .agg #[.int .i64 hi, .slice A22_3 ((ls.take 60).length) c22_3], .slice A22q_3 ((own.take 20).length) c22q_3, .agg ((tabL bs 128).map (Value.int .i64)).toArray]) rfl cx.sees rfl (by kernel_rfl) (map4 (cx.anc 0 rfl) (cx.anc 2 rfl) (cx.anc 4 rfl) (cx.anc 5 rfl)), rbeside_any hi _ _ (ls.take 60) _ _ (own.take 20) (tabL bs 128) (standF bs) (vminF l) (vmaxF l) (vpgF l) (vslF l) (vhotF l) _ _ _ _ (At.of_own (cx.row (cx.init 1 _ rfl) rfl)) (by first | omega | decide | (simp; done) | (simp; omega)) (At.of_own (cx.row (cx.init 2 _ rfl) rfl)) (by first | omega | decide | (simp; done) | (simp; omega)) (tabL_len bs 128) (tab_stand bs)⟩
      · refine sv_any rfl rfl fun ρ β W X cx => ?_
        exact dv_alloc (cs := #[.int .i64 0, .int .i64 0]) rfl (by kernel_rfl) rfl rfl (fun σ β' X' hs hb hv hx => ⟨hv, hx⟩)
      · refine sv_any rfl rfl fun ρ β W X cx => ?_
        exact dv_store (n := 2) rfl (dTn (cx.anc 7 rfl)).1 (cx.anc 6 rfl) (by kernel_rfl) (by kernel_rfl) (by kernel_rfl) cx (dTn (cx.anc 7 rfl)).2 rfl (Nat.le_of_ble_eq_true rfl) (by kernel_rfl) rfl rfl rfl (fun σ β' X' hs hb hx => by rw [hb 14]; exact hx)
    intro σ β X W31 hD hX hst31 fr hfr
    obtain ⟨B14_31, hu_B14_31⟩ : ∃ z, pb (β 14) = z := ⟨_, rfl⟩
    simp only [zM, exq 0 (hX 0 _ rfl), exq 1 (hX 1 _ rfl), exq 2 (hX 2 _ rfl), exq 3 (hX 3 _ rfl), exq 4 (hX 4 _ rfl), exq 5 (hX 5 _ rfl), exq 6 (hX 6 _ rfl), exq 7 (hX 7 _ rfl), exq 8 (hX 8 _ rfl), exq 10 ((dTn (hD 8 lq))), hu_B14_31] at hst31
    dsimp only [mgT, vals, List.take, List.drop, List.cons_append, List.nil_append] at hfr
    simp only [ed 14 ((dTn (hD 7 lq)).1), hu_B14_31] at hfr
    clear hX hD hu_B14_31; subst hfr; clear σ β X
    refine then_normal ?_
    refine wp_seq ?_
    refine wp_region_T [0, 0, 2, 0, 8, 24, 63, 127, 255, 255, 0, 1535, 4095] [[8], [], [3], [], [3], [], [6], [], [], [], [], [11]] [[], [], [], [], [], [], [10], [], [], [], [11], [12]] [[], [], [], [], [], [], [], [], [], [], [], [11]] [.c 58 (.agg #[.int .i64 (vminF l), .int .i64 (vmaxF l), .int .i64 (vpgF l), .int .i64 (vslF l), .bool (vhotF l), .slice A29_5 ((vrowF l).length) c29_5]), .k 59 (.pointer (some ⟨B5_1, 3, none⟩)), .c 60 (.int .i64 hz), .k 61 (.pointer (some ⟨B5_1, 4, none⟩)), .c 62 (.slice SA bs.length sc), .c 63 (.iface 43 (.slice SA bs.length sc)), .a 64, .a 57, .a 65, .c 66 (.bool (oldF (standF bs) hz (vminF l) || fzX (standF bs) (vmaxF l))), .a 15, .n, .k 16 (.bool (oldF (standF bs) hz (vminF l) || fzX (standF bs) (vmaxF l)))] (fun ix σ β X => match ix with | 0 => True | 1 => True | 2 => True | 3 => True | 4 => True | 5 => True | 6 => σ 64 = .tuple #[.agg #[.int .i64 (fzA hz (standF bs) (vminF l)), .int .i64 (if fzX (standF bs) (vmaxF l) then 0 else (vmaxF l)), .int .i64 (if fzX (standF bs) (vmaxF l) then -1 else (vpgF l)), .int .i64 (if fzX (standF bs) (vmaxF l) then 0 else (vslF l)), .bool (vhotF l), .slice (sA (tg (tg (β 64) 0) 5)) ((vrowF l).length) (sC (tg (tg (β 64) 0) 5))], .bool (oldF (standF bs) hz (vminF l) || fzX (standF bs) (vmaxF l))] ∧ X 10 = eO 103 3 (.slice (sA (tg (tg (β 64) 0) 5)) ((vrowF l).length) (sC (tg (tg (β 64) 0) 5))) ((vrowF l).length) (flatR (vrowF l)) | 7 => σ 57 = .tuple #[.agg #[.int .i64 (fzA hz (standF bs) (vminF l)), .int .i64 (if fzX (standF bs) (vmaxF l) then 0 else (vmaxF l)), .int .i64 (if fzX (standF bs) (vmaxF l) then -1 else (vpgF l)), .int .i64 (if fzX (standF bs) (vmaxF l) then 0 else (vslF l)), .bool (vhotF l), .slice (sA (tg (tg (β 64) 0) 5)) ((vrowF l).length) (sC (tg (tg (β 64) 0) 5))], .bool (oldF (standF bs) hz (vminF l) || fzX (standF bs) (vmaxF l))] | 8 => σ 65 = .agg #[.int .i64 (fzA hz (standF bs) (vminF l)), .int .i64 (if fzX (standF bs) (vmaxF l) then 0 else (vmaxF l)), .int .i64 (if fzX (standF bs) (vmaxF l) then -1 else (vpgF l)), .int .i64 (if fzX (standF bs) (vmaxF l) then 0 else (vslF l)), .bool (vhotF l), .slice (sA (tg (tg (β 64) 0) 5)) ((vrowF l).length) (sC (tg (tg (β 64) 0) 5))] | 9 => True | 10 => σ 15 = .pointer (some ⟨(pb (β 15)), 0, none⟩) ∧ X 11 = eB (pb (β 15)) 27 #[.int .i64 0, .int .i64 0, .int .i64 0, .int .i64 0, .bool false, .slice none 0 0] | 11 => X 12 = eB (pb (β 15)) 27 #[.int .i64 (fzA hz (standF bs) (vminF l)), .int .i64 (if fzX (standF bs) (vmaxF l) then 0 else (vmaxF l)), .int .i64 (if fzX (standF bs) (vmaxF l) then -1 else (vpgF l)), .int .i64 (if fzX (standF bs) (vmaxF l) then 0 else (vslF l)), .bool (vhotF l), .slice (sA (tg (tg (β 64) 0) 5)) ((vrowF l).length) (sC (tg (tg (β 64) 0) 5))] | _ => True) [0, 1, 2, 3, 4, 5, 6, 7, 8, 9, 10, 12] [0, 2, 4, 5, 6, 7, 8, 9, 10, 11] [(15, 10, 3, 17), (40, 7, 1, 41), (0, 0, 7, 7), (0, 8, 2, 2)] hst31 ?_ ?_ ?_
    · exact fun ix _ _ _ _ _ _ hs hb hx h => match ix, h with
      | 6, h => by dsimp only at h ⊢; rw [← hs 64 rfl, ← hb 64 rfl, ← hx 10 rfl]; exact h
      | 7, h => by dsimp only at h ⊢; rw [← hs 57 rfl, ← hb 64 rfl]; exact h
      | 8, h => by dsimp only at h ⊢; rw [← hs 65 rfl, ← hb 64 rfl]; exact h
      | 10, h => by dsimp only at h ⊢; rw [← hs 15 rfl, ← hb 15 rfl, ← hx 11 rfl]; exact h
      | 11, h => by dsimp only at h ⊢; rw [← hb 15 rfl, ← hb 64 rfl, ← hx 12 rfl]; exact h
      | 0, _ | 1, _ | 2, _ | 3, _ | 4, _ | 5, _ | 9, _ | _ + 12, _ => trivial
    · refine ⟨?_, ?_, ?_, ?_, ?_, ?_, ?_, ?_, ?_, ?_, trivial⟩
      · exact s4 rfl (fun _ _ _ h => h) fun cx => run_loadB (n := 6) rfl (by kernel_rfl) (by kernel_rfl) (cx.out 11 rfl) (cx.blk (cx.init 8 _ rfl) rfl) (Nat.le_of_ble_eq_true rfl) rfl
      · exact s4 rfl (fun _ _ _ h => h) fun cx => run_load1 rfl (by kernel_rfl) (cx.anc 1 rfl) ((cx.blk (cx.init 3 _ rfl) rfl).cell 3)
      · exact s4 rfl (fun _ _ _ h => h) fun cx => run_load1 rfl (by kernel_rfl) (cx.anc 3 rfl) ((cx.blk (cx.init 3 _ rfl) rfl).cell 4)
      · exact sv0 rfl rfl rfl rfl rfl (fun _ _ _ h => h) fun ρ β W X cx => by
          have fF62 : ρ (.tmp 62) = .slice SA bs.length sc := (cx.anc 4 rfl)
          simp [go_sem, fF62]
      · refine sv_any rfl rfl fun ρ β W X cx => ?_
        refine DoesU.call (run_callF (args := #[.agg #[.int .i64 (vminF l), .int .i64 (vmaxF l), .int .i64 (vpgF l), .int .i64 (vslF l), .bool (vhotF l), .slice A29_5 ((vrowF l).length) c29_5], .int .i64 hz, .iface 43 (.slice SA bs.length sc)]) rfl cx.sees rfl (by kernel_rfl) (map3 (cx.anc 0 rfl) (cx.anc 2 rfl) (cx.anc 5 rfl))) ?_
        refine (freeze_any _ _ _ _ _ _ _ (vrowF l) _ _ _ _ _ (At.of_ownN (cx.row (cx.init 6 _ rfl) rfl)) (by first | omega | decide | (simp; done) | (simp; omega)) (stand_ok _ _ _ bs _ (rfl) (hSA.ext cx.upd.to_ext) hbs) (hN.ext cx.upd.to_ext)).mono ?_
        rintro e W1 ⟨A4, c4, rfl, ho, hx⟩
        refine ⟨_, rfl, post_call [eO 103 3 (.slice A4 ((vrowF l).length) c4) ((vrowF l).length) (flatR (vrowF l))] rfl rfl hx (one_new (eO_new ho)) (List.pairwise_singleton _ _) (fun σ β' X' hs hb hv hN => ?_)⟩
        have hv1 := (hv 64 rfl).1; have hv2 := (hv 64 rfl).2
        exact ⟨hv1.trans (by rw [hv2]; rfl), (by rw [hv2]; exact (List.cons.inj hN).1)⟩
      · exact sv rfl rfl rfl rfl rfl _ (fun _ _ _ h => h) (fun β β' h => by rw [h 64 (by decide)]) fun ρ β W X cx => run_move' rfl (dTn (cx.anc 6 rfl)).1
      · exact sv rfl rfl rfl rfl rfl _ (fun _ _ _ h => h) (fun β β' h => by rw [h 64 (by decide)]) fun ρ β W X cx => run_extract' rfl (dTn (cx.anc 7 rfl)) rfl
      · exact s4 rfl (fun _ _ _ h => h) fun cx => run_extract' rfl (dTn (cx.anc 7 rfl)) rfl
      · refine sv_any rfl rfl fun ρ β W X cx => ?_
        exact dv_alloc (cs := #[.int .i64 0, .int .i64 0, .int .i64 0, .int .i64 0, .bool false, .slice none 0 0]) rfl (by kernel_rfl) rfl rfl (fun σ β' X' hs hb hv hx => ⟨hv, hx⟩)
      · refine sv_any rfl rfl fun ρ β W X cx => ?_
        exact dv_store (n := 6) rfl (dTn (cx.anc 10 rfl)).1 (dTn (cx.anc 8 rfl)) (by kernel_rfl) (by kernel_rfl) (by kernel_rfl) cx (dTn (cx.anc 10 rfl)).2 rfl (Nat.le_of_ble_eq_true rfl) (by kernel_rfl) rfl rfl rfl (fun σ β' X' hs hb hx => by rw [hb 15, hb 64]; exact hx)
    intro σ β X W32 hD hX hst32 fr hfr
    obtain ⟨A64_32, hu_A64_32⟩ : ∃ z, sA (tg (tg (β 64) 0) 5) = z := ⟨_, rfl⟩
    obtain ⟨c64_32, hu_c64_32⟩ : ∃ z, sC (tg (tg (β 64) 0) 5) = z := ⟨_, rfl⟩
    obtain ⟨B15_32, hu_B15_32⟩ : ∃ z, pb (β 15) = z := ⟨_, rfl⟩
    simp only [zM, exq 0 (hX 0 _ rfl), exq 1 (hX 1 _ rfl), exq 2 (hX 2 _ rfl), exq 3 (hX 3 _ rfl), exq 4 (hX 4 _ rfl), exq 5 (hX 5 _ rfl), exq 6 (hX 6 _ rfl), exq 7 (hX 7 _ rfl), exq 8 (hX 8 _ rfl), exq 9 (hX 9 _ rfl), exq 10 ((dTn (hD 6 lq)).2), exq 12 ((dTn (hD 11 lq))), hu_A64_32, hu_c64_32, hu_B15_32] at hst32
    dsimp only [mgT, vals, List.take, List.drop, List.cons_append, List.nil_append] at hfr
    simp only [ed 64 ((dTn (hD 6 lq)).1), ed 57 ((dTn (hD 7 lq))), ed 65 ((dTn (hD 8 lq))), ed 15 ((dTn (hD 10 lq)).1), hu_A64_32, hu_c64_32, hu_B15_32] at hfr
    clear hX hD hu_A64_32 hu_c64_32 hu_B15_32; subst hfr; clear σ β X
    refine then_normal ?_
    refine wp_seq ?_
    refine wp_region_T [0, 0, 2, 0, 15, 0, 63] [[8], [], [3], [4], [], [], [12]] [[], [], [], [], [], [12], [13]] [[], [], [], [], [], [], [12]] [.c 67 (.agg #[.int .i64 (vminF l), .int .i64 (vmaxF l), .int .i64 (vpgF l), .int .i64 (vslF l), .bool (vhotF l), .slice A29_5 ((vrowF l).length) c29_5]), .k 68 (.pointer (some ⟨B5_1, 3, none⟩)), .c 69 (.int .i64 hz), .c 70 (.agg ((tabL bs 128).map (Value.int .i64)).toArray), .c 71 (.agg #[.int .i64 (fzA hz (standF bs) (vminF l)), .int .i64 (if fzX (standF bs) (vmaxF l) then 0 else (vmaxF l)), .int .i64 (if fzX (standF bs) (vmaxF l) then -1 else (vpgF l)), .int .i64 (if fzX (standF bs) (vmaxF l) then 0 else (vslF l)), .bool (vhotF l), .slice A29_5 ((vrowF l).length) c29_5, .bool (oldF (standF bs) hz (vminF l) || fzX (standF bs) (vmaxF l))]), .a 17, .n] (fun ix σ β X => match ix with | 0 => True | 1 => True | 2 => True | 3 => True | 4 => True | 5 => σ 17 = .pointer (some ⟨(pb (β 17)), 0, none⟩) ∧ X 12 = eB (pb (β 17)) 60 #[.int .i64 0, .int .i64 0, .int .i64 0, .int .i64 0, .bool false, .slice none 0 0, .bool false] | 6 => X 13 = eB (pb (β 17)) 60 #[.int .i64 (fzA hz (standF bs) (vminF l)), .int .i64 (if fzX (standF bs) (vmaxF l) then 0 else (vmaxF l)), .int .i64 (if fzX (standF bs) (vmaxF l) then -1 else (vpgF l)), .int .i64 (if fzX (standF bs) (vmaxF l) then 0 else (vslF l)), .bool (vhotF l), .slice A29_5 ((vrowF l).length) c29_5, .bool (oldF (standF bs) hz (vminF l) || fzX (standF bs) (vmaxF l))] | _ => True) [0, 1, 2, 3, 4, 5, 6, 7, 8, 9, 10, 11, 13] [0, 2, 3, 4, 5, 6] [(17, 5, 1, 18), (49, 0, 5, 54)] hst32 ?_ ?_ ?_
    · exact fun ix _ _ _ _ _ _ hs hb hx h => match ix, h with
      | 5, h => by dsimp only at h ⊢; rw [← hs 17 rfl, ← hb 17 rfl, ← hx 12 rfl]; exact h
      | 6, h => by dsimp only at h ⊢; rw [← hb 17 rfl, ← hx 13 rfl]; exact h
      | 0, _ | 1, _ | 2, _ | 3, _ | 4, _ | _ + 7, _ => trivial
    · refine ⟨?_, ?_, ?_, ?_, ?_, ?_, trivial⟩
      · exact s4 rfl (fun _ _ _ h => h) fun cx => run_loadB (n := 6) rfl (by kernel_rfl) (by kernel_rfl) (cx.out 11 rfl) (cx.blk (cx.init 8 _ rfl) rfl) (Nat.le_of_ble_eq_true rfl) rfl
      · exact s4 rfl (fun _ _ _ h => h) fun cx => run_load1 rfl (by kernel_rfl) (cx.anc 1 rfl) ((cx.blk (cx.init 3 _ rfl) rfl).cell 3)
      · exact s4 rfl (fun _ _ _ h => h) fun cx => run_loadAr (n := 128) rfl (by kernel_rfl) (by kernel_rfl) (cx.out 8 rfl) (cx.blk (cx.init 4 _ rfl) rfl) (by simp [tabL_len])
      · exact sv_call rfl rfl rfl rfl rfl (fun _ _ _ h => h) fun ρ β W X cx => ⟨_, _, run_callF (args := #[.agg #[.int .i64 (vminF l), .int .i64 (vmaxF l), .int .i64 (vpgF l), .int .i64 (vslF l), .bool (vhotF l), .slice A29_5 ((vrowF l).length) c29_5], .int .i64 hz, .agg ((tabL bs 128).map (Value.int .i64)).toArray]) rfl cx.sees rfl (by kernel_rfl) (map3 (cx.anc 0 rfl) (cx.anc 2 rfl) (cx.anc 3 rfl)), rfrz_any hz (tabL bs 128) (standF bs) (vminF l) (vmaxF l) (vpgF l) (vslF l) (vhotF l) _ _ _ _ (tabL_len bs 128) (tab_stand bs)⟩
      · refine sv_any rfl rfl fun ρ β W X cx => ?_
        exact dv_alloc (cs := #[.int .i64 0, .int .i64 0, .int .i64 0, .int .i64 0, .bool false, .slice none 0 0, .bool false]) rfl (by kernel_rfl) rfl rfl (fun σ β' X' hs hb hv hx => ⟨hv, hx⟩)
      · refine sv_any rfl rfl fun ρ β W X cx => ?_
        exact dv_store (n := 7) rfl (dTn (cx.anc 5 rfl)).1 (cx.anc 4 rfl) (by kernel_rfl) (by kernel_rfl) (by kernel_rfl) cx (dTn (cx.anc 5 rfl)).2 rfl (Nat.le_of_ble_eq_true rfl) (by kernel_rfl) rfl rfl rfl (fun σ β' X' hs hb hx => by rw [hb 17]; exact hx)
    intro σ β X W33 hD hX hst33 fr hfr
    obtain ⟨B17_33, hu_B17_33⟩ : ∃ z, pb (β 17) = z := ⟨_, rfl⟩
    simp only [zM, exq 0 (hX 0 _ rfl), exq 1 (hX 1 _ rfl), exq 2 (hX 2 _ rfl), exq 3 (hX 3 _ rfl), exq 4 (hX 4 _ rfl), exq 5 (hX 5 _ rfl), exq 6 (hX 6 _ rfl), exq 7 (hX 7 _ rfl), exq 8 (hX 8 _ rfl), exq 9 (hX 9 _ rfl), exq 10 (hX 10 _ rfl), exq 11 (hX 11 _ rfl), exq 13 ((dTn (hD 6 lq))), hu_B17_33] at hst33
    dsimp only [mgT, vals, List.take, List.drop, List.cons_append, List.nil_append] at hfr
    simp only [ed 17 ((dTn (hD 5 lq)).1), hu_B17_33] at hfr
    clear hX hD hu_B17_33; subst hfr; clear σ β X
    refine then_normal ?_
    refine wp_seq ?_
    have hd35 : ((visF hi (ls.take 60) (own.take 20) (standF bs) (vminF l) (vmaxF l)) == (visF hi (ls.take 60) (own.take 20) (standF bs) (vminF l) (vmaxF l))) = true := by simp
    have hd36 : ((bes1F hi (ls.take 60) (own.take 20) (standF bs) (vminF l)) == (bes1F hi (ls.take 60) (own.take 20) (standF bs) (vminF l))) = true := by simp
    have hd37 : ((bes2F hi (ls.take 60) (own.take 20) (standF bs) (vmaxF l)) == (bes1F hi (ls.take 60) (own.take 20) (standF bs) (vmaxF l))) = true := by rw [bes12]; simp
    refine wp_region_T [0, 0, 2, 0, 8, 0, 32, 96, 255, 0, 0, 1024, 0, 4096, 0, 32767, 65535, 131071, 262143, 262143, 786431, 2097151, 4194303, 8388607, 16777215, 16777215, 50331647, 134217727, 268435455, 536870911] [[8], [], [3], [], [3], [], [3], [], [1, 2], [8], [], [3], [], [3], [4], [1, 2], [], [], [], [], [9], [], [], [], [], [], [9]] [] [] [.c 72 (.agg #[.int .i64 (vminF l), .int .i64 (vmaxF l), .int .i64 (vpgF l), .int .i64 (vslF l), .bool (vhotF l), .slice A29_5 ((vrowF l).length) c29_5]), .k 73 (.pointer (some ⟨B5_1, 0, none⟩)), .c 74 (.agg #[.int .i64 hi, .slice A22_3 ((ls.take 60).length) c22_3]), .k 75 (.pointer (some ⟨B5_1, 2, none⟩)), .c 76 (.slice A22q_3 ((own.take 20).length) c22q_3), .k 77 (.pointer (some ⟨B5_1, 4, none⟩)), .c 78 (.slice SA bs.length sc), .c 79 (.iface 43 (.slice SA bs.length sc)), .c 80 (.bool (visF hi (ls.take 60) (own.take 20) (standF bs) (vminF l) (vmaxF l))), .c 81 (.agg #[.int .i64 (vminF l), .int .i64 (vmaxF l), .int .i64 (vpgF l), .int .i64 (vslF l), .bool (vhotF l), .slice A29_5 ((vrowF l).length) c29_5]), .k 82 (.pointer (some ⟨B5_1, 0, none⟩)), .c 83 (.agg #[.int .i64 hi, .slice A22_3 ((ls.take 60).length) c22_3]), .k 84 (.pointer (some ⟨B5_1, 2, none⟩)), .c 85 (.slice A22q_3 ((own.take 20).length) c22q_3), .c 86 (.agg ((tabL bs 128).map (Value.int .i64)).toArray), .c 87 (.bool (visF hi (ls.take 60) (own.take 20) (standF bs) (vminF l) (vmaxF l))), .c 88 (.bool true), .k 89 (.bool true), .k 90 (.int .i64 (bes1F hi (ls.take 60) (own.take 20) (standF bs) (vminF l))), .k 91 (.pointer (some ⟨B14_31, 0, none⟩)), .c 92 (.int .i64 (bes1F hi (ls.take 60) (own.take 20) (standF bs) (vminF l))), .e 93 (.bool ((bes1F hi (ls.take 60) (own.take 20) (standF bs) (vminF l)) == (bes1F hi (ls.take 60) (own.take 20) (standF bs) (vminF l)))) (.bool true) (congrArg Value.bool hd36), .k 94 (.bool true), .k 95 (.bool true), .k 96 (.int .i64 (bes2F hi (ls.take 60) (own.take 20) (standF bs) (vmaxF l))), .k 97 (.pointer (some ⟨B14_31, 1, none⟩)), .c 98 (.int .i64 (bes1F hi (ls.take 60) (own.take 20) (standF bs) (vmaxF l))), .e 99 (.bool ((bes2F hi (ls.take 60) (own.take 20) (standF bs) (vmaxF l)) == (bes1F hi (ls.take 60) (own.take 20) (standF bs) (vmaxF l)))) (.bool true) (congrArg Value.bool hd37), .k 100 (.bool true), .k 18 (.bool true)] (fun _ _ _ _ => True) [0, 1, 2, 3, 4, 5, 6, 7, 8, 9, 10, 11, 12] [0, 2, 4, 6, 7, 8, 9, 11, 13, 14, 15, 16, 20, 26] [(18, 29, 1, 19), (53, 0, 29, 82)] hst33 ?_ ?_ ?_
    · exact fun _ _ _ _ _ _ _ _ _ _ h => h
    · refine ⟨?_, ?_, ?_, ?_, ?_, ?_, ?_, ?_, ?_, ?_, ?_, ?_, ?_, ?_, trivial⟩
      · exact s4 rfl (fun _ _ _ h => h) fun cx => run_loadB (n := 6) rfl (by kernel_rfl) (by kernel_rfl) (cx.out 11 rfl) (cx.blk (cx.init 8 _ rfl) rfl) (Nat.le_of_ble_eq_true rfl) rfl
      · exact s4 rfl (fun _ _ _ h => h) fun cx => run_loadB (n := 2) rfl (by kernel_rfl) (by kernel_rfl) (cx.anc 1 rfl) (cx.blk (cx.init 3 _ rfl) rfl) (Nat.le_of_ble_eq_true rfl) rfl
      · exact s4 rfl (fun _ _ _ h => h) fun cx => run_load1 rfl (by kernel_rfl) (cx.anc 3 rfl) ((cx.blk (cx.init 3 _ rfl) rfl).cell 2)
      · exact s4 rfl (fun _ _ _ h => h) fun cx => run_load1 rfl (by kernel_rfl) (cx.anc 5 rfl) ((cx.blk (cx.init 3 _ rfl) rfl).cell 4)
      · exact sv0 rfl rfl rfl rfl rfl (fun _ _ _ h => h) fun ρ β W X cx => by
          have fF78 : ρ (.tmp 78) = .slice SA bs.length sc := (cx.anc 6 rfl)
          simp [go_sem, fF78]
      · exact sv_call rfl rfl rfl rfl rfl (fun _ _ _ h => h) fun ρ β W X cx => ⟨_, _, run_callF (args := #[.agg #[.int .i64 (vminF l), .int .i64 (vmaxF l), .int .i64 (vpgF l), .int .i64 (vslF l), .bool (vhotF l), .slice A29_5 ((vrowF l).length) c29_5], .agg #[.int .i64 hi, .slice A22_3 ((ls.take 60).length) c22_3], .slice A22q_3 ((own.take 20).length) c22q_3, .iface 43 (.slice SA bs.length sc)]) rfl cx.sees rfl (by kernel_rfl) (map4 (cx.anc 0 rfl) (cx.anc 2 rfl) (cx.anc 4 rfl) (cx.anc 7 rfl)), visible_any _ _ _ _ _ _ _ _ _ _ _ (ls.take 60) _ _ (own.take 20) _ _ _ _ (At.of_own (cx.row (cx.init 1 _ rfl) rfl)) (by first | omega | decide | (simp; done) | (simp; omega)) (At.of_own (cx.row (cx.init 2 _ rfl) rfl)) (by first | omega | decide | (simp; done) | (simp; omega)) (stand_ok _ _ _ bs _ (rfl) (hSA.ext cx.upd.to_ext) hbs)⟩
      · exact s4 rfl (fun _ _ _ h => h) fun cx => run_loadB (n := 6) rfl (by kernel_rfl) (by kernel_rfl) (cx.out 11 rfl) (cx.blk (cx.init 8 _ rfl) rfl) (Nat.le_of_ble_eq_true rfl) rfl
      · exact s4 rfl (fun _ _ _ h => h) fun cx => run_loadB (n := 2) rfl (by kernel_rfl) (by kernel_rfl) (cx.anc 10 rfl) (cx.blk (cx.init 3 _ rfl) rfl) (Nat.le_of_ble_eq_true rfl) rfl
      · exact s4 rfl (fun _ _ _ h => h) fun cx => run_load1 rfl (by kernel_rfl) (cx.anc 12 rfl) ((cx.blk (cx.init 3 _ rfl) rfl).cell 2)
      · exact s4 rfl (fun _ _ _ h => h) fun cx => run_loadAr (n := 128) rfl (by kernel_rfl) (by kernel_rfl) (cx.out 8 rfl) (cx.blk (cx.init 4 _ rfl) rfl) (by simp [tabL_len])
      · exact sv_call rfl rfl rfl rfl rfl (fun _ _ _ h => h) fun ρ β W X cx => ⟨_, _, run_callF (args := #[.agg #[.int .i64 (vminF l), .int .i64 (vmaxF l), .int .i64 (vpgF l), .int .i64 (vslF l), .bool (vhotF l), .slice A29_5 ((vrowF l).length) c29_5], .agg #[.int .i64 hi, .slice A22_3 ((ls.take 60).length) c22_3], .slice A22q_3 ((own.take 20).length) c22q_3, .agg ((tabL bs 128).map (Value.int .i64)).toArray]) rfl cx.sees rfl (by kernel_rfl) (map4 (cx.anc 9 rfl) (cx.anc 11 rfl) (cx.anc 13 rfl) (cx.anc 14 rfl)), rvis_any hi _ _ (ls.take 60) _ _ (own.take 20) (tabL bs 128) (standF bs) (vminF l) (vmaxF l) (vpgF l) (vslF l) (vhotF l) _ _ _ _ (At.of_own (cx.row (cx.init 1 _ rfl) rfl)) (by first | omega | decide | (simp; done) | (simp; omega)) (At.of_own (cx.row (cx.init 2 _ rfl) rfl)) (by first | omega | decide | (simp; done) | (simp; omega)) (tabL_len bs 128) (tab_stand bs)⟩
      · exact sv0 rfl rfl rfl rfl rfl (fun _ _ _ h => h.trans (congrArg Value.bool hd35)) fun ρ β W X cx => by
          have fF80 : ρ (.tmp 80) = .bool (visF hi (ls.take 60) (own.take 20) (standF bs) (vminF l) (vmaxF l)) := (cx.anc 8 rfl)
          have fF87 : ρ (.tmp 87) = .bool (visF hi (ls.take 60) (own.take 20) (standF bs) (vminF l) (vmaxF l)) := (cx.anc 15 rfl)
          simp [go_sem, fF80, fF87]
      · exact s5 rfl (fun _ _ _ h => h) (fun cx => (cx.anc 17 rfl)) fun cx => run_load1 rfl (by kernel_rfl) (cx.anc 19 rfl) ((cx.blk (cx.init 9 _ rfl) rfl).cell 0)
      · exact s5 rfl (fun _ _ _ h => h) (fun cx => (cx.anc 23 rfl)) fun cx => run_load1 rfl (by kernel_rfl) (cx.anc 25 rfl) ((cx.blk (cx.init 9 _ rfl) rfl).cell 1)
    intro σ β X W34 hD hX hst34 fr hfr
    simp only [zM, exq 0 (hX 0 _ rfl), exq 1 (hX 1 _ rfl), exq 2 (hX 2 _ rfl), exq 3 (hX 3 _ rfl), exq 4 (hX 4 _ rfl), exq 5 (hX 5 _ rfl), exq 6 (hX 6 _ rfl), exq 7 (hX 7 _ rfl), exq 8 (hX 8 _ rfl), exq 9 (hX 9 _ rfl), exq 10 (hX 10 _ rfl), exq 11 (hX 11 _ rfl), exq 12 (hX 12 _ rfl)] at hst34
    dsimp only [mgT, vals, List.take, List.drop, List.cons_append, List.nil_append] at hfr
    clear hX hD; subst hfr; clear σ β X
    refine then_normal ?_
    refine wp_seq ?_
    have hd39 : ((busyF (own.take 20) (standF bs) (vmaxF l)) == (busyF (own.take 20) (standF bs) (vmaxF l))) = true := by simp
    have hd40 : ((deadF (standF bs) hz (vminF l) (vmaxF l)) == (deadF (standF bs) hz (vminF l) (vmaxF l))) = true := by simp
    refine wp_region_T [0, 0, 2, 0, 8, 24, 63, 0, 0, 256, 0, 2047, 4095, 8191, 16383, 16383, 49151, 16383, 147455, 409599, 1048575, 16383, 16383, 4210687, 16383, 33554431, 67108863, 134217727, 268435455] [[8], [], [3], [], [3], [], [2], [8], [], [3], [4], [2], [], [], [8], [], [3], [], [3], [], [], [8], [], [3], [4]] [] [] [.c 101 (.agg #[.int .i64 (vminF l), .int .i64 (vmaxF l), .int .i64 (vpgF l), .int .i64 (vslF l), .bool (vhotF l), .slice A29_5 ((vrowF l).length) c29_5]), .k 102 (.pointer (some ⟨B5_1, 2, none⟩)), .c 103 (.slice A22q_3 ((own.take 20).length) c22q_3), .k 104 (.pointer (some ⟨B5_1, 4, none⟩)), .c 105 (.slice SA bs.length sc), .c 106 (.iface 43 (.slice SA bs.length sc)), .c 107 (.int .i64 (busyF (own.take 20) (standF bs) (vmaxF l))), .c 108 (.agg #[.int .i64 (vminF l), .int .i64 (vmaxF l), .int .i64 (vpgF l), .int .i64 (vslF l), .bool (vhotF l), .slice A29_5 ((vrowF l).length) c29_5]), .k 109 (.pointer (some ⟨B5_1, 2, none⟩)), .c 110 (.slice A22q_3 ((own.take 20).length) c22q_3), .c 111 (.agg ((tabL bs 128).map (Value.int .i64)).toArray), .c 112 (.int .i64 (busyF (own.take 20) (standF bs) (vmaxF l))), .e 113 (.bool ((busyF (own.take 20) (standF bs) (vmaxF l)) == (busyF (own.take 20) (standF bs) (vmaxF l)))) (.bool true) (congrArg Value.bool hd39), .k 114 (.bool true), .c 115 (.agg #[.int .i64 (vminF l), .int .i64 (vmaxF l), .int .i64 (vpgF l), .int .i64 (vslF l), .bool (vhotF l), .slice A29_5 ((vrowF l).length) c29_5]), .k 116 (.pointer (some ⟨B5_1, 3, none⟩)), .c 117 (.int .i64 hz), .k 118 (.pointer (some ⟨B5_1, 4, none⟩)), .c 119 (.slice SA bs.length sc), .c 120 (.iface 43 (.slice SA bs.length sc)), .c 121 (.bool (deadF (standF bs) hz (vminF l) (vmaxF l))), .c 122 (.agg #[.int .i64 (vminF l), .int .i64 (vmaxF l), .int .i64 (vpgF l), .int .i64 (vslF l), .bool (vhotF l), .slice A29_5 ((vrowF l).length) c29_5]), .k 123 (.pointer (some ⟨B5_1, 3, none⟩)), .c 124 (.int .i64 hz), .c 125 (.agg ((tabL bs 128).map (Value.int .i64)).toArray), .c 126 (.bool (deadF (standF bs) hz (vminF l) (vmaxF l))), .c 127 (.bool true), .k 128 (.bool true), .k 19 (.bool true)] (fun _ _ _ _ => True) [0, 1, 2, 3, 4, 5, 6, 7, 8, 9, 10, 11, 12] [0, 2, 4, 5, 6, 7, 9, 10, 11, 14, 16, 18, 19, 20, 21, 23, 24, 25, 26] [(19, 28, 1, 20), (81, 0, 28, 109)] hst34 ?_ ?_ ?_
    · exact fun _ _ _ _ _ _ _ _ _ _ h => h
    · refine ⟨?_, ?_, ?_, ?_, ?_, ?_, ?_, ?_, ?_, ?_, ?_, ?_, ?_, ?_, ?_, ?_, ?_, ?_, ?_, trivial⟩
      · exact s4 rfl (fun _ _ _ h => h) fun cx => run_loadB (n := 6) rfl (by kernel_rfl) (by kernel_rfl) (cx.out 11 rfl) (cx.blk (cx.init 8 _ rfl) rfl) (Nat.le_of_ble_eq_true rfl) rfl
      · exact s4 rfl (fun _ _ _ h => h) fun cx => run_load1 rfl (by kernel_rfl) (cx.anc 1 rfl) ((cx.blk (cx.init 3 _ rfl) rfl).cell 2)
      · exact s4 rfl (fun _ _ _ h => h) fun cx => run_load1 rfl (by kernel_rfl) (cx.anc 3 rfl) ((cx.blk (cx.init 3 _ rfl) rfl).cell 4)
      · exact sv0 rfl rfl rfl rfl rfl (fun _ _ _ h => h) fun ρ β W X cx => by
          have fF105 : ρ (.tmp 105) = .slice SA bs.length sc := (cx.anc 4 rfl)
          simp [go_sem, fF105]
      · exact sv_call rfl rfl rfl rfl rfl (fun _ _ _ h => h) fun ρ β W X cx => ⟨_, _, run_callF (args := #[.agg #[.int .i64 (vminF l), .int .i64 (vmaxF l), .int .i64 (vpgF l), .int .i64 (vslF l), .bool (vhotF l), .slice A29_5 ((vrowF l).length) c29_5], .slice A22q_3 ((own.take 20).length) c22q_3, .iface 43 (.slice SA bs.length sc)]) rfl cx.sees rfl (by kernel_rfl) (map3 (cx.anc 0 rfl) (cx.anc 2 rfl) (cx.anc 5 rfl)), busy_any _ _ _ _ _ _ _ _ _ _ (own.take 20) _ _ _ _ (At.of_own (cx.row (cx.init 2 _ rfl) rfl)) (by first | omega | decide | (simp; done) | (simp; omega)) (stand_ok _ _ _ bs _ (rfl) (hSA.ext cx.upd.to_ext) hbs)⟩
      · exact s4 rfl (fun _ _ _ h => h) fun cx => run_loadB (n := 6) rfl (by kernel_rfl) (by kernel_rfl) (cx.out 11 rfl) (cx.blk (cx.init 8 _ rfl) rfl) (Nat.le_of_ble_eq_true rfl) rfl
      · exact s4 rfl (fun _ _ _ h => h) fun cx => run_load1 rfl (by kernel_rfl) (cx.anc 8 rfl) ((cx.blk (cx.init 3 _ rfl) rfl).cell 2)
      · exact s4 rfl (fun _ _ _ h => h) fun cx => run_loadAr (n := 128) rfl (by kernel_rfl) (by kernel_rfl) (cx.out 8 rfl) (cx.blk (cx.init 4 _ rfl) rfl) (by simp [tabL_len])
      · exact sv_call rfl rfl rfl rfl rfl (fun _ _ _ h => h) fun ρ β W X cx => ⟨_, _, run_callF (args := #[.agg #[.int .i64 (vminF l), .int .i64 (vmaxF l), .int .i64 (vpgF l), .int .i64 (vslF l), .bool (vhotF l), .slice A29_5 ((vrowF l).length) c29_5], .slice A22q_3 ((own.take 20).length) c22q_3, .agg ((tabL bs 128).map (Value.int .i64)).toArray]) rfl cx.sees rfl (by kernel_rfl) (map3 (cx.anc 7 rfl) (cx.anc 9 rfl) (cx.anc 10 rfl)), rbusy_any _ _ (own.take 20) (tabL bs 128) (standF bs) (vminF l) (vmaxF l) (vpgF l) (vslF l) (vhotF l) _ _ _ _ (At.of_own (cx.row (cx.init 2 _ rfl) rfl)) (by first | omega | decide | (simp; done) | (simp; omega)) (tabL_len bs 128) (tab_stand bs)⟩
      · exact s5 rfl (fun _ _ _ h => h) (fun cx => (cx.anc 13 rfl)) fun cx => run_loadB (n := 6) rfl (by kernel_rfl) (by kernel_rfl) (cx.out 11 rfl) (cx.blk (cx.init 8 _ rfl) rfl) (Nat.le_of_ble_eq_true rfl) rfl
      · exact s5 rfl (fun _ _ _ h => h) (fun cx => (cx.anc 13 rfl)) fun cx => run_load1 rfl (by kernel_rfl) (cx.anc 15 rfl) ((cx.blk (cx.init 3 _ rfl) rfl).cell 3)
      · exact s5 rfl (fun _ _ _ h => h) (fun cx => (cx.anc 13 rfl)) fun cx => run_load1 rfl (by kernel_rfl) (cx.anc 17 rfl) ((cx.blk (cx.init 3 _ rfl) rfl).cell 4)
      · exact sv0_on rfl rfl rfl rfl rfl rfl (fun _ _ _ h => h) (fun _ _ _ _ cx => (cx.anc 13 rfl)) fun ρ β W X cx => by
          have fF119 : ρ (.tmp 119) = .slice SA bs.length sc := (cx.anc 18 rfl)
          simp [go_sem, fF119]
      · exact sv_call_on rfl rfl rfl rfl rfl rfl (fun _ _ _ h => h) (fun _ _ _ _ cx => (cx.anc 13 rfl)) fun ρ β W X cx => ⟨_, _, run_callF (args := #[.agg #[.int .i64 (vminF l), .int .i64 (vmaxF l), .int .i64 (vpgF l), .int .i64 (vslF l), .bool (vhotF l), .slice A29_5 ((vrowF l).length) c29_5], .int .i64 hz, .iface 43 (.slice SA bs.length sc)]) rfl cx.sees rfl (by kernel_rfl) (map3 (cx.anc 14 rfl) (cx.anc 16 rfl) (cx.anc 19 rfl)), dead_any _ _ _ _ _ _ _ _ _ _ _ _ _ (stand_ok _ _ _ bs _ (rfl) (hSA.ext cx.upd.to_ext) hbs)⟩
      · exact s5 rfl (fun _ _ _ h => h) (fun cx => (cx.anc 13 rfl)) fun cx => run_loadB (n := 6) rfl (by kernel_rfl) (by kernel_rfl) (cx.out 11 rfl) (cx.blk (cx.init 8 _ rfl) rfl) (Nat.le_of_ble_eq_true rfl) rfl
      · exact s5 rfl (fun _ _ _ h => h) (fun cx => (cx.anc 13 rfl)) fun cx => run_load1 rfl (by kernel_rfl) (cx.anc 22 rfl) ((cx.blk (cx.init 3 _ rfl) rfl).cell 3)
      · exact s5 rfl (fun _ _ _ h => h) (fun cx => (cx.anc 13 rfl)) fun cx => run_loadAr (n := 128) rfl (by kernel_rfl) (by kernel_rfl) (cx.out 8 rfl) (cx.blk (cx.init 4 _ rfl) rfl) (by simp [tabL_len])
      · exact sv_call_on rfl rfl rfl rfl rfl rfl (fun _ _ _ h => h) (fun _ _ _ _ cx => (cx.anc 13 rfl)) fun ρ β W X cx => ⟨_, _, run_callF (args := #[.agg #[.int .i64 (vminF l), .int .i64 (vmaxF l), .int .i64 (vpgF l), .int .i64 (vslF l), .bool (vhotF l), .slice A29_5 ((vrowF l).length) c29_5], .int .i64 hz, .agg ((tabL bs 128).map (Value.int .i64)).toArray]) rfl cx.sees rfl (by kernel_rfl) (map3 (cx.anc 21 rfl) (cx.anc 23 rfl) (cx.anc 24 rfl)), rdead_any hz (tabL bs 128) (standF bs) (vminF l) (vmaxF l) (vpgF l) (vslF l) (vhotF l) _ _ _ _ (tabL_len bs 128) (tab_stand bs)⟩
      · exact sv0_on rfl rfl rfl rfl rfl rfl (fun _ _ _ h => h.trans (congrArg Value.bool hd40)) (fun _ _ _ _ cx => (cx.anc 13 rfl)) fun ρ β W X cx => by
          have fF121 : ρ (.tmp 121) = .bool (deadF (standF bs) hz (vminF l) (vmaxF l)) := (cx.anc 20 rfl)
          have fF126 : ρ (.tmp 126) = .bool (deadF (standF bs) hz (vminF l) (vmaxF l)) := (cx.anc 25 rfl)
          simp [go_sem, fF121, fF126]
    intro σ β X W38 hD hX hst38 fr hfr
    simp only [zM, exq 0 (hX 0 _ rfl), exq 1 (hX 1 _ rfl), exq 2 (hX 2 _ rfl), exq 3 (hX 3 _ rfl), exq 4 (hX 4 _ rfl), exq 5 (hX 5 _ rfl), exq 6 (hX 6 _ rfl), exq 7 (hX 7 _ rfl), exq 8 (hX 8 _ rfl), exq 9 (hX 9 _ rfl), exq 10 (hX 10 _ rfl), exq 11 (hX 11 _ rfl), exq 12 (hX 12 _ rfl)] at hst38
    dsimp only [mgT, vals, List.take, List.drop, List.cons_append, List.nil_append] at hfr
    clear hX hD; subst hfr; clear σ β X
    refine then_normal ?_
    refine wp_seq ?_
    have hd42 : (!((allF (standF bs) hz (vminF l) (vmaxF l)) == (allF (standF bs) hz (vminF l) (vmaxF l)))) = false := by simp
    have hd43 : (!((oldF (standF bs) hz (vminF l) || fzX (standF bs) (vmaxF l)) == (oldF (standF bs) hz (vminF l) || fzX (standF bs) (vmaxF l)))) = false := by simp
    have hd44 : (sameV (fzA hz (standF bs) (vminF l)) (if fzX (standF bs) (vmaxF l) then 0 else (vmaxF l)) (if fzX (standF bs) (vmaxF l) then -1 else (vpgF l)) (if fzX (standF bs) (vmaxF l) then 0 else (vslF l)) (vhotF l) (vrowF l) (fzA hz (standF bs) (vminF l)) (if fzX (standF bs) (vmaxF l) then 0 else (vmaxF l)) (if fzX (standF bs) (vmaxF l) then -1 else (vpgF l)) (if fzX (standF bs) (vmaxF l) then 0 else (vslF l)) (vhotF l) (vrowF l)) = true := sameV_self
    refine wp_region_T [0, 1, 3, 7, 15, 31, 63, 127, 127, 383, 127, 1151, 3199, 8191, 127, 127, 32895, 127, 262143, 524287, 1048575, 2097151, 4194303, 4194303, 12582911, 33554431, 67108863, 134217727, 268435455, 268435455, 805306367, 2147483647, 4294967295, 8589934591] [[], [], [], [], [], [], [], [8], [], [3], [], [3], [], [], [8], [], [3], [4], [], [], [], [], [], [], [12], [], [], [], [11], [], [12], [10, 6]] [] [] [.k 129 (.bool true), .k 130 (.bool false), .k 131 (.bool false), .k 132 (.bool true), .k 133 (.bool false), .k 134 (.bool false), .k 135 (.bool false), .c 136 (.agg #[.int .i64 (vminF l), .int .i64 (vmaxF l), .int .i64 (vpgF l), .int .i64 (vslF l), .bool (vhotF l), .slice A29_5 ((vrowF l).length) c29_5]), .k 137 (.pointer (some ⟨B5_1, 3, none⟩)), .c 138 (.int .i64 hz), .k 139 (.pointer (some ⟨B5_1, 4, none⟩)), .c 140 (.slice SA bs.length sc), .c 141 (.iface 43 (.slice SA bs.length sc)), .c 142 (.bool (allF (standF bs) hz (vminF l) (vmaxF l))), .c 143 (.agg #[.int .i64 (vminF l), .int .i64 (vmaxF l), .int .i64 (vpgF l), .int .i64 (vslF l), .bool (vhotF l), .slice A29_5 ((vrowF l).length) c29_5]), .k 144 (.pointer (some ⟨B5_1, 3, none⟩)), .c 145 (.int .i64 hz), .c 146 (.agg ((tabL bs 128).map (Value.int .i64)).toArray), .c 147 (.bool (allF (standF bs) hz (vminF l) (vmaxF l))), .c 148 (.bool false), .k 149 (.bool false), .k 150 (.bool false), .k 151 (.bool (oldF (standF bs) hz (vminF l) || fzX (standF bs) (vmaxF l))), .k 152 (.pointer (some ⟨B17_33, 6, none⟩)), .c 153 (.bool (oldF (standF bs) hz (vminF l) || fzX (standF bs) (vmaxF l))), .c 154 (.bool false), .k 155 (.bool false), .k 156 (.bool false), .c 157 (.agg #[.int .i64 (fzA hz (standF bs) (vminF l)), .int .i64 (if fzX (standF bs) (vmaxF l) then 0 else (vmaxF l)), .int .i64 (if fzX (standF bs) (vmaxF l) then -1 else (vpgF l)), .int .i64 (if fzX (standF bs) (vmaxF l) then 0 else (vslF l)), .bool (vhotF l), .slice A64_32 ((vrowF l).length) c64_32]), .k 158 (.pointer (some ⟨B17_33, 0, none⟩)), .c 159 (.agg #[.int .i64 (fzA hz (standF bs) (vminF l)), .int .i64 (if fzX (standF bs) (vmaxF l) then 0 else (vmaxF l)), .int .i64 (if fzX (standF bs) (vmaxF l) then -1 else (vpgF l)), .int .i64 (if fzX (standF bs) (vmaxF l) then 0 else (vslF l)), .bool (vhotF l), .slice A29_5 ((vrowF l).length) c29_5]), .c 160 (.bool true), .k 161 (.bool false), .k 162 (.bool false)] (fun _ _ _ _ => True) [0, 1, 2, 3, 4, 5, 6, 7, 8, 9, 10, 11, 12] [7, 9, 11, 12, 13, 14, 16, 17, 18, 19, 24, 25, 28, 30, 31] [(129, 0, 34, 163)] hst38 ?_ ?_ ?_
    · exact fun _ _ _ _ _ _ _ _ _ _ h => h
    · refine ⟨?_, ?_, ?_, ?_, ?_, ?_, ?_, ?_, ?_, ?_, ?_, ?_, ?_, ?_, ?_, trivial⟩
      · exact s5 rfl (fun _ _ _ h => h) (fun cx => (cx.anc 6 rfl)) fun cx => run_loadB (n := 6) rfl (by kernel_rfl) (by kernel_rfl) (cx.out 11 rfl) (cx.blk (cx.init 8 _ rfl) rfl) (Nat.le_of_ble_eq_true rfl) rfl
      · exact s5 rfl (fun _ _ _ h => h) (fun cx => (cx.anc 6 rfl)) fun cx => run_load1 rfl (by kernel_rfl) (cx.anc 8 rfl) ((cx.blk (cx.init 3 _ rfl) rfl).cell 3)
      · exact s5 rfl (fun _ _ _ h => h) (fun cx => (cx.anc 6 rfl)) fun cx => run_load1 rfl (by kernel_rfl) (cx.anc 10 rfl) ((cx.blk (cx.init 3 _ rfl) rfl).cell 4)
      · exact sv0_on rfl rfl rfl rfl rfl rfl (fun _ _ _ h => h) (fun _ _ _ _ cx => (cx.anc 6 rfl)) fun ρ β W X cx => by
          have fF140 : ρ (.tmp 140) = .slice SA bs.length sc := (cx.anc 11 rfl)
          simp [go_sem, fF140]
      · exact sv_call_on rfl rfl rfl rfl rfl rfl (fun _ _ _ h => h) (fun _ _ _ _ cx => (cx.anc 6 rfl)) fun ρ β W X cx => ⟨_, _, run_callF (args := #[.agg #[.int .i64 (vminF l), .int .i64 (vmaxF l), .int .i64 (vpgF l), .int .i64 (vslF l), .bool (vhotF l), .slice A29_5 ((vrowF l).length) c29_5], .int .i64 hz, .iface 43 (.slice SA bs.length sc)]) rfl cx.sees rfl (by kernel_rfl) (map3 (cx.anc 7 rfl) (cx.anc 9 rfl) (cx.anc 12 rfl)), all_any _ _ _ _ _ _ _ _ _ _ _ _ _ (stand_ok _ _ _ bs _ (rfl) (hSA.ext cx.upd.to_ext) hbs)⟩
      · exact s5 rfl (fun _ _ _ h => h) (fun cx => (cx.anc 6 rfl)) fun cx => run_loadB (n := 6) rfl (by kernel_rfl) (by kernel_rfl) (cx.out 11 rfl) (cx.blk (cx.init 8 _ rfl) rfl) (Nat.le_of_ble_eq_true rfl) rfl
      · exact s5 rfl (fun _ _ _ h => h) (fun cx => (cx.anc 6 rfl)) fun cx => run_load1 rfl (by kernel_rfl) (cx.anc 15 rfl) ((cx.blk (cx.init 3 _ rfl) rfl).cell 3)
      · exact s5 rfl (fun _ _ _ h => h) (fun cx => (cx.anc 6 rfl)) fun cx => run_loadAr (n := 128) rfl (by kernel_rfl) (by kernel_rfl) (cx.out 8 rfl) (cx.blk (cx.init 4 _ rfl) rfl) (by simp [tabL_len])
      · exact sv_call_on rfl rfl rfl rfl rfl rfl (fun _ _ _ h => h) (fun _ _ _ _ cx => (cx.anc 6 rfl)) fun ρ β W X cx => ⟨_, _, run_callF (args := #[.agg #[.int .i64 (vminF l), .int .i64 (vmaxF l), .int .i64 (vpgF l), .int .i64 (vslF l), .bool (vhotF l), .slice A29_5 ((vrowF l).length) c29_5], .int .i64 hz, .agg ((tabL bs 128).map (Value.int .i64)).toArray]) rfl cx.sees rfl (by kernel_rfl) (map3 (cx.anc 14 rfl) (cx.anc 16 rfl) (cx.anc 17 rfl)), rall_any hz (tabL bs 128) (standF bs) (vminF l) (vmaxF l) (vpgF l) (vslF l) (vhotF l) _ _ _ _ (tabL_len bs 128) (tab_stand bs)⟩
      · exact sv0_on rfl rfl rfl rfl rfl rfl (fun _ _ _ h => h.trans (congrArg Value.bool hd42)) (fun _ _ _ _ cx => (cx.anc 6 rfl)) fun ρ β W X cx => by
          have fF142 : ρ (.tmp 142) = .bool (allF (standF bs) hz (vminF l) (vmaxF l)) := (cx.anc 13 rfl)
          have fF147 : ρ (.tmp 147) = .bool (allF (standF bs) hz (vminF l) (vmaxF l)) := (cx.anc 18 rfl)
          simp [go_sem, fF142, fF147]
      · exact s5 rfl (fun _ _ _ h => h) (fun cx => (cx.anc 21 rfl)) fun cx => run_load1 rfl (by kernel_rfl) (cx.anc 23 rfl) ((cx.blk (cx.init 12 _ rfl) rfl).cell 6)
      · exact sv0_on rfl rfl rfl rfl rfl rfl (fun _ _ _ h => h.trans (congrArg Value.bool hd43)) (fun _ _ _ _ cx => (cx.anc 21 rfl)) fun ρ β W X cx => by
          have fF151 : ρ (.tmp 151) = .bool (oldF (standF bs) hz (vminF l) || fzX (standF bs) (vmaxF l)) := (cx.anc 22 rfl)
          have fF153 : ρ (.tmp 153) = .bool (oldF (standF bs) hz (vminF l) || fzX (standF bs) (vmaxF l)) := (cx.anc 24 rfl)
          simp [go_sem, fF151, fF153]
      · exact s5 rfl (fun _ _ _ h => h) (fun cx => (cx.anc 27 rfl)) fun cx => run_loadB (n := 6) rfl (by kernel_rfl) (by kernel_rfl) (cx.out 15 rfl) (cx.blk (cx.init 11 _ rfl) rfl) (Nat.le_of_ble_eq_true rfl) rfl
      · exact s5 rfl (fun _ _ _ h => h) (fun cx => (cx.anc 27 rfl)) fun cx => run_loadB (n := 6) rfl (by kernel_rfl) (by kernel_rfl) (cx.anc 29 rfl) (cx.blk (cx.init 12 _ rfl) rfl) (Nat.le_of_ble_eq_true rfl) rfl
      · exact sv_call_on rfl rfl rfl rfl rfl rfl (fun _ _ _ h => h.trans (congrArg Value.bool hd44)) (fun _ _ _ _ cx => (cx.anc 27 rfl)) fun ρ β W X cx => ⟨_, _, run_callF (args := #[.agg #[.int .i64 (fzA hz (standF bs) (vminF l)), .int .i64 (if fzX (standF bs) (vmaxF l) then 0 else (vmaxF l)), .int .i64 (if fzX (standF bs) (vmaxF l) then -1 else (vpgF l)), .int .i64 (if fzX (standF bs) (vmaxF l) then 0 else (vslF l)), .bool (vhotF l), .slice A64_32 ((vrowF l).length) c64_32], .agg #[.int .i64 (fzA hz (standF bs) (vminF l)), .int .i64 (if fzX (standF bs) (vmaxF l) then 0 else (vmaxF l)), .int .i64 (if fzX (standF bs) (vmaxF l) then -1 else (vpgF l)), .int .i64 (if fzX (standF bs) (vmaxF l) then 0 else (vslF l)), .bool (vhotF l), .slice A29_5 ((vrowF l).length) c29_5]]) rfl cx.sees rfl (by kernel_rfl) (map2 (cx.anc 28 rfl) (cx.anc 30 rfl)), vsame_any _ _ _ _ _ _ _ (vrowF l) _ _ _ _ _ _ _ (vrowF l) _ (At.of_ownN (cx.row (cx.init 10 _ rfl) rfl)) (At.of_ownN (cx.row (cx.init 6 _ rfl) rfl)) (by first | omega | decide | (simp; done) | (simp; omega)) (by first | omega | decide | (simp; done) | (simp; omega))⟩
    intro σ β X W41 hD hX hst41 fr hfr
    simp only [zM, exq 0 (hX 0 _ rfl), exq 1 (hX 1 _ rfl), exq 2 (hX 2 _ rfl), exq 3 (hX 3 _ rfl), exq 4 (hX 4 _ rfl), exq 5 (hX 5 _ rfl), exq 6 (hX 6 _ rfl), exq 7 (hX 7 _ rfl), exq 8 (hX 8 _ rfl), exq 9 (hX 9 _ rfl), exq 10 (hX 10 _ rfl), exq 11 (hX 11 _ rfl), exq 12 (hX 12 _ rfl)] at hst41
    dsimp only [mgT, vals, List.take, List.drop, List.cons_append, List.nil_append] at hfr
    clear hX hD; subst hfr; clear σ β X
    refine then_normal ?_
    refine wp_cond_false (show Act.eval _ _ = .bool false from rfl) ?_
    refine wp_skip ?_
    refine blk_normal ?_
    refine then_normal ?_
    refine wp_region_P [0, 1, 3] [.k 33 (.int .i64 1), .k 34 (.int .i64 2), .k 10 (.int .i64 2)] [(10, 2, 1, 11), (22, 0, 2, 24)] hst41 fun W45 hst45 => ?_
    refine then_normal ?_
    refine ⟨2 - 2, by omega, ?_⟩
    have hp46 := hst45.pick [0, 1, 2, 3, 4, 5, 6, 7] (by decide) rfl
    exact ⟨2, [(u7_.getD 0 undef), .pointer (some ⟨B11_29, 0, none⟩), .int .i64 (bes1F hi (ls.take 60) (own.take 20) (standF bs) (vminF l)), .int .i64 (bes2F hi (ls.take 60) (own.take 20) (standF bs) (vmaxF l)), .pointer (some ⟨B14_31, 0, none⟩), .pointer (some ⟨B15_32, 0, none⟩), .bool (oldF (standF bs) hz (vminF l) || fzX (standF bs) (vmaxF l)), .pointer (some ⟨B17_33, 0, none⟩), .bool true, .bool true, .int .i64 1, .bool true, .int .i64 1, .int .i64 2, .int .i64 1, .pointer (some ⟨B9_5, 6, none⟩), .agg #[.int .i64 (vminF l), .int .i64 (vmaxF l), .int .i64 (vpgF l), .int .i64 (vslF l), .bool (vhotF l), .slice A29_5 ((vrowF l).length) c29_5], .tuple #[.int .i64 (bes1F hi (ls.take 60) (own.take 20) (standF bs) (vminF l)), .int .i64 (bes2F hi (ls.take 60) (own.take 20) (standF bs) (vmaxF l))], .agg #[.int .i64 (vminF l), .int .i64 (vmaxF l), .int .i64 (vpgF l), .int .i64 (vslF l), .bool (vhotF l), .slice A29_5 ((vrowF l).length) c29_5], .pointer (some ⟨B5_1, 0, none⟩), .agg #[.int .i64 hi, .slice A22_3 ((ls.take 60).length) c22_3], .pointer (some ⟨B5_1, 2, none⟩), .slice A22q_3 ((own.take 20).length) c22q_3, .pointer (some ⟨B5_1, 4, none⟩), .slice SA bs.length sc, .iface 43 (.slice SA bs.length sc), .tuple #[.int .i64 (bes1F hi (ls.take 60) (own.take 20) (standF bs) (vminF l)), .int .i64 (bes2F hi (ls.take 60) (own.take 20) (standF bs) (vmaxF l))], .int .i64 (bes1F hi (ls.take 60) (own.take 20) (standF bs) (vminF l)), .int .i64 (bes2F hi (ls.take 60) (own.take 20) (standF bs) (vmaxF l)), .agg #[.int .i64 (vminF l), .int .i64 (vmaxF l), .int .i64 (vpgF l), .int .i64 (vslF l), .bool (vhotF l), .slice A29_5 ((vrowF l).length) c29_5], .pointer (some ⟨B5_1, 0, none⟩), .agg #[.int .i64 hi, .slice A22_3 ((ls.take 60).length) c22_3], .pointer (some ⟨B5_1, 2, none⟩), .slice A22q_3 ((own.take 20).length) c22q_3, .agg ((tabL bs 128).map (Value.int .i64)).toArray, .agg #[.int .i64 (bes1F hi (ls.take 60) (own.take 20) (standF bs) (vminF l)), .int .i64 (bes1F hi (ls.take 60) (own.take 20) (standF bs) (vmaxF l))], .tuple #[.agg #[.int .i64 (fzA hz (standF bs) (vminF l)), .int .i64 (if fzX (standF bs) (vmaxF l) then 0 else (vmaxF l)), .int .i64 (if fzX (standF bs) (vmaxF l) then -1 else (vpgF l)), .int .i64 (if fzX (standF bs) (vmaxF l) then 0 else (vslF l)), .bool (vhotF l), .slice A64_32 ((vrowF l).length) c64_32], .bool (oldF (standF bs) hz (vminF l) || fzX (standF bs) (vmaxF l))], .agg #[.int .i64 (vminF l), .int .i64 (vmaxF l), .int .i64 (vpgF l), .int .i64 (vslF l), .bool (vhotF l), .slice A29_5 ((vrowF l).length) c29_5], .pointer (some ⟨B5_1, 3, none⟩), .int .i64 hz, .pointer (some ⟨B5_1, 4, none⟩), .slice SA bs.length sc, .iface 43 (.slice SA bs.length sc), .tuple #[.agg #[.int .i64 (fzA hz (standF bs) (vminF l)), .int .i64 (if fzX (standF bs) (vmaxF l) then 0 else (vmaxF l)), .int .i64 (if fzX (standF bs) (vmaxF l) then -1 else (vpgF l)), .int .i64 (if fzX (standF bs) (vmaxF l) then 0 else (vslF l)), .bool (vhotF l), .slice A64_32 ((vrowF l).length) c64_32], .bool (oldF (standF bs) hz (vminF l) || fzX (standF bs) (vmaxF l))], .agg #[.int .i64 (fzA hz (standF bs) (vminF l)), .int .i64 (if fzX (standF bs) (vmaxF l) then 0 else (vmaxF l)), .int .i64 (if fzX (standF bs) (vmaxF l) then -1 else (vpgF l)), .int .i64 (if fzX (standF bs) (vmaxF l) then 0 else (vslF l)), .bool (vhotF l), .slice A64_32 ((vrowF l).length) c64_32], .bool (oldF (standF bs) hz (vminF l) || fzX (standF bs) (vmaxF l)), .agg #[.int .i64 (vminF l), .int .i64 (vmaxF l), .int .i64 (vpgF l), .int .i64 (vslF l), .bool (vhotF l), .slice A29_5 ((vrowF l).length) c29_5], .pointer (some ⟨B5_1, 3, none⟩), .int .i64 hz, .agg ((tabL bs 128).map (Value.int .i64)).toArray, .agg #[.int .i64 (fzA hz (standF bs) (vminF l)), .int .i64 (if fzX (standF bs) (vmaxF l) then 0 else (vmaxF l)), .int .i64 (if fzX (standF bs) (vmaxF l) then -1 else (vpgF l)), .int .i64 (if fzX (standF bs) (vmaxF l) then 0 else (vslF l)), .bool (vhotF l), .slice A29_5 ((vrowF l).length) c29_5, .bool (oldF (standF bs) hz (vminF l) || fzX (standF bs) (vmaxF l))], .agg #[.int .i64 (vminF l), .int .i64 (vmaxF l), .int .i64 (vpgF l), .int .i64 (vslF l), .bool (vhotF l), .slice A29_5 ((vrowF l).length) c29_5], .pointer (some ⟨B5_1, 0, none⟩), .agg #[.int .i64 hi, .slice A22_3 ((ls.take 60).length) c22_3], .pointer (some ⟨B5_1, 2, none⟩), .slice A22q_3 ((own.take 20).length) c22q_3, .pointer (some ⟨B5_1, 4, none⟩), .slice SA bs.length sc, .iface 43 (.slice SA bs.length sc), .bool (visF hi (ls.take 60) (own.take 20) (standF bs) (vminF l) (vmaxF l)), .agg #[.int .i64 (vminF l), .int .i64 (vmaxF l), .int .i64 (vpgF l), .int .i64 (vslF l), .bool (vhotF l), .slice A29_5 ((vrowF l).length) c29_5], .pointer (some ⟨B5_1, 0, none⟩), .agg #[.int .i64 hi, .slice A22_3 ((ls.take 60).length) c22_3], .pointer (some ⟨B5_1, 2, none⟩), .slice A22q_3 ((own.take 20).length) c22q_3, .agg ((tabL bs 128).map (Value.int .i64)).toArray, .bool (visF hi (ls.take 60) (own.take 20) (standF bs) (vminF l) (vmaxF l)), .bool true, .bool true, .int .i64 (bes1F hi (ls.take 60) (own.take 20) (standF bs) (vminF l)), .pointer (some ⟨B14_31, 0, none⟩), .int .i64 (bes1F hi (ls.take 60) (own.take 20) (standF bs) (vminF l)), .bool true, .bool true, .bool true, .int .i64 (bes2F hi (ls.take 60) (own.take 20) (standF bs) (vmaxF l)), .pointer (some ⟨B14_31, 1, none⟩), .int .i64 (bes1F hi (ls.take 60) (own.take 20) (standF bs) (vmaxF l)), .bool true, .bool true, .agg #[.int .i64 (vminF l), .int .i64 (vmaxF l), .int .i64 (vpgF l), .int .i64 (vslF l), .bool (vhotF l), .slice A29_5 ((vrowF l).length) c29_5], .pointer (some ⟨B5_1, 2, none⟩), .slice A22q_3 ((own.take 20).length) c22q_3, .pointer (some ⟨B5_1, 4, none⟩), .slice SA bs.length sc, .iface 43 (.slice SA bs.length sc), .int .i64 (busyF (own.take 20) (standF bs) (vmaxF l)), .agg #[.int .i64 (vminF l), .int .i64 (vmaxF l), .int .i64 (vpgF l), .int .i64 (vslF l), .bool (vhotF l), .slice A29_5 ((vrowF l).length) c29_5], .pointer (some ⟨B5_1, 2, none⟩), .slice A22q_3 ((own.take 20).length) c22q_3, .agg ((tabL bs 128).map (Value.int .i64)).toArray, .int .i64 (busyF (own.take 20) (standF bs) (vmaxF l)), .bool true, .bool true, .agg #[.int .i64 (vminF l), .int .i64 (vmaxF l), .int .i64 (vpgF l), .int .i64 (vslF l), .bool (vhotF l), .slice A29_5 ((vrowF l).length) c29_5], .pointer (some ⟨B5_1, 3, none⟩), .int .i64 hz, .pointer (some ⟨B5_1, 4, none⟩), .slice SA bs.length sc, .iface 43 (.slice SA bs.length sc), .bool (deadF (standF bs) hz (vminF l) (vmaxF l)), .agg #[.int .i64 (vminF l), .int .i64 (vmaxF l), .int .i64 (vpgF l), .int .i64 (vslF l), .bool (vhotF l), .slice A29_5 ((vrowF l).length) c29_5], .pointer (some ⟨B5_1, 3, none⟩), .int .i64 hz, .agg ((tabL bs 128).map (Value.int .i64)).toArray, .bool (deadF (standF bs) hz (vminF l) (vmaxF l)), .bool true, .bool true, .bool true, .bool false, .bool false, .bool true, .bool false, .bool false, .bool false, .agg #[.int .i64 (vminF l), .int .i64 (vmaxF l), .int .i64 (vpgF l), .int .i64 (vslF l), .bool (vhotF l), .slice A29_5 ((vrowF l).length) c29_5], .pointer (some ⟨B5_1, 3, none⟩), .int .i64 hz, .pointer (some ⟨B5_1, 4, none⟩), .slice SA bs.length sc, .iface 43 (.slice SA bs.length sc), .bool (allF (standF bs) hz (vminF l) (vmaxF l)), .agg #[.int .i64 (vminF l), .int .i64 (vmaxF l), .int .i64 (vpgF l), .int .i64 (vslF l), .bool (vhotF l), .slice A29_5 ((vrowF l).length) c29_5], .pointer (some ⟨B5_1, 3, none⟩), .int .i64 hz, .agg ((tabL bs 128).map (Value.int .i64)).toArray, .bool (allF (standF bs) hz (vminF l) (vmaxF l)), .bool false, .bool false, .bool false, .bool (oldF (standF bs) hz (vminF l) || fzX (standF bs) (vmaxF l)), .pointer (some ⟨B17_33, 6, none⟩), .bool (oldF (standF bs) hz (vminF l) || fzX (standF bs) (vmaxF l)), .bool false, .bool false, .bool false, .agg #[.int .i64 (fzA hz (standF bs) (vminF l)), .int .i64 (if fzX (standF bs) (vmaxF l) then 0 else (vmaxF l)), .int .i64 (if fzX (standF bs) (vmaxF l) then -1 else (vpgF l)), .int .i64 (if fzX (standF bs) (vmaxF l) then 0 else (vslF l)), .bool (vhotF l), .slice A64_32 ((vrowF l).length) c64_32], .pointer (some ⟨B17_33, 0, none⟩), .agg #[.int .i64 (fzA hz (standF bs) (vminF l)), .int .i64 (if fzX (standF bs) (vmaxF l) then 0 else (vmaxF l)), .int .i64 (if fzX (standF bs) (vmaxF l) then -1 else (vpgF l)), .int .i64 (if fzX (standF bs) (vmaxF l) then 0 else (vslF l)), .bool (vhotF l), .slice A29_5 ((vrowF l).length) c29_5], .bool true, .bool false, .bool false], by omega, rfl, rfl, hp46⟩
  · skip
    refine wp_seq ?_
    refine wp_seq ?_
    refine wp_region_P [0, 1] [.k 31 (.int .i64 2), .k 32 (.bool false)] [(31, 0, 2, 33)] hst7 fun W47 hst47 => ?_
    refine then_normal ?_
    refine wp_cond_false (show Act.eval _ _ = .bool false from rfl) ?_
    refine wp_exit ?_
    refine then_exit ?_
    refine then_exit ?_
    refine blk_eq ?_
    refine then_normal ?_
    refine wp_seq ?_
    refine wp_region_P [0, 1] [.k 163 (.bool true), .k 6 (.bool true)] [(6, 1, 1, 7), (156, 0, 1, 157)] hst47 fun W48 hst48 => ?_
    refine then_normal ?_
    refine wp_ret ?_
    refine bodyPost_ret (v := .bool true) (results_tmp Tryd.results4 rfl) rfl ?_
    exact Ret.of rfl hst48.ext

end Go.Proofs.YtfjpglohcppjeaaDoor

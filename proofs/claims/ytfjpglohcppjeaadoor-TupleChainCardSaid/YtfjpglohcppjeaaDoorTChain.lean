/- the walk of TupleChain. -/
import Derived.Test.YtfjpglohcppjeaaDoorTChainP
import Derived.Test.YtfjpglohcppjeaaDoorVu
namespace Go.Proofs.YtfjpglohcppjeaaDoor
open Go.RowKit
set_option linter.unusedVariables false
set_option linter.unusedSimpArgs false

def p0 : Vp := (0, 0)
theorem Tryd.infoVer : (Tryd.prog.info? 27).map (fun i => (i.zero, i.size, i.bytes)) = some (some (.agg #[.int .i64 0, .int .i64 0, .int .i64 0, .int .i64 0, .bool false, .slice none 0 0]), 6, 64) := by kernel_rfl
theorem take_succP {vs : List Vp} {j : Nat} (h : j < vs.length) : vs.take (j + 1) = vs.take j ++ [vs.getD j p0] := by
  rw [List.take_add_one, List.getElem?_eq_getElem h, List.getD_eq_getElem?_getD, List.getElem?_eq_getElem h]; rfl
theorem take_dropP {vs : List Vp} {p : Nat} (h : p + 1 < vs.length) : (vs.drop 1).take (p + 1) = (vs.drop 1).take p ++ [vs.getD (p + 1) p0] := by
  have h1 : p < (vs.drop 1).length := by rw [List.length_drop]; omega
  rw [take_succP h1]
  congr 2
  rw [List.getD_eq_getElem?_getD, List.getElem?_drop, List.getD_eq_getElem?_getD, Nat.add_comm 1 p]
section
variable {hi : Int} {ls : List Int} {g : Int → Int} {vs : List Vp} {p : Nat} {wv ov : Bool}
theorem wh_next (h : p + 1 < vs.length) (hW : whF hi ls g ((vs.drop 1).take p) (true, false) = (wv, ov)) (hg : g (vs.getD (p + 1) p0).1 = 2) {a b : Bool} (ha : a = (wv && !(ov && endedF hi ls g (vs.getD (p + 1) p0).1))) (hb : b = (ov || !(endedF hi ls g (vs.getD (p + 1) p0).1))) :
    whF hi ls g ((vs.drop 1).take (p + 1)) (true, false) = (a, b) := by
  rw [take_dropP h, wh_snoc, hW, wstep, if_pos hg, ha, hb]
theorem wh_skip (h : p + 1 < vs.length) (hW : whF hi ls g ((vs.drop 1).take p) (true, false) = (wv, ov)) (hg : g (vs.getD (p + 1) p0).1 ≠ 2) : whF hi ls g ((vs.drop 1).take (p + 1)) (true, false) = (wv, ov) := by
  rw [take_dropP h, wh_snoc, hW, wstep, if_neg hg]
theorem many_t {j mm : Nat} (h : j < vs.length) (hm : mm = manyF hi ls g (vs.take j)) (hv : visF hi ls [] g (vs.getD j p0).1 (vs.getD j p0).2 = true) : mm + 1 = manyF hi ls g (vs.take (j + 1)) := by
  rw [take_succP h, many_snoc, hv, ← hm]; rfl
theorem many_f {j mm : Nat} (h : j < vs.length) (hm : mm = manyF hi ls g (vs.take j)) (hv : visF hi ls [] g (vs.getD j p0).1 (vs.getD j p0).2 = false) : mm = manyF hi ls g (vs.take (j + 1)) := by
  rw [take_succP h, many_snoc, hv, ← hm]; rfl
theorem chain_end {mm : Nat} (h2 : g 2 = 2) (h0 : g 0 ≠ 2) (hok : OkF g vs) (hW : whF hi ls g (vs.drop 1) (true, false) = (wv, ov)) (hm : mm = manyF hi ls g vs) : (((mm : Int) == 1) || !wv) = true := by
  cases wv with
  | false => simp
  | true =>
    have := chain_law h2 h0 hok (by rw [hW])
    rw [← hm] at this
    simp [this]
end
set_option maxRecDepth 100000 in
set_option maxHeartbeats 16000000 in
theorem tuplechain_any (n f0 : Int) (hi hz : Int) (LA : Option Addr) (lc : Nat) (ls : List Int) (OA : Option Addr) (oc : Nat) (own : List Int) (SA : Option Addr) (sc : Nat) (bs : List Int) (w : World) (hL : At w LA (ls.map (Value.int .i64))) (hO : At w OA (own.map (Value.int .i64))) (hlc : ls.length ≤ lc) (hoc : own.length ≤ oc) (hSA : At w SA (bs.map (Value.int .u8))) (hbs : ∀ b ∈ bs, 0 ≤ b ∧ b ≤ 255) (hN : NoneAt w) :
    Calls Tryd.prog 6 #[.int .i64 n, .int .i64 f0, .agg #[.int .i64 hi, .slice LA ls.length lc, .slice OA own.length oc, .int .i64 hz, .slice SA bs.length sc]] w (Ret (.bool true) w) := by
  have hl1 : (ls.take 60).length ≤ 60 := by rw [List.length_take]; omega
  have hl2 : (own.take 20).length ≤ 20 := by rw [List.length_take]; omega
  go_enter Tryd.func6, Tryd.ntmps6
  have hst0 := St.start w
  refine wp_seq ?_
  refine wp_region_T [0, 0] [] [[0]] [] [.a 5, .k 6 (.bool false)] (fun ix σ β X => match ix with | 0 => σ 5 = .pointer (some ⟨(pb (β 5)), 0, none⟩) ∧ X 0 = eB (pb (β 5)) 45 #[.int .i64 hi, .slice LA ls.length lc, .slice OA own.length oc, .int .i64 hz, .slice SA bs.length sc] | _ => True) [0] [0] [(5, 0, 2, 7)] hst0 ?_ ?_ ?_
  · exact fun ix _ _ _ _ _ _ hs hb hx h => match ix, h with
    | 0, h => by dsimp only at h ⊢; rw [← hs 5 rfl, ← hb 5 rfl, ← hx 0 rfl]; exact h
    | _ + 1, _ => trivial
  · refine ⟨?_, trivial⟩
    · refine sv_any rfl rfl fun ρ β W X cx => ?_
      exact dv_box (cs := #[.int .i64 hi, .slice LA ls.length lc, .slice OA own.length oc, .int .i64 hz, .slice SA bs.length sc]) rfl (cx.out 2 rfl) rfl rfl rfl (fun σ β' X' hs hb hv hx => ⟨hv, hx⟩)
  intro σ β X W1 hD hX hst1 fr hfr
  obtain ⟨B5_1, hu_B5_1⟩ : ∃ z, pb (β 5) = z := ⟨_, rfl⟩
  simp only [zM, exq 0 ((dTn (hD 0 lq)).2), hu_B5_1] at hst1
  dsimp only [mgT, vals, List.take, List.drop, List.cons_append, List.nil_append] at hfr
  simp only [ed 5 ((dTn (hD 0 lq)).1), hu_B5_1] at hfr
  clear hX hD hu_B5_1; subst hfr; clear σ β X
  refine then_normal ?_
  refine wp_seq ?_
  refine wp_region_T [0, 1] [] [] [] [.c 18 (.bool true), .k 7 (.bool true)] (fun _ _ _ _ => True) [0] [0] [(7, 1, 1, 8), (10, 0, 1, 11)] hst1 ?_ ?_ ?_
  · exact fun _ _ _ _ _ _ _ _ _ _ h => h
  · refine ⟨?_, trivial⟩
    · exact sv_call rfl rfl rfl rfl rfl (fun _ _ _ h => h) fun ρ β W X cx => ⟨_, _, run_callF (args := #[]) rfl cx.sees rfl (by kernel_rfl) map0, sanity_any _ (hN.ext cx.upd.to_ext)⟩
  intro σ β X W2 hD hX hst2 fr hfr
  simp only [zM, exq 0 (hX 0 _ rfl)] at hst2
  dsimp only [mgT, vals, List.take, List.drop, List.cons_append, List.nil_append] at hfr
  clear hX hD; subst hfr; clear σ β X
  refine then_normal ?_
  refine wp_seq ?_
  refine wp_region_T [0, 1, 3] [[0], [], [0]] [[], [1, 2], [3]] [[], [], [0]] [.c 19 (.agg #[.int .i64 hi, .slice LA ls.length lc, .slice OA own.length oc, .int .i64 hz, .slice SA bs.length sc]), .a 20, .n] (fun ix σ β X => match ix with | 0 => True | 1 => σ 20 = .agg #[.int .i64 hi, .slice (sA (tg (β 20) 1)) ((ls.take 60).length) (sC (tg (β 20) 1)), .slice (sA (tg (β 20) 2)) ((own.take 20).length) (sC (tg (β 20) 2)), .int .i64 hz, .slice SA bs.length sc] ∧ X 1 = eO 3 1 (.slice (sA (tg (β 20) 1)) ((ls.take 60).length) (sC (tg (β 20) 1))) ((ls.take 60).length) ((ls.take 60).map (Value.int .i64)) ∧ X 2 = eO 3 1 (.slice (sA (tg (β 20) 2)) ((own.take 20).length) (sC (tg (β 20) 2))) ((own.take 20).length) ((own.take 20).map (Value.int .i64)) | 2 => X 3 = eB B5_1 45 #[.int .i64 hi, .slice (sA (tg (β 20) 1)) ((ls.take 60).length) (sC (tg (β 20) 1)), .slice (sA (tg (β 20) 2)) ((own.take 20).length) (sC (tg (β 20) 2)), .int .i64 hz, .slice SA bs.length sc] | _ => True) [1, 2, 3] [0, 1, 2] [(19, 0, 2, 21)] hst2 ?_ ?_ ?_
  · exact fun ix _ _ _ _ _ _ hs hb hx h => match ix, h with
    | 1, h => by dsimp only at h ⊢; rw [← hs 20 rfl, ← hb 20 rfl, ← hx 1 rfl, ← hx 2 rfl]; exact h
    | 2, h => by dsimp only at h ⊢; rw [← hb 20 rfl, ← hx 3 rfl]; exact h
    | 0, _ | _ + 3, _ => trivial
  · refine ⟨?_, ?_, ?_, trivial⟩
    · exact s4 rfl (fun _ _ _ h => h) fun cx => run_loadB (n := 5) rfl (by kernel_rfl) (by kernel_rfl) (cx.out 5 rfl) (cx.blk (cx.init 0 _ rfl) rfl) (Nat.le_of_ble_eq_true rfl) rfl
    · refine sv_any rfl rfl fun ρ β W X cx => ?_
      refine DoesU.call (run_callF (args := #[.agg #[.int .i64 hi, .slice LA ls.length lc, .slice OA own.length oc, .int .i64 hz, .slice SA bs.length sc]]) rfl cx.sees rfl (by kernel_rfl) (map1 (cx.anc 0 rfl))) ?_
      refine (cut_any hi hz _ _ ls _ _ own _ _ _ _ (hL.ext cx.upd.to_ext) (hO.ext cx.upd.to_ext) hlc hoc).mono ?_
      rintro e W1 ⟨A4, c4, B4, d4, rfl, hc⟩
      refine ⟨_, rfl, post_st [eO 3 1 (.slice A4 (ls.take 60).length c4) (ls.take 60).length ((ls.take 60).map (Value.int .i64)), eO 3 1 (.slice B4 (own.take 20).length d4) (own.take 20).length ((own.take 20).map (Value.int .i64))] rfl rfl hc (fun σ β' X' hs hb hv hN => ?_)⟩
      have hv1 := (hv 20 rfl).1; have hv2 := (hv 20 rfl).2
      exact ⟨hv1.trans (by rw [hv2]; rfl), (by rw [hv2]; exact (List.cons.inj hN).1), (by rw [hv2]; exact (List.cons.inj (List.cons.inj hN).2).1)⟩
    · refine sv_any rfl rfl fun ρ β W X cx => ?_
      exact dv_store (n := 5) rfl (cx.out 5 rfl) (dTn (cx.anc 1 rfl)).1 (by kernel_rfl) rfl rfl cx (cx.init 0 _ rfl) rfl (Nat.le_of_ble_eq_true rfl) rfl rfl rfl rfl (fun σ β' X' hs hb hx => by rw [hb 20]; exact hx)
  intro σ β X W3 hD hX hst3 fr hfr
  obtain ⟨A20_3, hu_A20_3⟩ : ∃ z, sA (tg (β 20) 1) = z := ⟨_, rfl⟩
  obtain ⟨c20_3, hu_c20_3⟩ : ∃ z, sC (tg (β 20) 1) = z := ⟨_, rfl⟩
  obtain ⟨A20q_3, hu_A20q_3⟩ : ∃ z, sA (tg (β 20) 2) = z := ⟨_, rfl⟩
  obtain ⟨c20q_3, hu_c20q_3⟩ : ∃ z, sC (tg (β 20) 2) = z := ⟨_, rfl⟩
  simp only [zM, exq 1 ((dTn (hD 1 lq)).2.1), exq 2 ((dTn (hD 1 lq)).2.2), exq 3 ((dTn (hD 2 lq))), hu_A20_3, hu_c20_3, hu_A20q_3, hu_c20q_3] at hst3
  dsimp only [mgT, vals, List.take, List.drop, List.cons_append, List.nil_append] at hfr
  simp only [ed 20 ((dTn (hD 1 lq)).1), hu_A20_3, hu_c20_3, hu_A20q_3, hu_c20q_3] at hfr
  clear hX hD hu_A20_3 hu_c20_3 hu_A20q_3 hu_c20q_3; subst hfr; clear σ β X
  refine then_normal ?_
  refine wp_seq ?_
  obtain ⟨nn, hne, hn20⟩ : ∃ z : Nat, n % 65536 % 21 = (z : Int) ∧ z ≤ 20 := ⟨(n % 65536 % 21).toNat, by omega, by omega⟩
  refine wp_region_P [0, 1, 3, 7] [.k 21 (.int .i64 n), tAn 22 .i64 n 65535 (n % 65536) (bits_mask n 16 (by decide)), tRe 23 .i64 (n % 65536) 21 (nn : Int) ((Int.tmod_eq_emod_of_nonneg (by omega)).trans hne), .k 0 (.int .i64 ((nn : Int)))] [(0, 3, 1, 1), (20, 0, 3, 23)] hst3 fun W4 hst4 => ?_
  refine then_normal ?_
  refine wp_seq ?_
  obtain ⟨f, hfe, hf⟩ : ∃ z : Int, f0 % 128 = z ∧ 0 ≤ z ∧ z < 128 := ⟨_, rfl, by omega, by omega⟩
  refine wp_region_P [0, 1, 3] [.k 24 (.int .i64 f0), tAn 25 .i64 f0 127 f ((bits_mask f0 7 (by decide)).trans hfe), .k 1 (.int .i64 f)] [(1, 2, 1, 2), (22, 0, 2, 24)] hst4 fun W5 hst5 => ?_
  refine then_normal ?_
  refine wp_seq ?_
  obtain ⟨h1, hh1⟩ : ∃ z : Int, 3 + (f + hi % 256 % 40) % 125 = z := ⟨_, rfl⟩
  refine wp_region_T [0, 0, 2, 6, 14, 30, 63, 127, 255, 511, 1023, 2047] [[], [], [], [2], [], [], [], [], [], [], [], [2]] [[], [], [], [], [], [], [], [], [], [], [], [3]] [[], [], [], [], [], [], [], [], [], [], [], [2]] [.k 26 (.int .i64 f), .k 27 (.pointer (some ⟨B5_1, 0, none⟩)), .k 28 (.pointer (some ⟨B5_1, 0, none⟩)), .c 29 (.int .i64 hi), tAn 30 .i64 hi 255 (hi % 256) (bits_mask hi 8 (by decide)), tRe 31 .i64 (hi % 256) 40 ((hi % 256) % 40) (Int.tmod_eq_emod_of_nonneg (by omega)), tI 32 (f + ((hi % 256) % 40)) (by omega), tRe 33 .i64 (f + ((hi % 256) % 40)) 125 ((f + ((hi % 256) % 40)) % 125) (Int.tmod_eq_emod_of_nonneg (by omega)), tW 34 .i64 (3 + ((f + ((hi % 256) % 40)) % 125)) h1 ((IntWalk.i64_in _ (by omega)).trans hh1), .k 35 (.pointer (some ⟨B5_1, 0, none⟩)), .k 36 (.pointer (some ⟨B5_1, 0, none⟩)), .n] (fun ix σ β X => match ix with | 0 => True | 1 => True | 2 => True | 3 => True | 4 => True | 5 => True | 6 => True | 7 => True | 8 => True | 9 => True | 10 => True | 11 => X 3 = eB B5_1 45 #[.int .i64 h1, .slice A20_3 ((ls.take 60).length) c20_3, .slice A20q_3 ((own.take 20).length) c20q_3, .int .i64 hz, .slice SA bs.length sc] | _ => True) [0, 1, 3] [3, 11] [(26, 0, 11, 37)] hst5 ?_ ?_ ?_
  · exact fun ix _ _ _ _ _ _ hs hb hx h => match ix, h with
    | 11, h => by dsimp only at h ⊢; rw [← hx 3 rfl]; exact h
    | 0, _ | 1, _ | 2, _ | 3, _ | 4, _ | 5, _ | 6, _ | 7, _ | 8, _ | 9, _ | 10, _ | _ + 12, _ => trivial
  · refine ⟨?_, ?_, trivial⟩
    · exact s4 rfl (fun _ _ _ h => h) fun cx => run_load1 rfl (by kernel_rfl) (cx.anc 2 rfl) ((cx.blk (cx.init 2 _ rfl) rfl).cell 0)
    · refine sv_any rfl rfl fun ρ β W X cx => ?_
      exact dv_store (n := 1) rfl (cx.anc 10 rfl) (cx.anc 8 rfl) (by kernel_rfl) rfl rfl cx (cx.init 2 _ rfl) rfl (Nat.le_of_ble_eq_true rfl) rfl rfl rfl rfl (fun σ β' X' hs hb hx => hx)
  intro σ β X W6 hD hX hst6 fr hfr
  simp only [zM, exq 0 (hX 0 _ rfl), exq 1 (hX 1 _ rfl), exq 3 ((dTn (hD 11 lq)))] at hst6
  dsimp only [mgT, vals, List.take, List.drop, List.cons_append, List.nil_append] at hfr
  clear hX hD; subst hfr; clear σ β X
  refine then_normal ?_
  refine wp_seq ?_
  refine wp_region_T [0, 1, 3, 7] [] [[], [], [3]] [] [.c 37 (.agg #[.int .i64 (-1), .int .i64 0]), .c 38 (.agg #[.int .i64 2, .int .i64 0, .int .i64 (-1), .int .i64 0, .bool false, .slice none 0 0]), .a 39, .a 8] (fun ix σ β X => match ix with | 0 => True | 1 => True | 2 => σ 39 = .slice ((some ⟨(pb' (β 39)), 0, none⟩)) 1 1 ∧ X 3 = eO 27 6 (.slice ((some ⟨(pb' (β 39)), 0, none⟩)) 1 1) 1 (flatP [(2, 0)]) | 3 => σ 8 = .slice ((some ⟨(pb' (β 39)), 0, none⟩)) 1 1 | _ => True) [0, 1, 2, 3] [0, 1, 2, 3] [(8, 3, 1, 9), (28, 0, 3, 31)] hst6 ?_ ?_ ?_
  · exact fun ix _ _ _ _ _ _ hs hb hx h => match ix, h with
    | 2, h => by dsimp only at h ⊢; rw [← hs 39 rfl, ← hb 39 rfl, ← hx 3 rfl]; exact h
    | 3, h => by dsimp only at h ⊢; rw [← hs 8 rfl, ← hb 39 rfl]; exact h
    | 0, _ | 1, _ | _ + 4, _ => trivial
  · refine ⟨?_, ?_, ?_, ?_, trivial⟩
    · exact s4 rfl (fun _ _ _ h => h) fun cx => by
        simp [go_sem, cx.sees.const] <;> rfl
    · exact sv0 rfl rfl rfl rfl rfl (fun _ _ _ h => h) fun ρ β W X cx => by
        have fF37 : ρ (.tmp 37) = .agg #[.int .i64 (-1), .int .i64 0] := (cx.anc 0 rfl)
        simp [go_sem, cx.sees.const, fF37] <;> rfl
    · refine sv_any rfl rfl fun ρ β W X cx => ?_
      have fF38 : ρ (.tmp 38) = .agg #[.int .i64 2, .int .i64 0, .int .i64 (-1), .int .i64 0, .bool false, .slice none 0 0] := (cx.anc 1 rfl)
      exact dv_litN (e := 27) (sz := 6) (xs := [.int .i64 2, .int .i64 0, .int .i64 (-1), .int .i64 0, .bool false, .slice none 0 0]) rfl (by simp [go_sem, fF38]) rfl (by decide) rfl rfl (fun σ β' X' hs hb hv hx => ⟨hv, hx⟩)
    · exact sv rfl rfl rfl rfl rfl _ (fun _ _ _ h => h) (fun β β' h => by rw [h 39 (by decide)]) fun ρ β W X cx => run_assign' rfl (dTn (cx.anc 2 rfl)).1
  intro σ β X W7 hD hX hst7 fr hfr
  obtain ⟨B39_7, hu_B39_7⟩ : ∃ z, pb' (β 39) = z := ⟨_, rfl⟩
  simp only [zM, exq 0 (hX 0 _ rfl), exq 1 (hX 1 _ rfl), exq 2 (hX 2 _ rfl), exq 3 ((dTn (hD 2 lq)).2), hu_B39_7] at hst7
  dsimp only [mgT, vals, List.take, List.drop, List.cons_append, List.nil_append] at hfr
  simp only [ed 39 ((dTn (hD 2 lq)).1), ed 8 ((dTn (hD 3 lq))), hu_B39_7] at hfr
  clear hX hD hu_B39_7; subst hfr; clear σ β X
  refine then_normal ?_
  refine wp_seq ?_
  refine wp_region_P [0] [.k 9 (.int .i64 0)] [(9, 0, 1, 10)] hst7 fun W8 hst8 => ?_
  refine then_normal ?_
  refine wp_seq ?_
  refine wp_seq ?_
  refine wp_region_P [0] [.k 10 (.int .i64 0)] [(10, 0, 1, 11)] hst8 fun W9 hst9 => ?_
  refine then_normal ?_
  refine wp_block ?_
  refine wp_loopN (fun mz az W => ∃ k : Nat, ∃ A : List Vp, ∃ c : Int, ∃ e : Int, ∃ N : List Vp, ∃ m : Nat, ∃ la : Nat, ∃ RA : Option Addr, ∃ RC : Nat, ∃ u10_ : List Value, k ≤ nn + 1 ∧ m = A.length + 1 + N.length ∧ la = A.length ∧ m ≤ k + 1 ∧ Lead (standF bs) A c ∧ (∀ v ∈ N, standF bs v.1 ≠ 2 ∧ v.2 = 0) ∧ (e = 0 ∨ standF bs e ≠ 2) ∧ mz = nn + 1 - k ∧ az = ⟨#[.int .i64 ((nn : Int)), .int .i64 f, .agg #[.int .i64 hi, .slice LA ls.length lc, .slice OA own.length oc, .int .i64 hz, .slice SA bs.length sc], undef, undef, .pointer (some ⟨B5_1, 0, none⟩), .bool false, .bool true, .slice RA m RC, .int .i64 ((la : Int)), .int .i64 ((k : Int)), (u10_.getD 0 undef), undef, undef, undef, undef, undef, undef, .bool true, .agg #[.int .i64 hi, .slice LA ls.length lc, .slice OA own.length oc, .int .i64 hz, .slice SA bs.length sc], .agg #[.int .i64 hi, .slice A20_3 ((ls.take 60).length) c20_3, .slice A20q_3 ((own.take 20).length) c20q_3, .int .i64 hz, .slice SA bs.length sc], .int .i64 n, .int .i64 (n % 65536), .int .i64 ((nn : Int)), .int .i64 f0, .int .i64 f, .int .i64 f, .pointer (some ⟨B5_1, 0, none⟩), .pointer (some ⟨B5_1, 0, none⟩), .int .i64 hi, .int .i64 (hi % 256), .int .i64 ((hi % 256) % 40), .int .i64 (f + ((hi % 256) % 40)), .int .i64 ((f + ((hi % 256) % 40)) % 125), .int .i64 h1, .pointer (some ⟨B5_1, 0, none⟩), .pointer (some ⟨B5_1, 0, none⟩), .agg #[.int .i64 (-1), .int .i64 0], .agg #[.int .i64 2, .int .i64 0, .int .i64 (-1), .int .i64 0, .bool false, .slice none 0 0], .slice ((some ⟨B39_7, 0, none⟩)) 1 1, (u10_.getD 1 undef), (u10_.getD 2 undef), (u10_.getD 3 undef), (u10_.getD 4 undef), (u10_.getD 5 undef), (u10_.getD 6 undef), (u10_.getD 7 undef), (u10_.getD 8 undef), (u10_.getD 9 undef), (u10_.getD 10 undef), (u10_.getD 11 undef), (u10_.getD 12 undef), (u10_.getD 13 undef), (u10_.getD 14 undef), (u10_.getD 15 undef), (u10_.getD 16 undef), (u10_.getD 17 undef), (u10_.getD 18 undef), (u10_.getD 19 undef), (u10_.getD 20 undef), (u10_.getD 21 undef), (u10_.getD 22 undef), (u10_.getD 23 undef), (u10_.getD 24 undef), (u10_.getD 25 undef), (u10_.getD 26 undef), (u10_.getD 27 undef), (u10_.getD 28 undef), (u10_.getD 29 undef), (u10_.getD 30 undef), (u10_.getD 31 undef), (u10_.getD 32 undef), (u10_.getD 33 undef), (u10_.getD 34 undef), (u10_.getD 35 undef), undef, undef, undef, undef, undef, undef, undef, undef, undef, undef, undef, undef, undef, undef, undef, undef, undef, undef, undef, undef, undef, undef, undef, undef, undef, undef, undef, undef, undef, undef, undef, undef, undef, undef, undef, undef, undef, undef, undef, undef, undef, undef, undef, undef, undef, undef, undef, undef, undef, undef, undef, undef, undef, undef, undef, undef, undef, undef, undef, undef, undef, undef, undef, undef, undef, undef], []⟩ ∧ St w [] [eO 3 1 (.slice A20_3 ((ls.take 60).length) c20_3) ((ls.take 60).length) ((ls.take 60).map (Value.int .i64)), eO 3 1 (.slice A20q_3 ((own.take 20).length) c20q_3) ((own.take 20).length) ((own.take 20).map (Value.int .i64)), eB B5_1 45 #[.int .i64 h1, .slice A20_3 ((ls.take 60).length) c20_3, .slice A20q_3 ((own.take 20).length) c20q_3, .int .i64 hz, .slice SA bs.length sc], eO 27 6 (.slice RA m RC) m (flatP (A ++ (c, e) :: N))] W) (nn + 1 - 0) ?_ ?_
  · -- the loop begins
    have hp11 := hst9.pick [0, 1, 2, 3] (by decide) rfl
    exact ⟨0, [], 2, 0, [], 1, 0, (some ⟨B39_7, 0, none⟩), 1, [undef, undef, undef, undef, undef, undef, undef, undef, undef, undef, undef, undef, undef, undef, undef, undef, undef, undef, undef, undef, undef, undef, undef, undef, undef, undef, undef, undef, undef, undef, undef, undef, undef, undef, undef, undef], by omega, rfl, rfl, by omega, lead_0, by simp, .inl rfl, rfl, rfl, hp11⟩
  rintro n10 a10 W10 ⟨k, A, c, e, N, m, la, RA, RC, u10_, hk, hm, hla, hmk, hLd, hNo, hee, rfl, rfl, hst10⟩
  have hAl : (A ++ (c, e) :: N).length = m := by simp only [List.length_append, List.length_cons]; omega
  have hm21 : m ≤ 22 := by omega
  refine wp_seq ?_
  refine wp_seq ?_
  refine wp_region_P [0, 0, 3] [.k 40 (.int .i64 ((k : Int))), .k 41 (.int .i64 ((nn : Int))), .k 42 (.bool (decide ((k : Int) < (nn : Int))))] [(40, 0, 3, 43)] hst10 fun W12 hst12 => ?_
  refine then_normal ?_
  rcases Bool.eq_false_or_eq_true (decide ((k : Int) < (nn : Int))) with hs13 | hs13
  · skip
    have hs13p : (k : Int) < (nn : Int) := by simpa using hs13
    refine wp_cond_true (show Act.eval _ _ = .bool true from (congrArg Value.bool hs13)) ?_
    refine wp_skip ?_
    refine then_normal ?_
    refine wp_seq ?_
    refine wp_block ?_
    refine wp_seq ?_
    obtain ⟨x, hxe, hx⟩ : ∃ z : Int, 3 + (f + (k : Int)) % 125 = z ∧ 3 ≤ z ∧ z < 128 := ⟨_, rfl, by omega, by omega⟩
    refine wp_region_P [0, 0, 3, 7, 15, 31] [.k 45 (.int .i64 f), .k 46 (.int .i64 ((k : Int))), tI 47 (f + (k : Int)) (by omega), tRe 48 .i64 (f + (k : Int)) 125 ((f + (k : Int)) % 125) (Int.tmod_eq_emod_of_nonneg (by omega)), tW 49 .i64 (3 + ((f + (k : Int)) % 125)) x ((IntWalk.i64_in _ (by omega)).trans hxe), .k 11 (.int .i64 x)] [(11, 5, 1, 12), (33, 0, 5, 38)] hst12 fun W14 hst14 => ?_
    refine then_normal ?_
    refine wp_seq ?_
    refine wp_region_T [0, 0, 0, 7, 15, 31] [[], [], [], [3], [], [3]] [[], [], [], [], [], [4]] [[], [], [], [], [], [3]] [.k 50 (.slice RA m RC), .k 51 (.int .i64 ((la : Int))), .k 52 (.int .i64 x), .c 53 (.pointer (some ((ad RA).add (la * 6)))), .c 54 (.pointer (some ((ad RA).add (la * 6 + 1)))), .n] (fun ix σ β X => match ix with | 0 => True | 1 => True | 2 => True | 3 => True | 4 => True | 5 => X 4 = eO 27 6 (.slice RA m RC) m (flatP (A ++ (c, x) :: N)) | _ => True) [0, 1, 2, 4] [3, 4, 5] [(50, 0, 5, 55)] hst14 ?_ ?_ ?_
    · exact fun ix _ _ _ _ _ _ hs hb hx h => match ix, h with
      | 5, h => by dsimp only at h ⊢; rw [← hx 4 rfl]; exact h
      | 0, _ | 1, _ | 2, _ | 3, _ | 4, _ | _ + 6, _ => trivial
    · refine ⟨?_, ?_, ?_, trivial⟩
      · exact s4 rfl (fun _ _ _ h => h) fun cx => run_indexSlM (e := 27) (m := la) (sz := 6) rfl (by kernel_rfl) (by kernel_rfl) (cx.anc 0 rfl) (cx.anc 1 rfl) (by omega) (by omega) (At.of_ownN (cx.row (cx.init 3 _ rfl) rfl)) (by have h_ := flatLen (f := cellsP) (sz := 6) cellsP_len (A ++ (c, e) :: N); show 0 < (List.flatMap cellsP (A ++ (c, e) :: N)).length; omega)
      · exact s4 rfl (fun _ _ _ h => h) fun cx => run_fieldAd rfl (by kernel_rfl) (cx.anc 3 rfl)
      · refine sv_any rfl rfl fun ρ β W X cx => ?_
        exact dv_storeRowN (m := la * 6 + 1) (n := m) (sz := 6) rfl (cx.anc 4 rfl) (cx.anc 2 rfl) (by kernel_rfl) rfl rfl cx (cx.init 3 _ rfl) rfl (by omega) rfl (by rw [hla]; exact flatP_set _ _ _ _ _) rfl rfl (fun σ β' X' hs hb hx => hx)
    intro σ β X W15 hD hX hst15 fr hfr
    simp only [zM, exq 0 (hX 0 _ rfl), exq 1 (hX 1 _ rfl), exq 2 (hX 2 _ rfl), exq 4 ((dTn (hD 5 lq)))] at hst15
    dsimp only [mgT, vals, List.take, List.drop, List.cons_append, List.nil_append] at hfr
    clear hX hD; subst hfr; clear σ β X
    refine then_normal ?_
    refine wp_seq ?_
    refine wp_region_T [0, 0, 0, 6, 14, 31, 63] [[], [], [], [], [], [4, 3]] [[], [], [], [], [4], [5]] [[], [], [], [], [], [3]] [.k 55 (.slice RA m RC), .k 56 (.int .i64 x), .c 57 (.agg #[.int .i64 (-1), .int .i64 0]), .c 58 (.agg #[.int .i64 x, .int .i64 0, .int .i64 (-1), .int .i64 0, .bool false, .slice none 0 0]), .a 59, .a 60, .a 8] (fun ix σ β X => match ix with | 0 => True | 1 => True | 2 => True | 3 => True | 4 => σ 59 = .slice ((some ⟨(pb' (β 59)), 0, none⟩)) 1 1 ∧ X 4 = eO 27 6 (.slice ((some ⟨(pb' (β 59)), 0, none⟩)) 1 1) 1 (flatP [(x, 0)]) | 5 => σ 60 = .slice (sA (β 60)) (m + 1) (sC (β 60)) ∧ X 5 = eO 27 6 (.slice (sA (β 60)) (m + 1) (sC (β 60))) (m + 1) (flatP (A ++ (c, x) :: (N ++ [(x, 0)]))) | 6 => σ 8 = .slice (sA (β 60)) (m + 1) (sC (β 60)) | _ => True) [0, 1, 2, 4, 5] [2, 3, 4, 5, 6] [(8, 6, 1, 9), (46, 0, 6, 52)] hst15 ?_ ?_ ?_
    · exact fun ix _ _ _ _ _ _ hs hb hx h => match ix, h with
      | 4, h => by dsimp only at h ⊢; rw [← hs 59 rfl, ← hb 59 rfl, ← hx 4 rfl]; exact h
      | 5, h => by dsimp only at h ⊢; rw [← hs 60 rfl, ← hb 60 rfl, ← hx 5 rfl]; exact h
      | 6, h => by dsimp only at h ⊢; rw [← hs 8 rfl, ← hb 60 rfl]; exact h
      | 0, _ | 1, _ | 2, _ | 3, _ | _ + 7, _ => trivial
    · refine ⟨?_, ?_, ?_, ?_, ?_, trivial⟩
      · exact s4 rfl (fun _ _ _ h => h) fun cx => by
          simp [go_sem, cx.sees.const] <;> rfl
      · exact sv0 rfl rfl rfl rfl rfl (fun _ _ _ h => h) fun ρ β W X cx => by
          have fF56 : ρ (.tmp 56) = .int .i64 x := (cx.anc 1 rfl)
          have fF57 : ρ (.tmp 57) = .agg #[.int .i64 (-1), .int .i64 0] := (cx.anc 2 rfl)
          simp [go_sem, fF56, fF57] <;> rfl
      · refine sv_any rfl rfl fun ρ β W X cx => ?_
        have fF58 : ρ (.tmp 58) = .agg #[.int .i64 x, .int .i64 0, .int .i64 (-1), .int .i64 0, .bool false, .slice none 0 0] := (cx.anc 3 rfl)
        exact dv_litN (e := 27) (sz := 6) (xs := [.int .i64 x, .int .i64 0, .int .i64 (-1), .int .i64 0, .bool false, .slice none 0 0]) rfl (by simp [go_sem, fF58]) rfl (by decide) rfl rfl (fun σ β' X' hs hb hv hx => ⟨hv, hx⟩)
      · refine sv_any rfl rfl fun ρ β W X cx => ?_
        obtain ⟨i0, hi0, hz0, hz1, hz2⟩ := info_parts Tryd.infoVer
        refine dv_appendN (n := m) (m := 1) (nm := m + 1) (sz := 6) (xs := flatP (A ++ (c, x) :: N)) (news := flatP [(x, 0)]) (xs' := flatP (A ++ (c, x) :: (N ++ [(x, 0)]))) rfl (ty := 72) rfl (by kernel_rfl) hi0 hz0 hz1 hz2 rfl (by decide) (cx.anc 0 rfl) cx (cx.init 3 _ rfl) rfl (dTn (cx.anc 4 rfl)).1 (by rfl) (At.of_ownN (cx.row (dTn (cx.anc 4 rfl)).2 rfl)) (by simp [flatP, cellsP, Value.oneCell']) (by simp only [maxLen]; omega) (by omega) rfl rfl rfl (by omega) (by simp [flatP]) (fun σ β' X' hs hb hv hx => ?_)
        exact ⟨hv, hx⟩
      · exact sv rfl rfl rfl rfl rfl _ (fun _ _ _ h => h) (fun β β' h => by rw [h 60 (by decide)]) fun ρ β W X cx => run_assign' rfl (dTn (cx.anc 5 rfl)).1
    intro σ β X W16 hD hX hst16 fr hfr
    obtain ⟨B59_16, hu_B59_16⟩ : ∃ z, pb' (β 59) = z := ⟨_, rfl⟩
    obtain ⟨A60_16, hu_A60_16⟩ : ∃ z, sA (β 60) = z := ⟨_, rfl⟩
    obtain ⟨c60_16, hu_c60_16⟩ : ∃ z, sC (β 60) = z := ⟨_, rfl⟩
    simp only [zM, exq 0 (hX 0 _ rfl), exq 1 (hX 1 _ rfl), exq 2 (hX 2 _ rfl), exq 4 ((dTn (hD 4 lq)).2), exq 5 ((dTn (hD 5 lq)).2), hu_B59_16, hu_A60_16, hu_c60_16] at hst16
    dsimp only [mgT, vals, List.take, List.drop, List.cons_append, List.nil_append] at hfr
    simp only [ed 59 ((dTn (hD 4 lq)).1), ed 60 ((dTn (hD 5 lq)).1), ed 8 ((dTn (hD 6 lq))), hu_B59_16, hu_A60_16, hu_c60_16] at hfr
    clear hX hD hu_B59_16 hu_A60_16 hu_c60_16; subst hfr; clear σ β X
    refine then_normal ?_
    refine wp_seq ?_
    refine wp_region_T [0, 1, 0, 7, 15] [[], [2]] [] [] [.k 61 (.pointer (some ⟨B5_1, 4, none⟩)), .c 62 (.slice SA bs.length sc), .k 63 (.int .i64 x), .c 64 (.int .i64 (standF bs x)), .k 65 (.bool ((standF bs x) == 2))] (fun _ _ _ _ => True) [0, 1, 2, 3, 4] [1, 3] [(61, 0, 5, 66)] hst16 ?_ ?_ ?_
    · exact fun _ _ _ _ _ _ _ _ _ _ h => h
    · refine ⟨?_, ?_, trivial⟩
      · exact s4 rfl (fun _ _ _ h => h) fun cx => run_load1 rfl (by kernel_rfl) (cx.anc 0 rfl) ((cx.blk (cx.init 2 _ rfl) rfl).cell 4)
      · exact sv_call rfl rfl rfl rfl rfl (fun _ _ _ h => h) fun ρ β W X cx => ⟨_, _, run_callF (args := #[.slice SA bs.length sc, .int .i64 x]) rfl cx.sees rfl (by kernel_rfl) (map2 (cx.anc 1 rfl) (cx.anc 2 rfl)), stand_any _ _ bs x _ (hSA.ext cx.upd.to_ext) hbs⟩
    intro σ β X W17 hD hX hst17 fr hfr
    simp only [zM, exq 0 (hX 0 _ rfl), exq 1 (hX 1 _ rfl), exq 2 (hX 2 _ rfl), exq 3 (hX 3 _ rfl), exq 4 (hX 4 _ rfl)] at hst17
    dsimp only [mgT, vals, List.take, List.drop, List.cons_append, List.nil_append] at hfr
    clear hX hD; subst hfr; clear σ β X
    refine then_normal ?_
    rcases Bool.eq_false_or_eq_true ((standF bs x) == 2) with hs18 | hs18
    · skip
      have hs18p : (standF bs x) = 2 := by simpa using hs18
      refine wp_cond_true (show Act.eval _ _ = .bool true from (congrArg Value.bool hs18)) ?_
      refine wp_region_P [0, 1, 3, 7] [.k 66 (.slice A60_16 (m + 1) c60_16), .k 67 (.int .i64 ((m + 1 : Int))), tJ 68 ((m + 1 : Int) - 1) (m : Int) (by omega) (by omega), .k 9 (.int .i64 ((m : Int)))] [(9, 3, 1, 10), (56, 0, 3, 59)] hst17 fun W19 hst19 => ?_
      refine blk_normal ?_
      refine then_normal ?_
      refine wp_region_P [0, 1, 3] [.k 43 (.int .i64 ((k : Int))), tI 44 ((k : Int) + 1) (by omega), .k 10 (.int .i64 ((k : Int) + 1))] [(10, 2, 1, 11), (32, 0, 2, 34)] hst19 fun W20 hst20 => ?_
      refine then_normal ?_
      have hr1 : A ++ (c, x) :: (N ++ [(x, 0)]) = (A ++ (c, x) :: N) ++ (x, 0) :: [] := by simp
      rw [hr1] at hst20
      refine ⟨nn + 1 - ((k + 1)), by omega, ?_⟩
      have hp21 := hst20.pick [0, 1, 2, 4] (by decide) rfl
      exact ⟨(k + 1), (A ++ (c, x) :: N), x, 0, [], (m + 1), m, A60_16, c60_16, [.int .i64 x, .int .i64 ((k : Int)), .int .i64 ((nn : Int)), .bool (decide ((k : Int) < (nn : Int))), .int .i64 ((k : Int)), .int .i64 ((k : Int) + 1), .int .i64 f, .int .i64 ((k : Int)), .int .i64 (f + (k : Int)), .int .i64 ((f + (k : Int)) % 125), .int .i64 x, .slice RA m RC, .int .i64 ((la : Int)), .int .i64 x, .pointer (some ((ad RA).add (la * 6))), .pointer (some ((ad RA).add (la * 6 + 1))), .slice RA m RC, .int .i64 x, .agg #[.int .i64 (-1), .int .i64 0], .agg #[.int .i64 x, .int .i64 0, .int .i64 (-1), .int .i64 0, .bool false, .slice none 0 0], .slice ((some ⟨B59_16, 0, none⟩)) 1 1, .slice A60_16 (m + 1) c60_16, .pointer (some ⟨B5_1, 4, none⟩), .slice SA bs.length sc, .int .i64 x, .int .i64 (standF bs x), .bool ((standF bs x) == 2), .slice A60_16 (m + 1) c60_16, .int .i64 ((m + 1 : Int)), .int .i64 ((m : Int)), (u10_.getD 30 undef), (u10_.getD 31 undef), (u10_.getD 32 undef), (u10_.getD 33 undef), (u10_.getD 34 undef), (u10_.getD 35 undef)], by omega, by simp only [List.length_append, List.length_cons, List.length_nil]; omega, by simp only [List.length_append, List.length_cons, List.length_nil]; omega, by omega, lead_step hLd hNo hs18p, by simp, .inl rfl, rfl, rfl, hp21⟩
    have hs18p : (standF bs x) ≠ 2 := by simpa using hs18
    refine wp_cond_false (show Act.eval _ _ = .bool false from (congrArg Value.bool hs18)) ?_
    refine wp_seq ?_
    refine wp_region_T [0, 1, 0, 7, 15] [[], [2]] [] [] [.k 69 (.pointer (some ⟨B5_1, 4, none⟩)), .c 70 (.slice SA bs.length sc), .k 71 (.int .i64 x), .c 72 (.int .i64 (standF bs x)), .k 73 (.bool ((standF bs x) != 3))] (fun _ _ _ _ => True) [0, 1, 2, 3, 4] [1, 3] [(69, 0, 5, 74)] hst17 ?_ ?_ ?_
    · exact fun _ _ _ _ _ _ _ _ _ _ h => h
    · refine ⟨?_, ?_, trivial⟩
      · exact s4 rfl (fun _ _ _ h => h) fun cx => run_load1 rfl (by kernel_rfl) (cx.anc 0 rfl) ((cx.blk (cx.init 2 _ rfl) rfl).cell 4)
      · exact sv_call rfl rfl rfl rfl rfl (fun _ _ _ h => h) fun ρ β W X cx => ⟨_, _, run_callF (args := #[.slice SA bs.length sc, .int .i64 x]) rfl cx.sees rfl (by kernel_rfl) (map2 (cx.anc 1 rfl) (cx.anc 2 rfl)), stand_any _ _ bs x _ (hSA.ext cx.upd.to_ext) hbs⟩
    intro σ β X W22 hD hX hst22 fr hfr
    simp only [zM, exq 0 (hX 0 _ rfl), exq 1 (hX 1 _ rfl), exq 2 (hX 2 _ rfl), exq 3 (hX 3 _ rfl), exq 4 (hX 4 _ rfl)] at hst22
    dsimp only [mgT, vals, List.take, List.drop, List.cons_append, List.nil_append] at hfr
    clear hX hD; subst hfr; clear σ β X
    refine then_normal ?_
    rcases Bool.eq_false_or_eq_true ((standF bs x) != 3) with hs23 | hs23
    · skip
      have hs23p : (standF bs x) ≠ 3 := by simpa using hs23
      refine wp_cond_true (show Act.eval _ _ = .bool true from (congrArg Value.bool hs23)) ?_
      refine wp_region_P [0, 1] [.k 74 (.int .i64 ((nn : Int))), .k 10 (.int .i64 ((nn : Int)))] [(10, 1, 1, 11), (63, 0, 1, 64)] hst22 fun W24 hst24 => ?_
      refine blk_normal ?_
      refine then_normal ?_
      refine wp_region_P [0, 1, 3] [.k 43 (.int .i64 ((nn : Int))), tI 44 ((nn : Int) + 1) (by omega), .k 10 (.int .i64 ((nn : Int) + 1))] [(10, 2, 1, 11), (32, 0, 2, 34)] hst24 fun W25 hst25 => ?_
      refine then_normal ?_
      refine ⟨nn + 1 - ((nn + 1)), by omega, ?_⟩
      have hp26 := hst25.pick [0, 1, 2, 4] (by decide) rfl
      exact ⟨(nn + 1), A, c, x, (N ++ [(x, 0)]), (m + 1), la, A60_16, c60_16, [.int .i64 x, .int .i64 ((k : Int)), .int .i64 ((nn : Int)), .bool (decide ((k : Int) < (nn : Int))), .int .i64 ((nn : Int)), .int .i64 ((nn : Int) + 1), .int .i64 f, .int .i64 ((k : Int)), .int .i64 (f + (k : Int)), .int .i64 ((f + (k : Int)) % 125), .int .i64 x, .slice RA m RC, .int .i64 ((la : Int)), .int .i64 x, .pointer (some ((ad RA).add (la * 6))), .pointer (some ((ad RA).add (la * 6 + 1))), .slice RA m RC, .int .i64 x, .agg #[.int .i64 (-1), .int .i64 0], .agg #[.int .i64 x, .int .i64 0, .int .i64 (-1), .int .i64 0, .bool false, .slice none 0 0], .slice ((some ⟨B59_16, 0, none⟩)) 1 1, .slice A60_16 (m + 1) c60_16, .pointer (some ⟨B5_1, 4, none⟩), .slice SA bs.length sc, .int .i64 x, .int .i64 (standF bs x), .bool ((standF bs x) == 2), (u10_.getD 27 undef), (u10_.getD 28 undef), (u10_.getD 29 undef), .pointer (some ⟨B5_1, 4, none⟩), .slice SA bs.length sc, .int .i64 x, .int .i64 (standF bs x), .bool ((standF bs x) != 3), .int .i64 ((nn : Int))], by omega, by simp only [List.length_append, List.length_cons, List.length_nil]; omega, hla, by omega, hLd, snoc_no hNo hs18p, .inr hs18p, rfl, rfl, hp26⟩
    have hs23p : (standF bs x) = 3 := by simpa using hs23
    refine wp_cond_false (show Act.eval _ _ = .bool false from (congrArg Value.bool hs23)) ?_
    refine wp_skip ?_
    refine blk_normal ?_
    refine then_normal ?_
    refine wp_region_P [0, 1, 3] [.k 43 (.int .i64 ((k : Int))), tI 44 ((k : Int) + 1) (by omega), .k 10 (.int .i64 ((k : Int) + 1))] [(10, 2, 1, 11), (32, 0, 2, 34)] hst22 fun W27 hst27 => ?_
    refine then_normal ?_
    refine ⟨nn + 1 - ((k + 1)), by omega, ?_⟩
    have hp28 := hst27.pick [0, 1, 2, 4] (by decide) rfl
    exact ⟨(k + 1), A, c, x, (N ++ [(x, 0)]), (m + 1), la, A60_16, c60_16, [.int .i64 x, .int .i64 ((k : Int)), .int .i64 ((nn : Int)), .bool (decide ((k : Int) < (nn : Int))), .int .i64 ((k : Int)), .int .i64 ((k : Int) + 1), .int .i64 f, .int .i64 ((k : Int)), .int .i64 (f + (k : Int)), .int .i64 ((f + (k : Int)) % 125), .int .i64 x, .slice RA m RC, .int .i64 ((la : Int)), .int .i64 x, .pointer (some ((ad RA).add (la * 6))), .pointer (some ((ad RA).add (la * 6 + 1))), .slice RA m RC, .int .i64 x, .agg #[.int .i64 (-1), .int .i64 0], .agg #[.int .i64 x, .int .i64 0, .int .i64 (-1), .int .i64 0, .bool false, .slice none 0 0], .slice ((some ⟨B59_16, 0, none⟩)) 1 1, .slice A60_16 (m + 1) c60_16, .pointer (some ⟨B5_1, 4, none⟩), .slice SA bs.length sc, .int .i64 x, .int .i64 (standF bs x), .bool ((standF bs x) == 2), (u10_.getD 27 undef), (u10_.getD 28 undef), (u10_.getD 29 undef), .pointer (some ⟨B5_1, 4, none⟩), .slice SA bs.length sc, .int .i64 x, .int .i64 (standF bs x), .bool ((standF bs x) != 3), (u10_.getD 35 undef)], by omega, by simp only [List.length_append, List.length_cons, List.length_nil]; omega, hla, by omega, hLd, snoc_no hNo hs18p, .inr hs18p, rfl, rfl, hp28⟩
  have hs13p : ¬ ((k : Int) < (nn : Int)) := by simpa using hs13
  refine wp_cond_false (show Act.eval _ _ = .bool false from (congrArg Value.bool hs13)) ?_
  refine wp_exit ?_
  refine then_exit ?_
  refine then_exit ?_
  refine blk_eq ?_
  refine then_normal ?_
  refine wp_seq ?_
  refine wp_region_P [0] [.k 12 (.int .i64 0)] [(12, 0, 1, 13)] hst12 fun W29 hst29 => ?_
  refine then_normal ?_
  refine wp_seq ?_
  refine wp_seq ?_
  refine wp_region_P [0] [.k 13 (.int .i64 0)] [(13, 0, 1, 14)] hst29 fun W30 hst30 => ?_
  refine then_normal ?_
  refine wp_block ?_
  obtain ⟨vs, hvs⟩ : ∃ z, A ++ (c, e) :: N = z := ⟨_, rfl⟩
  have hvl : vs.length = m := by rw [← hvs]; simp only [List.length_append, List.length_cons]; omega
  have hok : OkF (standF bs) vs := by rw [← hvs]; exact lead_end hLd hNo hee
  have hm21 : m ≤ 22 := by omega
  rw [hvs] at hst30
  refine wp_loopN (fun mz az W => ∃ j : Nat, ∃ mm : Nat, ∃ u31_ : List Value, j ≤ m ∧ mm = manyF h1 (ls.take 60) (standF bs) (vs.take j) ∧ mm ≤ j ∧ mz = m - j ∧ az = ⟨#[.int .i64 ((nn : Int)), .int .i64 f, .agg #[.int .i64 hi, .slice LA ls.length lc, .slice OA own.length oc, .int .i64 hz, .slice SA bs.length sc], undef, undef, .pointer (some ⟨B5_1, 0, none⟩), .bool false, .bool true, .slice RA m RC, .int .i64 ((la : Int)), .int .i64 ((k : Int)), (u10_.getD 0 undef), .int .i64 ((mm : Int)), .int .i64 ((j : Int)), undef, undef, undef, undef, .bool true, .agg #[.int .i64 hi, .slice LA ls.length lc, .slice OA own.length oc, .int .i64 hz, .slice SA bs.length sc], .agg #[.int .i64 hi, .slice A20_3 ((ls.take 60).length) c20_3, .slice A20q_3 ((own.take 20).length) c20q_3, .int .i64 hz, .slice SA bs.length sc], .int .i64 n, .int .i64 (n % 65536), .int .i64 ((nn : Int)), .int .i64 f0, .int .i64 f, .int .i64 f, .pointer (some ⟨B5_1, 0, none⟩), .pointer (some ⟨B5_1, 0, none⟩), .int .i64 hi, .int .i64 (hi % 256), .int .i64 ((hi % 256) % 40), .int .i64 (f + ((hi % 256) % 40)), .int .i64 ((f + ((hi % 256) % 40)) % 125), .int .i64 h1, .pointer (some ⟨B5_1, 0, none⟩), .pointer (some ⟨B5_1, 0, none⟩), .agg #[.int .i64 (-1), .int .i64 0], .agg #[.int .i64 2, .int .i64 0, .int .i64 (-1), .int .i64 0, .bool false, .slice none 0 0], .slice ((some ⟨B39_7, 0, none⟩)) 1 1, .int .i64 ((k : Int)), .int .i64 ((nn : Int)), .bool (decide ((k : Int) < (nn : Int))), (u10_.getD 4 undef), (u10_.getD 5 undef), (u10_.getD 6 undef), (u10_.getD 7 undef), (u10_.getD 8 undef), (u10_.getD 9 undef), (u10_.getD 10 undef), (u10_.getD 11 undef), (u10_.getD 12 undef), (u10_.getD 13 undef), (u10_.getD 14 undef), (u10_.getD 15 undef), (u10_.getD 16 undef), (u10_.getD 17 undef), (u10_.getD 18 undef), (u10_.getD 19 undef), (u10_.getD 20 undef), (u10_.getD 21 undef), (u10_.getD 22 undef), (u10_.getD 23 undef), (u10_.getD 24 undef), (u10_.getD 25 undef), (u10_.getD 26 undef), (u10_.getD 27 undef), (u10_.getD 28 undef), (u10_.getD 29 undef), (u10_.getD 30 undef), (u10_.getD 31 undef), (u10_.getD 32 undef), (u10_.getD 33 undef), (u10_.getD 34 undef), (u10_.getD 35 undef), (u31_.getD 0 undef), (u31_.getD 1 undef), (u31_.getD 2 undef), (u31_.getD 3 undef), (u31_.getD 4 undef), (u31_.getD 5 undef), (u31_.getD 6 undef), (u31_.getD 7 undef), (u31_.getD 8 undef), (u31_.getD 9 undef), (u31_.getD 10 undef), (u31_.getD 11 undef), (u31_.getD 12 undef), (u31_.getD 13 undef), (u31_.getD 14 undef), (u31_.getD 15 undef), (u31_.getD 16 undef), (u31_.getD 17 undef), undef, undef, undef, undef, undef, undef, undef, undef, undef, undef, undef, undef, undef, undef, undef, undef, undef, undef, undef, undef, undef, undef, undef, undef, undef, undef, undef, undef, undef, undef, undef, undef, undef, undef, undef, undef, undef, undef, undef, undef, undef, undef, undef, undef, undef, undef, undef, undef], []⟩ ∧ St w [] [eO 3 1 (.slice A20_3 ((ls.take 60).length) c20_3) ((ls.take 60).length) ((ls.take 60).map (Value.int .i64)), eO 3 1 (.slice A20q_3 ((own.take 20).length) c20q_3) ((own.take 20).length) ((own.take 20).map (Value.int .i64)), eB B5_1 45 #[.int .i64 h1, .slice A20_3 ((ls.take 60).length) c20_3, .slice A20q_3 ((own.take 20).length) c20q_3, .int .i64 hz, .slice SA bs.length sc], eO 27 6 (.slice RA m RC) m (flatP vs)] W) (m - 0) ?_ ?_
  · -- the loop begins
    have hp32 := hst30.pick [0, 1, 2, 3] (by decide) rfl
    exact ⟨0, 0, [undef, undef, undef, undef, undef, undef, undef, undef, undef, undef, undef, undef, undef, undef, undef, undef, undef, undef], by omega, rfl, by omega, rfl, rfl, hp32⟩
  rintro n31 a31 W31 ⟨j, mm, u31_, hj, hmm, hmj, rfl, rfl, hst31⟩
  refine wp_seq ?_
  refine wp_seq ?_
  refine wp_region_P [0, 0, 2, 7] [.k 75 (.int .i64 ((j : Int))), .k 76 (.slice RA m RC), .k 77 (.int .i64 ((m : Int))), .k 78 (.bool (decide ((j : Int) < (m : Int))))] [(75, 0, 4, 79)] hst31 fun W33 hst33 => ?_
  refine then_normal ?_
  rcases Bool.eq_false_or_eq_true (decide ((j : Int) < (m : Int))) with hs34 | hs34
  · skip
    have hs34p : (j : Int) < (m : Int) := by simpa using hs34
    refine wp_cond_true (show Act.eval _ _ = .bool true from (congrArg Value.bool hs34)) ?_
    refine wp_skip ?_
    refine then_normal ?_
    refine wp_seq ?_
    refine wp_block ?_
    refine wp_seq ?_
    refine wp_region_T [0, 0, 3, 7, 0, 16, 0, 64, 192, 511] [[], [], [3], [3], [], [2], [], [2], [], [0]] [] [] [.k 81 (.slice RA m RC), .k 82 (.int .i64 ((j : Int))), .c 83 (.pointer (some ((ad RA).add (j * 6)))), .c 84 (.agg #[.int .i64 ((vs.getD j p0).1), .int .i64 ((vs.getD j p0).2), .int .i64 (-1), .int .i64 0, .bool false, .slice none 0 0]), .k 85 (.pointer (some ⟨B5_1, 0, none⟩)), .c 86 (.agg #[.int .i64 h1, .slice A20_3 ((ls.take 60).length) c20_3]), .k 87 (.pointer (some ⟨B5_1, 4, none⟩)), .c 88 (.slice SA bs.length sc), .c 89 (.iface 43 (.slice SA bs.length sc)), .c 90 (.bool (visF h1 (ls.take 60) ([] : List Int) (standF bs) ((vs.getD j p0).1) ((vs.getD j p0).2)))] (fun _ _ _ _ => True) [0, 1, 2, 3] [2, 3, 5, 7, 8, 9] [(81, 0, 10, 91)] hst33 ?_ ?_ ?_
    · exact fun _ _ _ _ _ _ _ _ _ _ h => h
    · refine ⟨?_, ?_, ?_, ?_, ?_, ?_, trivial⟩
      · exact s4 rfl (fun _ _ _ h => h) fun cx => run_indexSlM (e := 27) (m := j) (sz := 6) rfl (by kernel_rfl) (by kernel_rfl) (cx.anc 0 rfl) (cx.anc 1 rfl) (by omega) (by omega) (At.of_ownN (cx.row (cx.init 3 _ rfl) rfl)) (by have h_ := flatLen (f := cellsP) (sz := 6) cellsP_len vs; show 0 < (List.flatMap cellsP vs).length; omega)
      · exact s4 rfl (fun _ _ _ h => h) fun cx => run_loadElt (f := cellsP) (m := j) (sz := 6) (off := 0) (n := 6) rfl (by kernel_rfl) (by kernel_rfl) (cx.anc 2 rfl) rfl cellsP_len (At.of_ownN (cx.row (cx.init 3 _ rfl) rfl)) (getD_some (ts := vs) (m := j) p0 (by omega)) (fun k hk => match k, hk with | 0, _ => rfl | 1, _ => rfl | 2, _ => rfl | 3, _ => rfl | 4, _ => rfl | 5, _ => rfl | k + 6, hk => absurd hk (by omega))
      · exact s4 rfl (fun _ _ _ h => h) fun cx => run_loadB (n := 2) rfl (by kernel_rfl) (by kernel_rfl) (cx.anc 4 rfl) (cx.blk (cx.init 2 _ rfl) rfl) (Nat.le_of_ble_eq_true rfl) rfl
      · exact s4 rfl (fun _ _ _ h => h) fun cx => run_load1 rfl (by kernel_rfl) (cx.anc 6 rfl) ((cx.blk (cx.init 2 _ rfl) rfl).cell 4)
      · exact sv0 rfl rfl rfl rfl rfl (fun _ _ _ h => h) fun ρ β W X cx => by
          have fF88 : ρ (.tmp 88) = .slice SA bs.length sc := (cx.anc 7 rfl)
          simp [go_sem, fF88]
      · exact sv_call rfl rfl rfl rfl rfl (fun _ _ _ h => h) fun ρ β W X cx => ⟨_, _, run_callF (args := #[.agg #[.int .i64 ((vs.getD j p0).1), .int .i64 ((vs.getD j p0).2), .int .i64 (-1), .int .i64 0, .bool false, .slice none 0 0], .agg #[.int .i64 h1, .slice A20_3 ((ls.take 60).length) c20_3], .slice none 0 0, .iface 43 (.slice SA bs.length sc)]) rfl cx.sees rfl (by kernel_rfl) (map4 (cx.anc 3 rfl) (cx.anc 5 rfl) (cx.sees.const _) (cx.anc 8 rfl)), visible_any _ _ _ _ _ _ _ _ _ _ _ (ls.take 60) _ _ ([] : List Int) _ _ _ _ (At.of_own (cx.row (cx.init 0 _ rfl) rfl)) (by first | omega | decide | (simp; done) | (simp; omega)) (At.nil _ _) (by first | omega | decide | (simp; done) | (simp; omega)) (stand_ok _ _ _ bs _ (rfl) (hSA.ext cx.upd.to_ext) hbs)⟩
    intro σ β X W35 hD hX hst35 fr hfr
    simp only [zM, exq 0 (hX 0 _ rfl), exq 1 (hX 1 _ rfl), exq 2 (hX 2 _ rfl), exq 3 (hX 3 _ rfl)] at hst35
    dsimp only [mgT, vals, List.take, List.drop, List.cons_append, List.nil_append] at hfr
    clear hX hD; subst hfr; clear σ β X
    refine then_normal ?_
    rcases Bool.eq_false_or_eq_true (visF h1 (ls.take 60) ([] : List Int) (standF bs) ((vs.getD j p0).1) ((vs.getD j p0).2)) with hs36 | hs36
    · skip
      refine wp_cond_true (show Act.eval _ _ = .bool true from (congrArg Value.bool hs36)) ?_
      refine wp_region_P [0, 1, 3] [.k 91 (.int .i64 ((mm : Int))), tI 92 ((mm : Int) + 1) (by omega), .k 12 (.int .i64 ((mm : Int) + 1))] [(12, 2, 1, 13), (78, 0, 2, 80)] hst35 fun W37 hst37 => ?_
      refine blk_normal ?_
      refine then_normal ?_
      refine wp_region_P [0, 1, 3] [.k 79 (.int .i64 ((j : Int))), tI 80 ((j : Int) + 1) (by omega), .k 13 (.int .i64 ((j : Int) + 1))] [(13, 2, 1, 14), (65, 0, 2, 67)] hst37 fun W38 hst38 => ?_
      refine then_normal ?_
      refine ⟨m - ((j + 1)), by omega, ?_⟩
      have hp39 := hst38.pick [0, 1, 2, 3] (by decide) rfl
      exact ⟨(j + 1), (mm + 1), [.int .i64 ((j : Int)), .slice RA m RC, .int .i64 ((m : Int)), .bool (decide ((j : Int) < (m : Int))), .int .i64 ((j : Int)), .int .i64 ((j : Int) + 1), .slice RA m RC, .int .i64 ((j : Int)), .pointer (some ((ad RA).add (j * 6))), .agg #[.int .i64 ((vs.getD j p0).1), .int .i64 ((vs.getD j p0).2), .int .i64 (-1), .int .i64 0, .bool false, .slice none 0 0], .pointer (some ⟨B5_1, 0, none⟩), .agg #[.int .i64 h1, .slice A20_3 ((ls.take 60).length) c20_3], .pointer (some ⟨B5_1, 4, none⟩), .slice SA bs.length sc, .iface 43 (.slice SA bs.length sc), .bool (visF h1 (ls.take 60) ([] : List Int) (standF bs) ((vs.getD j p0).1) ((vs.getD j p0).2)), .int .i64 ((mm : Int)), .int .i64 ((mm : Int) + 1)], by omega, many_t (by omega) hmm hs36, by omega, rfl, rfl, hp39⟩
    refine wp_cond_false (show Act.eval _ _ = .bool false from (congrArg Value.bool hs36)) ?_
    refine wp_skip ?_
    refine blk_normal ?_
    refine then_normal ?_
    refine wp_region_P [0, 1, 3] [.k 79 (.int .i64 ((j : Int))), tI 80 ((j : Int) + 1) (by omega), .k 13 (.int .i64 ((j : Int) + 1))] [(13, 2, 1, 14), (65, 0, 2, 67)] hst35 fun W40 hst40 => ?_
    refine then_normal ?_
    refine ⟨m - ((j + 1)), by omega, ?_⟩
    have hp41 := hst40.pick [0, 1, 2, 3] (by decide) rfl
    exact ⟨(j + 1), mm, [.int .i64 ((j : Int)), .slice RA m RC, .int .i64 ((m : Int)), .bool (decide ((j : Int) < (m : Int))), .int .i64 ((j : Int)), .int .i64 ((j : Int) + 1), .slice RA m RC, .int .i64 ((j : Int)), .pointer (some ((ad RA).add (j * 6))), .agg #[.int .i64 ((vs.getD j p0).1), .int .i64 ((vs.getD j p0).2), .int .i64 (-1), .int .i64 0, .bool false, .slice none 0 0], .pointer (some ⟨B5_1, 0, none⟩), .agg #[.int .i64 h1, .slice A20_3 ((ls.take 60).length) c20_3], .pointer (some ⟨B5_1, 4, none⟩), .slice SA bs.length sc, .iface 43 (.slice SA bs.length sc), .bool (visF h1 (ls.take 60) ([] : List Int) (standF bs) ((vs.getD j p0).1) ((vs.getD j p0).2)), (u31_.getD 16 undef), (u31_.getD 17 undef)], by omega, many_f (by omega) hmm hs36, by omega, rfl, rfl, hp41⟩
  have hs34p : ¬ ((j : Int) < (m : Int)) := by simpa using hs34
  refine wp_cond_false (show Act.eval _ _ = .bool false from (congrArg Value.bool hs34)) ?_
  refine wp_exit ?_
  refine then_exit ?_
  refine then_exit ?_
  refine blk_eq ?_
  refine then_normal ?_
  refine wp_seq ?_
  refine wp_region_P [0] [.k 14 (.bool true)] [(14, 0, 1, 15)] hst33 fun W42 hst42 => ?_
  refine then_normal ?_
  refine wp_seq ?_
  refine wp_region_P [0] [.k 15 (.bool false)] [(15, 0, 1, 16)] hst42 fun W43 hst43 => ?_
  refine then_normal ?_
  refine wp_seq ?_
  refine wp_seq ?_
  refine wp_region_P [0] [.k 16 (.int .i64 1)] [(16, 0, 1, 17)] hst43 fun W44 hst44 => ?_
  refine then_normal ?_
  refine wp_block ?_
  refine wp_loopN (fun mz az W => ∃ p : Nat, ∃ wv : Bool, ∃ ov : Bool, ∃ u45_ : List Value, p + 1 ≤ m ∧ whF h1 (ls.take 60) (standF bs) ((vs.drop 1).take p) (true, false) = (wv, ov) ∧ mz = m - p ∧ az = ⟨#[.int .i64 ((nn : Int)), .int .i64 f, .agg #[.int .i64 hi, .slice LA ls.length lc, .slice OA own.length oc, .int .i64 hz, .slice SA bs.length sc], undef, undef, .pointer (some ⟨B5_1, 0, none⟩), .bool false, .bool true, .slice RA m RC, .int .i64 ((la : Int)), .int .i64 ((k : Int)), (u10_.getD 0 undef), .int .i64 ((mm : Int)), .int .i64 ((j : Int)), .bool wv, .bool ov, .int .i64 ((p : Int) + 1), (u45_.getD 0 undef), .bool true, .agg #[.int .i64 hi, .slice LA ls.length lc, .slice OA own.length oc, .int .i64 hz, .slice SA bs.length sc], .agg #[.int .i64 hi, .slice A20_3 ((ls.take 60).length) c20_3, .slice A20q_3 ((own.take 20).length) c20q_3, .int .i64 hz, .slice SA bs.length sc], .int .i64 n, .int .i64 (n % 65536), .int .i64 ((nn : Int)), .int .i64 f0, .int .i64 f, .int .i64 f, .pointer (some ⟨B5_1, 0, none⟩), .pointer (some ⟨B5_1, 0, none⟩), .int .i64 hi, .int .i64 (hi % 256), .int .i64 ((hi % 256) % 40), .int .i64 (f + ((hi % 256) % 40)), .int .i64 ((f + ((hi % 256) % 40)) % 125), .int .i64 h1, .pointer (some ⟨B5_1, 0, none⟩), .pointer (some ⟨B5_1, 0, none⟩), .agg #[.int .i64 (-1), .int .i64 0], .agg #[.int .i64 2, .int .i64 0, .int .i64 (-1), .int .i64 0, .bool false, .slice none 0 0], .slice ((some ⟨B39_7, 0, none⟩)) 1 1, .int .i64 ((k : Int)), .int .i64 ((nn : Int)), .bool (decide ((k : Int) < (nn : Int))), (u10_.getD 4 undef), (u10_.getD 5 undef), (u10_.getD 6 undef), (u10_.getD 7 undef), (u10_.getD 8 undef), (u10_.getD 9 undef), (u10_.getD 10 undef), (u10_.getD 11 undef), (u10_.getD 12 undef), (u10_.getD 13 undef), (u10_.getD 14 undef), (u10_.getD 15 undef), (u10_.getD 16 undef), (u10_.getD 17 undef), (u10_.getD 18 undef), (u10_.getD 19 undef), (u10_.getD 20 undef), (u10_.getD 21 undef), (u10_.getD 22 undef), (u10_.getD 23 undef), (u10_.getD 24 undef), (u10_.getD 25 undef), (u10_.getD 26 undef), (u10_.getD 27 undef), (u10_.getD 28 undef), (u10_.getD 29 undef), (u10_.getD 30 undef), (u10_.getD 31 undef), (u10_.getD 32 undef), (u10_.getD 33 undef), (u10_.getD 34 undef), (u10_.getD 35 undef), .int .i64 ((j : Int)), .slice RA m RC, .int .i64 ((m : Int)), .bool (decide ((j : Int) < (m : Int))), (u31_.getD 4 undef), (u31_.getD 5 undef), (u31_.getD 6 undef), (u31_.getD 7 undef), (u31_.getD 8 undef), (u31_.getD 9 undef), (u31_.getD 10 undef), (u31_.getD 11 undef), (u31_.getD 12 undef), (u31_.getD 13 undef), (u31_.getD 14 undef), (u31_.getD 15 undef), (u31_.getD 16 undef), (u31_.getD 17 undef), (u45_.getD 1 undef), (u45_.getD 2 undef), (u45_.getD 3 undef), (u45_.getD 4 undef), (u45_.getD 5 undef), (u45_.getD 6 undef), (u45_.getD 7 undef), (u45_.getD 8 undef), (u45_.getD 9 undef), (u45_.getD 10 undef), (u45_.getD 11 undef), (u45_.getD 12 undef), (u45_.getD 13 undef), (u45_.getD 14 undef), (u45_.getD 15 undef), (u45_.getD 16 undef), (u45_.getD 17 undef), (u45_.getD 18 undef), (u45_.getD 19 undef), (u45_.getD 20 undef), (u45_.getD 21 undef), (u45_.getD 22 undef), (u45_.getD 23 undef), (u45_.getD 24 undef), (u45_.getD 25 undef), (u45_.getD 26 undef), (u45_.getD 27 undef), (u45_.getD 28 undef), (u45_.getD 29 undef), (u45_.getD 30 undef), (u45_.getD 31 undef), (u45_.getD 32 undef), (u45_.getD 33 undef), (u45_.getD 34 undef), (u45_.getD 35 undef), (u45_.getD 36 undef), (u45_.getD 37 undef), (u45_.getD 38 undef), (u45_.getD 39 undef), undef, undef, undef, undef, undef, undef, undef, undef, undef], []⟩ ∧ St w [] [eO 3 1 (.slice A20_3 ((ls.take 60).length) c20_3) ((ls.take 60).length) ((ls.take 60).map (Value.int .i64)), eO 3 1 (.slice A20q_3 ((own.take 20).length) c20q_3) ((own.take 20).length) ((own.take 20).map (Value.int .i64)), eB B5_1 45 #[.int .i64 h1, .slice A20_3 ((ls.take 60).length) c20_3, .slice A20q_3 ((own.take 20).length) c20q_3, .int .i64 hz, .slice SA bs.length sc], eO 27 6 (.slice RA m RC) m (flatP vs)] W) (m - 0) ?_ ?_
  · -- the loop begins
    have hp46 := hst44.pick [0, 1, 2, 3] (by decide) rfl
    exact ⟨0, true, false, [undef, undef, undef, undef, undef, undef, undef, undef, undef, undef, undef, undef, undef, undef, undef, undef, undef, undef, undef, undef, undef, undef, undef, undef, undef, undef, undef, undef, undef, undef, undef, undef, undef, undef, undef, undef, undef, undef, undef, undef], by omega, rfl, rfl, rfl, hp46⟩
  rintro n45 a45 W45 ⟨p, wv, ov, u45_, hp, hW, rfl, rfl, hst45⟩
  refine wp_seq ?_
  refine wp_seq ?_
  refine wp_region_P [0, 0, 2, 7] [.k 93 (.int .i64 ((p : Int) + 1)), .k 94 (.slice RA m RC), .k 95 (.int .i64 ((m : Int))), .k 96 (.bool (decide ((p : Int) + 1 < (m : Int))))] [(93, 0, 4, 97)] hst45 fun W47 hst47 => ?_
  refine then_normal ?_
  rcases Bool.eq_false_or_eq_true (decide ((p : Int) + 1 < (m : Int))) with hs48 | hs48
  · skip
    have hs48p : (p : Int) + 1 < (m : Int) := by simpa using hs48
    refine wp_cond_true (show Act.eval _ _ = .bool true from (congrArg Value.bool hs48)) ?_
    refine wp_skip ?_
    refine then_normal ?_
    refine wp_seq ?_
    refine wp_block ?_
    refine wp_seq ?_
    refine wp_seq ?_
    refine wp_region_T [0, 1, 0, 0, 12, 28, 60, 127, 255] [[], [2], [], [], [3], [], [3]] [] [] [.k 99 (.pointer (some ⟨B5_1, 4, none⟩)), .c 100 (.slice SA bs.length sc), .k 101 (.slice RA m RC), .k 102 (.int .i64 ((p : Int) + 1)), .c 103 (.pointer (some ((ad RA).add ((p + 1) * 6)))), .c 104 (.pointer (some ((ad RA).add ((p + 1) * 6 + 0)))), .c 105 (.int .i64 ((vs.getD (p + 1) p0).1)), .c 106 (.int .i64 (standF bs ((vs.getD (p + 1) p0).1))), .k 107 (.bool ((standF bs ((vs.getD (p + 1) p0).1)) != 2))] (fun _ _ _ _ => True) [0, 1, 2, 3] [1, 4, 5, 6, 7] [(99, 0, 9, 108)] hst47 ?_ ?_ ?_
    · exact fun _ _ _ _ _ _ _ _ _ _ h => h
    · refine ⟨?_, ?_, ?_, ?_, ?_, trivial⟩
      · exact s4 rfl (fun _ _ _ h => h) fun cx => run_load1 rfl (by kernel_rfl) (cx.anc 0 rfl) ((cx.blk (cx.init 2 _ rfl) rfl).cell 4)
      · exact s4 rfl (fun _ _ _ h => h) fun cx => run_indexSlM (e := 27) (m := p + 1) (sz := 6) rfl (by kernel_rfl) (by kernel_rfl) (cx.anc 2 rfl) (cx.anc 3 rfl) (by omega) (by omega) (At.of_ownN (cx.row (cx.init 3 _ rfl) rfl)) (by have h_ := flatLen (f := cellsP) (sz := 6) cellsP_len vs; show 0 < (List.flatMap cellsP vs).length; omega)
      · exact s4 rfl (fun _ _ _ h => h) fun cx => run_fieldAd rfl (by kernel_rfl) (cx.anc 4 rfl)
      · exact s4 rfl (fun _ _ _ h => h) fun cx => run_load1 rfl (by kernel_rfl) (cx.anc 5 rfl) (At.eltc (f := cellsP) (k := 0) cellsP_len (At.of_ownN (cx.row (cx.init 3 _ rfl) rfl)) (getD_some (ts := vs) (m := (p + 1)) p0 (by omega)) rfl)
      · exact sv_call rfl rfl rfl rfl rfl (fun _ _ _ h => h) fun ρ β W X cx => ⟨_, _, run_callF (args := #[.slice SA bs.length sc, .int .i64 ((vs.getD (p + 1) p0).1)]) rfl cx.sees rfl (by kernel_rfl) (map2 (cx.anc 1 rfl) (cx.anc 6 rfl)), stand_any _ _ bs ((vs.getD (p + 1) p0).1) _ (hSA.ext cx.upd.to_ext) hbs⟩
    intro σ β X W49 hD hX hst49 fr hfr
    simp only [zM, exq 0 (hX 0 _ rfl), exq 1 (hX 1 _ rfl), exq 2 (hX 2 _ rfl), exq 3 (hX 3 _ rfl)] at hst49
    dsimp only [mgT, vals, List.take, List.drop, List.cons_append, List.nil_append] at hfr
    clear hX hD; subst hfr; clear σ β X
    refine then_normal ?_
    rcases Bool.eq_false_or_eq_true ((standF bs ((vs.getD (p + 1) p0).1)) != 2) with hs50 | hs50
    · skip
      have hs50p : (standF bs ((vs.getD (p + 1) p0).1)) ≠ 2 := by simpa using hs50
      refine wp_cond_true (show Act.eval _ _ = .bool true from (congrArg Value.bool hs50)) ?_
      refine wp_exit ?_
      refine then_exit ?_
      refine blk_eq ?_
      refine then_normal ?_
      refine wp_region_P [0, 1, 3] [.k 97 (.int .i64 ((p : Int) + 1)), tJ 98 (((p : Int) + 1) + 1) ((p : Int) + 2) (by omega) (by omega), .k 16 (.int .i64 ((p : Int) + 2))] [(16, 2, 1, 17), (80, 0, 2, 82)] hst49 fun W51 hst51 => ?_
      refine then_normal ?_
      refine ⟨m - ((p + 1)), by omega, ?_⟩
      have hp52 := hst51.pick [0, 1, 2, 3] (by decide) rfl
      exact ⟨(p + 1), wv, ov, [(u45_.getD 0 undef), .int .i64 ((p : Int) + 1), .slice RA m RC, .int .i64 ((m : Int)), .bool (decide ((p : Int) + 1 < (m : Int))), .int .i64 ((p : Int) + 1), .int .i64 ((p : Int) + 2), .pointer (some ⟨B5_1, 4, none⟩), .slice SA bs.length sc, .slice RA m RC, .int .i64 ((p : Int) + 1), .pointer (some ((ad RA).add ((p + 1) * 6))), .pointer (some ((ad RA).add ((p + 1) * 6 + 0))), .int .i64 ((vs.getD (p + 1) p0).1), .int .i64 (standF bs ((vs.getD (p + 1) p0).1)), .bool ((standF bs ((vs.getD (p + 1) p0).1)) != 2), (u45_.getD 16 undef), (u45_.getD 17 undef), (u45_.getD 18 undef), (u45_.getD 19 undef), (u45_.getD 20 undef), (u45_.getD 21 undef), (u45_.getD 22 undef), (u45_.getD 23 undef), (u45_.getD 24 undef), (u45_.getD 25 undef), (u45_.getD 26 undef), (u45_.getD 27 undef), (u45_.getD 28 undef), (u45_.getD 29 undef), (u45_.getD 30 undef), (u45_.getD 31 undef), (u45_.getD 32 undef), (u45_.getD 33 undef), (u45_.getD 34 undef), (u45_.getD 35 undef), (u45_.getD 36 undef), (u45_.getD 37 undef), (u45_.getD 38 undef), (u45_.getD 39 undef)], by omega, wh_skip (by omega) hW hs50p, rfl, rfl, hp52⟩
    have hs50p : (standF bs ((vs.getD (p + 1) p0).1)) = 2 := by simpa using hs50
    refine wp_cond_false (show Act.eval _ _ = .bool false from (congrArg Value.bool hs50)) ?_
    refine wp_skip ?_
    refine then_normal ?_
    refine wp_seq ?_
    refine wp_region_T [0, 1, 0, 0, 12, 28, 60, 0, 128, 384, 1023, 2047] [[], [2], [], [], [3], [], [3], [], [2], [], [0]] [] [] [.k 108 (.pointer (some ⟨B5_1, 0, none⟩)), .c 109 (.agg #[.int .i64 h1, .slice A20_3 ((ls.take 60).length) c20_3]), .k 110 (.slice RA m RC), .k 111 (.int .i64 ((p : Int) + 1)), .c 112 (.pointer (some ((ad RA).add ((p + 1) * 6)))), .c 113 (.pointer (some ((ad RA).add ((p + 1) * 6 + 0)))), .c 114 (.int .i64 ((vs.getD (p + 1) p0).1)), .k 115 (.pointer (some ⟨B5_1, 4, none⟩)), .c 116 (.slice SA bs.length sc), .c 117 (.iface 43 (.slice SA bs.length sc)), .c 118 (.bool (endedF h1 (ls.take 60) (standF bs) ((vs.getD (p + 1) p0).1))), .k 17 (.bool (endedF h1 (ls.take 60) (standF bs) ((vs.getD (p + 1) p0).1)))] (fun _ _ _ _ => True) [0, 1, 2, 3] [1, 4, 5, 6, 8, 9, 10] [(17, 11, 1, 18), (90, 0, 11, 101)] hst49 ?_ ?_ ?_
    · exact fun _ _ _ _ _ _ _ _ _ _ h => h
    · refine ⟨?_, ?_, ?_, ?_, ?_, ?_, ?_, trivial⟩
      · exact s4 rfl (fun _ _ _ h => h) fun cx => run_loadB (n := 2) rfl (by kernel_rfl) (by kernel_rfl) (cx.anc 0 rfl) (cx.blk (cx.init 2 _ rfl) rfl) (Nat.le_of_ble_eq_true rfl) rfl
      · exact s4 rfl (fun _ _ _ h => h) fun cx => run_indexSlM (e := 27) (m := p + 1) (sz := 6) rfl (by kernel_rfl) (by kernel_rfl) (cx.anc 2 rfl) (cx.anc 3 rfl) (by omega) (by omega) (At.of_ownN (cx.row (cx.init 3 _ rfl) rfl)) (by have h_ := flatLen (f := cellsP) (sz := 6) cellsP_len vs; show 0 < (List.flatMap cellsP vs).length; omega)
      · exact s4 rfl (fun _ _ _ h => h) fun cx => run_fieldAd rfl (by kernel_rfl) (cx.anc 4 rfl)
      · exact s4 rfl (fun _ _ _ h => h) fun cx => run_load1 rfl (by kernel_rfl) (cx.anc 5 rfl) (At.eltc (f := cellsP) (k := 0) cellsP_len (At.of_ownN (cx.row (cx.init 3 _ rfl) rfl)) (getD_some (ts := vs) (m := (p + 1)) p0 (by omega)) rfl)
      · exact s4 rfl (fun _ _ _ h => h) fun cx => run_load1 rfl (by kernel_rfl) (cx.anc 7 rfl) ((cx.blk (cx.init 2 _ rfl) rfl).cell 4)
      · exact sv0 rfl rfl rfl rfl rfl (fun _ _ _ h => h) fun ρ β W X cx => by
          have fF116 : ρ (.tmp 116) = .slice SA bs.length sc := (cx.anc 8 rfl)
          simp [go_sem, fF116]
      · exact sv_call rfl rfl rfl rfl rfl (fun _ _ _ h => h) fun ρ β W X cx => ⟨_, _, run_callF (args := #[.agg #[.int .i64 h1, .slice A20_3 ((ls.take 60).length) c20_3], .int .i64 ((vs.getD (p + 1) p0).1), .iface 43 (.slice SA bs.length sc)]) rfl cx.sees rfl (by kernel_rfl) (map3 (cx.anc 1 rfl) (cx.anc 6 rfl) (cx.anc 9 rfl)), cended_any _ _ _ (ls.take 60) _ _ _ _ _ (At.of_own (cx.row (cx.init 0 _ rfl) rfl)) (by first | omega | decide | (simp; done) | (simp; omega)) (stand_ok _ _ _ bs _ (rfl) (hSA.ext cx.upd.to_ext) hbs)⟩
    intro σ β X W53 hD hX hst53 fr hfr
    simp only [zM, exq 0 (hX 0 _ rfl), exq 1 (hX 1 _ rfl), exq 2 (hX 2 _ rfl), exq 3 (hX 3 _ rfl)] at hst53
    dsimp only [mgT, vals, List.take, List.drop, List.cons_append, List.nil_append] at hfr
    clear hX hD; subst hfr; clear σ β X
    refine then_normal ?_
    refine wp_seq ?_
    refine wp_region_T [0, 1, 3, 7, 15, 31, 63, 127, 255] [] [] [] [.k 119 (.bool wv), .k 120 (.bool wv), .z 121 wv (.bool ov), .z 122 wv (.bool ov), .z 123 (wv && ov) (.bool (endedF h1 (ls.take 60) (standF bs) ((vs.getD (p + 1) p0).1))), .y 124 wv (.bool (ov && (endedF h1 (ls.take 60) (standF bs) ((vs.getD (p + 1) p0).1)))), .z 125 wv (.bool (!(ov && (endedF h1 (ls.take 60) (standF bs) ((vs.getD (p + 1) p0).1))))), tA 126 wv (!(ov && (endedF h1 (ls.take 60) (standF bs) ((vs.getD (p + 1) p0).1)))), .k 14 (.bool (wv && (!(ov && (endedF h1 (ls.take 60) (standF bs) ((vs.getD (p + 1) p0).1))))))] (fun _ _ _ _ => True) [0, 1, 2, 3] [5] [(14, 8, 1, 15), (104, 0, 8, 112)] hst53 ?_ ?_ ?_
    · exact fun _ _ _ _ _ _ _ _ _ _ h => h
    · refine ⟨?_, trivial⟩
      · exact m2 rfl (fun _ _ _ h => h) (fun cx => (cx.anc 1 rfl)) fun cx hq => run_pick_and rfl (mbv (cx.anc 3 rfl) hq) (cx.anc 4 rfl) (fun e_ => by rw [hq, e_]; rfl) (cx.sees.const _)
    intro σ β X W54 hD hX hst54 fr hfr
    simp only [zM, exq 0 (hX 0 _ rfl), exq 1 (hX 1 _ rfl), exq 2 (hX 2 _ rfl), exq 3 (hX 3 _ rfl)] at hst54
    dsimp only [mgT, vals, List.take, List.drop, List.cons_append, List.nil_append] at hfr
    clear hX hD; subst hfr; clear σ β X
    refine then_normal ?_
    refine wp_region_P [0, 1, 3, 7, 15, 31] [.k 127 (.bool ov), .k 128 (.bool ov), .z 129 (!ov) (.bool (endedF h1 (ls.take 60) (standF bs) ((vs.getD (p + 1) p0).1))), .z 130 (!ov) (.bool (!(endedF h1 (ls.take 60) (standF bs) ((vs.getD (p + 1) p0).1)))), tO 131 ov (!(endedF h1 (ls.take 60) (standF bs) ((vs.getD (p + 1) p0).1))), .k 15 (.bool (ov || (!(endedF h1 (ls.take 60) (standF bs) ((vs.getD (p + 1) p0).1)))))] [(15, 5, 1, 16), (111, 0, 5, 116)] hst54 fun W55 hst55 => ?_
    refine blk_normal ?_
    refine then_normal ?_
    refine wp_region_P [0, 1, 3] [.k 97 (.int .i64 ((p : Int) + 1)), tJ 98 (((p : Int) + 1) + 1) ((p : Int) + 2) (by omega) (by omega), .k 16 (.int .i64 ((p : Int) + 2))] [(16, 2, 1, 17), (80, 0, 2, 82)] hst55 fun W56 hst56 => ?_
    refine then_normal ?_
    refine ⟨m - ((p + 1)), by omega, ?_⟩
    have hp57 := hst56.pick [0, 1, 2, 3] (by decide) rfl
    exact ⟨(p + 1), (wv && (!(ov && (endedF h1 (ls.take 60) (standF bs) ((vs.getD (p + 1) p0).1))))), (ov || (!(endedF h1 (ls.take 60) (standF bs) ((vs.getD (p + 1) p0).1)))), [.bool (endedF h1 (ls.take 60) (standF bs) ((vs.getD (p + 1) p0).1)), .int .i64 ((p : Int) + 1), .slice RA m RC, .int .i64 ((m : Int)), .bool (decide ((p : Int) + 1 < (m : Int))), .int .i64 ((p : Int) + 1), .int .i64 ((p : Int) + 2), .pointer (some ⟨B5_1, 4, none⟩), .slice SA bs.length sc, .slice RA m RC, .int .i64 ((p : Int) + 1), .pointer (some ((ad RA).add ((p + 1) * 6))), .pointer (some ((ad RA).add ((p + 1) * 6 + 0))), .int .i64 ((vs.getD (p + 1) p0).1), .int .i64 (standF bs ((vs.getD (p + 1) p0).1)), .bool ((standF bs ((vs.getD (p + 1) p0).1)) != 2), .pointer (some ⟨B5_1, 0, none⟩), .agg #[.int .i64 h1, .slice A20_3 ((ls.take 60).length) c20_3], .slice RA m RC, .int .i64 ((p : Int) + 1), .pointer (some ((ad RA).add ((p + 1) * 6))), .pointer (some ((ad RA).add ((p + 1) * 6 + 0))), .int .i64 ((vs.getD (p + 1) p0).1), .pointer (some ⟨B5_1, 4, none⟩), .slice SA bs.length sc, .iface 43 (.slice SA bs.length sc), .bool (endedF h1 (ls.take 60) (standF bs) ((vs.getD (p + 1) p0).1)), .bool wv, .bool wv, mb wv (.bool ov), mb wv (.bool ov), mb (wv && ov) (.bool (endedF h1 (ls.take 60) (standF bs) ((vs.getD (p + 1) p0).1))), mb wv (.bool (ov && (endedF h1 (ls.take 60) (standF bs) ((vs.getD (p + 1) p0).1)))), mb wv (.bool (!(ov && (endedF h1 (ls.take 60) (standF bs) ((vs.getD (p + 1) p0).1))))), .bool (wv && (!(ov && (endedF h1 (ls.take 60) (standF bs) ((vs.getD (p + 1) p0).1))))), .bool ov, .bool ov, mb (!ov) (.bool (endedF h1 (ls.take 60) (standF bs) ((vs.getD (p + 1) p0).1))), mb (!ov) (.bool (!(endedF h1 (ls.take 60) (standF bs) ((vs.getD (p + 1) p0).1)))), .bool (ov || (!(endedF h1 (ls.take 60) (standF bs) ((vs.getD (p + 1) p0).1))))], by omega, wh_next (by omega) hW hs50p (by simp) (by simp), rfl, rfl, hp57⟩
  have hs48p : ¬ ((p : Int) + 1 < (m : Int)) := by simpa using hs48
  refine wp_cond_false (show Act.eval _ _ = .bool false from (congrArg Value.bool hs48)) ?_
  refine wp_exit ?_
  refine then_exit ?_
  refine then_exit ?_
  refine blk_eq ?_
  refine then_normal ?_
  refine wp_seq ?_
  have hmv : mm = manyF h1 (ls.take 60) (standF bs) vs := by rw [hmm, List.take_of_length_le (l := vs) (by omega)]
  have hwv : whF h1 (ls.take 60) (standF bs) (vs.drop 1) (true, false) = (wv, ov) := by rw [← hW, List.take_of_length_le (l := vs.drop 1) (by rw [List.length_drop]; omega)]
  have hfin := chain_end (by rw [standF, if_pos rfl]) (by rw [standF, if_neg (by decide), if_pos (.inl (by decide))]; decide) hok hwv hmv
  have hd59 : (((mm : Int) == 1) || (!(wv))) = true := hfin
  refine wp_region_P [0, 1, 3, 7, 15, 31, 63, 127, 255, 511] [.k 132 (.bool true), .k 133 (.bool true), .k 134 (.int .i64 ((mm : Int))), .k 135 (.bool ((mm : Int) == 1)), .k 136 (.bool ((mm : Int) == 1)), .z 137 (!((mm : Int) == 1)) (.bool wv), .z 138 (!((mm : Int) == 1)) (.bool (!(wv))), tOk' 139 ((mm : Int) == 1) (!(wv)) true hd59, .k 140 (.bool true), .k 6 (.bool true)] [(6, 9, 1, 7), (125, 0, 9, 134)] hst47 fun W58 hst58 => ?_
  refine then_normal ?_
  refine wp_ret ?_
  refine bodyPost_ret (v := .bool true) (by simp [results, Tryd.results6, go_sem]) rfl ?_
  exact Ret.of rfl hst58.ext

end Go.Proofs.YtfjpglohcppjeaaDoor

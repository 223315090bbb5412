/- tuple.Bytes. -/
import Derived.Test.YtfjpglohcppjeaaDoorT10
namespace Go.Proofs.YtfjpglohcppjeaaDoor
open Go.RowKit
set_option linter.unusedVariables false
set_option linter.unusedSimpArgs false
theorem textO_size {s : ByteArray} (h : s.size ≤ 301) : (textO s).size ≤ 303 := by
  have := putS_size (s.size : Int) 2 (by omega)
  rw [textO, ByteArray.size_append, this]; omega
set_option maxRecDepth 100000 in
set_option maxHeartbeats 2000000 in
theorem tbytes_any (a b n1 n2 : Int) (ho : Bool) (RA : Option Addr) (rc : Nat) (r : List Val) (w : World) (hA : At w RA (flatR r)) (hlr : r.length ≤ 9223372036854775807) (hN : NoneAt w) :
    Calls Tryd.prog 16 #[.agg #[.int .i64 a, .int .i64 b, .int .i64 n1, .int .i64 n2, .bool ho, .slice RA r.length rc]] w (Ret (.string (tbytesF a b n1 n2 ho r)) w) := by
  go_enter Tryd.func16, Tryd.ntmps16
  have hst0 := St.start w
  refine wp_seq ?_
  refine wp_region_T [0, 0] [] [[0]] [] [.a 1, .k 2 (.string ⟨#[]⟩)] (fun ix σ β X => match ix with | 0 => σ 1 = .pointer (some ⟨(pb (β 1)), 0, none⟩) ∧ X 0 = eB (pb (β 1)) 27 #[.int .i64 a, .int .i64 b, .int .i64 n1, .int .i64 n2, .bool ho, .slice RA r.length rc] | _ => True) [0] [0] [(1, 0, 2, 3)] hst0 ?_ ?_ ?_
  · exact fun ix _ _ _ _ _ _ hs hb hx h => match ix, h with
    | 0, h => by dsimp only at h ⊢; rw [← hs 1 rfl, ← hb 1 rfl, ← hx 0 rfl]; exact h
    | _ + 1, _ => trivial
  · refine ⟨?_, trivial⟩
    · refine sv_any rfl rfl fun ρ β W X cx => ?_
      exact dv_box (cs := #[.int .i64 a, .int .i64 b, .int .i64 n1, .int .i64 n2, .bool ho, .slice RA r.length rc]) rfl (cx.out 0 rfl) rfl rfl rfl (fun σ β' X' hs hb hv hx => ⟨hv, hx⟩)
  intro σ β X W1 hD hX hst1 fr hfr
  obtain ⟨B1_1, hu_B1_1⟩ : ∃ z, pb (β 1) = z := ⟨_, rfl⟩
  simp only [zM, exq 0 ((dTn (hD 0 lq)).2), hu_B1_1] at hst1
  dsimp only [mgT, vals, List.take, List.drop, List.cons_append, List.nil_append] at hfr
  simp only [ed 1 ((dTn (hD 0 lq)).1), hu_B1_1] at hfr
  clear hX hD hu_B1_1; subst hfr; clear σ β X
  refine then_normal ?_
  refine wp_seq ?_
  refine wp_seq ?_
  refine wp_region_T [0, 1, 3] [[0]] [] [] [.c 4 (.agg #[.int .i64 a, .int .i64 b, .int .i64 n1, .int .i64 n2, .bool ho, .slice RA r.length rc]), .c 5 (.bool (trightF a b n1 n2 r)), .k 6 (.bool (!(trightF a b n1 n2 r)))] (fun _ _ _ _ => True) [0] [0, 1] [(4, 0, 3, 7)] hst1 ?_ ?_ ?_
  · exact fun _ _ _ _ _ _ _ _ _ _ h => h
  · refine ⟨?_, ?_, trivial⟩
    · exact s4 rfl (fun _ _ _ h => h) fun cx => run_loadB (n := 6) rfl (by kernel_rfl) (by kernel_rfl) (cx.out 1 rfl) (cx.blk (cx.init 0 _ rfl) rfl) (Nat.le_of_ble_eq_true rfl) rfl
    · exact sv_call rfl rfl rfl rfl rfl (fun _ _ _ h => h) fun ρ β W X cx => ⟨_, _, run_callF (args := #[.agg #[.int .i64 a, .int .i64 b, .int .i64 n1, .int .i64 n2, .bool ho, .slice RA r.length rc]]) rfl cx.sees rfl (by kernel_rfl) (map1 (cx.anc 0 rfl)), tright_any a b n1 n2 _ _ _ r _ (hA.ext cx.upd.to_ext) (by omega) (hN.ext cx.upd.to_ext)⟩
  intro σ β X W2 hD hX hst2 fr hfr
  simp only [zM, exq 0 (hX 0 _ rfl)] at hst2
  dsimp only [mgT, vals, List.take, List.drop, List.cons_append, List.nil_append] at hfr
  clear hX hD; subst hfr; clear σ β X
  refine then_normal ?_
  rcases Bool.eq_false_or_eq_true (trightF a b n1 n2 r) with hs3 | hs3
  · skip
    refine wp_cond_false (show Act.eval _ _ = .bool false from (congrArg Value.bool (by rw [hs3]; rfl))) ?_
    refine wp_skip ?_
    refine then_normal ?_
    refine wp_seq ?_
    refine wp_region_P [0] [.k 3 (.int .i64 0)] [(3, 0, 1, 4)] hst2 fun W4 hst4 => ?_
    refine then_normal ?_
    refine wp_cut (fun az W => ∃ u5_ : List Value, True ∧ az = ⟨#[.agg #[.int .i64 a, .int .i64 b, .int .i64 n1, .int .i64 n2, .bool ho, .slice RA r.length rc], .pointer (some ⟨B1_1, 0, none⟩), .string ⟨#[]⟩, .int .i64 (hotI ho), .agg #[.int .i64 a, .int .i64 b, .int .i64 n1, .int .i64 n2, .bool ho, .slice RA r.length rc], .bool (trightF a b n1 n2 r), .bool (!(trightF a b n1 n2 r)), (u5_.getD 0 undef), (u5_.getD 1 undef), undef, undef, undef, undef, undef, undef, undef, undef, undef, undef, undef, undef, undef, undef, undef, undef, undef, undef, undef, undef, undef, undef, undef], []⟩ ∧ St w [] [eB B1_1 27 #[.int .i64 a, .int .i64 b, .int .i64 n1, .int .i64 n2, .bool ho, .slice RA r.length rc]] W) ?_ ?_
    · skip
      refine wp_seq ?_
      refine wp_region_T [0, 1] [[], [0]] [] [] [.k 7 (.pointer (some ⟨B1_1, 4, none⟩)), .c 8 (.bool ho)] (fun _ _ _ _ => True) [0] [1] [(7, 0, 2, 9)] hst4 ?_ ?_ ?_
      · exact fun _ _ _ _ _ _ _ _ _ _ h => h
      · refine ⟨?_, trivial⟩
        · exact s4 rfl (fun _ _ _ h => h) fun cx => run_load1 rfl (by kernel_rfl) (cx.anc 0 rfl) ((cx.blk (cx.init 0 _ rfl) rfl).cell 4)
      intro σ β X W6 hD hX hst6 fr hfr
      simp only [zM, exq 0 (hX 0 _ rfl)] at hst6
      dsimp only [mgT, vals, List.take, List.drop, List.cons_append, List.nil_append] at hfr
      clear hX hD; subst hfr; clear σ β X
      refine then_normal ?_
      rcases Bool.eq_false_or_eq_true (ho) with hs7 | hs7
      · skip
        refine wp_cond_true (show Act.eval _ _ = .bool true from (congrArg Value.bool hs7)) ?_
        refine wp_region_P [0] [.k 3 (.int .i64 1)] [(3, 0, 1, 4)] hst6 fun W8 hst8 => ?_
        refine then_normal ?_
        have hj : hotI ho = 1 := by simp [hotI, hs3, hs7]
        have hp9 := hst8.pick [0] (by decide) rfl
        exact ⟨[.pointer (some ⟨B1_1, 4, none⟩), .bool ho], trivial, by rw [hj]; rfl, hp9⟩
      refine wp_cond_false (show Act.eval _ _ = .bool false from (congrArg Value.bool hs7)) ?_
      refine wp_skip ?_
      refine then_normal ?_
      have hj : hotI ho = 0 := by simp [hotI, hs3, hs7]
      have hp10 := hst6.pick [0] (by decide) rfl
      exact ⟨[.pointer (some ⟨B1_1, 4, none⟩), .bool ho], trivial, by rw [hj]; rfl, hp10⟩
    rintro a5 W5 ⟨u5_, -, rfl, hst5⟩
    refine wp_seq ?_
    have htr := hs3
    obtain ⟨t1, t2, t3, t4, t5, t6, t7, t8, t9⟩ := tright_parts htr
    have hvs := vbytes_size r
    have hjs : ∀ s ∈ [putS a 1, putS b 1, putS (n1 + 1) 2, putS n2 1, putS (hotI ho) 1, textO (vbytesF r)], s.size ≤ 1000000 := by
      intro s hs
      simp only [List.mem_cons, List.not_mem_nil, or_false] at hs
      have h1 := textO_size hvs
      rcases hs with rfl | rfl | rfl | rfl | rfl | rfl
      · rw [putS_size _ _ (by omega)]; omega
      · rw [putS_size _ _ (by omega)]; omega
      · rw [putS_size _ _ (by omega)]; omega
      · rw [putS_size _ _ (by omega)]; omega
      · rw [putS_size _ _ (by omega)]; omega
      · omega
    refine wp_region_T [0, 1, 3, 0, 8, 31, 0, 64, 192, 448, 1023, 0, 2048, 6144, 16383, 0, 65535, 0, 131072, 524287, 1048575, 2097151, 4194303, 8388607] [[], [0], [], [], [0], [], [], [], [0], [], [], [], [], [0], [], [], [], [], [0], [], [], [], [1]] [[], [], [], [], [], [], [], [], [], [], [], [], [], [], [], [], [], [], [], [], [], [1]] [] [.k 9 (.pointer (some ⟨B1_1, 0, none⟩)), .c 10 (.int .i64 a), .c 11 (.string (putS a 1)), .k 12 (.pointer (some ⟨B1_1, 1, none⟩)), .c 13 (.int .i64 b), .c 14 (.string (putS b 1)), .k 15 (.pointer (some ⟨B1_1, 2, none⟩)), .k 16 (.pointer (some ⟨B1_1, 2, none⟩)), .c 17 (.int .i64 n1), tI 18 (n1 + 1) (by omega), .c 19 (.string (putS (n1 + 1) 2)), .k 20 (.pointer (some ⟨B1_1, 2, none⟩)), .k 21 (.pointer (some ⟨B1_1, 3, none⟩)), .c 22 (.int .i64 n2), .c 23 (.string (putS n2 1)), .k 24 (.int .i64 (hotI ho)), .c 25 (.string (putS (hotI ho) 1)), .k 26 (.pointer (some ⟨B1_1, 5, none⟩)), .c 27 (.slice RA r.length rc), .c 28 (.string (vbytesF r)), .c 29 (.string (textO (vbytesF r))), .a 30, .c 31 (.string (catS [(putS a 1), (putS b 1), (putS (n1 + 1) 2), (putS n2 1), (putS (hotI ho) 1), (textO (vbytesF r))])), .k 2 (.string (catS [(putS a 1), (putS b 1), (putS (n1 + 1) 2), (putS n2 1), (putS (hotI ho) 1), (textO (vbytesF r))]))] (fun ix σ β X => match ix with | 0 => True | 1 => True | 2 => True | 3 => True | 4 => True | 5 => True | 6 => True | 7 => True | 8 => True | 9 => True | 10 => True | 11 => True | 12 => True | 13 => True | 14 => True | 15 => True | 16 => True | 17 => True | 18 => True | 19 => True | 20 => True | 21 => σ 30 = .slice (sA (β 30)) 6 6 ∧ X 1 = eO 9 1 (.slice (sA (β 30)) 6 6) 6 ([.string (putS a 1), .string (putS b 1), .string (putS (n1 + 1) 2), .string (putS n2 1), .string (putS (hotI ho) 1), .string (textO (vbytesF r))]) | _ => True) [0, 1] [1, 2, 4, 5, 8, 10, 13, 14, 16, 18, 19, 20, 21, 22] [(2, 23, 1, 3), (6, 0, 23, 29)] hst5 ?_ ?_ ?_
    · exact fun ix _ _ _ _ _ _ hs hb hx h => match ix, h with
      | 21, h => by dsimp only at h ⊢; rw [← hs 30 rfl, ← hb 30 rfl, ← hx 1 rfl]; exact h
      | 0, _ | 1, _ | 2, _ | 3, _ | 4, _ | 5, _ | 6, _ | 7, _ | 8, _ | 9, _ | 10, _ | 11, _ | 12, _ | 13, _ | 14, _ | 15, _ | 16, _ | 17, _ | 18, _ | 19, _ | 20, _ | _ + 22, _ => trivial
    · refine ⟨?_, ?_, ?_, ?_, ?_, ?_, ?_, ?_, ?_, ?_, ?_, ?_, ?_, ?_, trivial⟩
      · exact s4 rfl (fun _ _ _ h => h) fun cx => run_load1 rfl (by kernel_rfl) (cx.anc 0 rfl) ((cx.blk (cx.init 0 _ rfl) rfl).cell 0)
      · exact sv_call rfl rfl rfl rfl rfl (fun _ _ _ h => h) fun ρ β W X cx => ⟨_, _, run_callF (args := #[.int .i64 a, .int .i64 1]) rfl cx.sees rfl (by kernel_rfl) (map2 (cx.anc 1 rfl) (cx.sees.const _)), oput1_any a _⟩
      · exact s4 rfl (fun _ _ _ h => h) fun cx => run_load1 rfl (by kernel_rfl) (cx.anc 3 rfl) ((cx.blk (cx.init 0 _ rfl) rfl).cell 1)
      · exact sv_call rfl rfl rfl rfl rfl (fun _ _ _ h => h) fun ρ β W X cx => ⟨_, _, run_callF (args := #[.int .i64 b, .int .i64 1]) rfl cx.sees rfl (by kernel_rfl) (map2 (cx.anc 4 rfl) (cx.sees.const _)), oput1_any b _⟩
      · exact s4 rfl (fun _ _ _ h => h) fun cx => run_load1 rfl (by kernel_rfl) (cx.anc 7 rfl) ((cx.blk (cx.init 0 _ rfl) rfl).cell 2)
      · exact sv_call rfl rfl rfl rfl rfl (fun _ _ _ h => h) fun ρ β W X cx => ⟨_, _, run_callF (args := #[.int .i64 (n1 + 1), .int .i64 2]) rfl cx.sees rfl (by kernel_rfl) (map2 (cx.anc 9 rfl) (cx.sees.const _)), oput2_any (n1 + 1) _⟩
      · exact s4 rfl (fun _ _ _ h => h) fun cx => run_load1 rfl (by kernel_rfl) (cx.anc 12 rfl) ((cx.blk (cx.init 0 _ rfl) rfl).cell 3)
      · exact sv_call rfl rfl rfl rfl rfl (fun _ _ _ h => h) fun ρ β W X cx => ⟨_, _, run_callF (args := #[.int .i64 n2, .int .i64 1]) rfl cx.sees rfl (by kernel_rfl) (map2 (cx.anc 13 rfl) (cx.sees.const _)), oput1_any n2 _⟩
      · exact sv_call rfl rfl rfl rfl rfl (fun _ _ _ h => h) fun ρ β W X cx => ⟨_, _, run_callF (args := #[.int .i64 (hotI ho), .int .i64 1]) rfl cx.sees rfl (by kernel_rfl) (map2 (cx.anc 15 rfl) (cx.sees.const _)), oput1_any (hotI ho) _⟩
      · exact s4 rfl (fun _ _ _ h => h) fun cx => run_load1 rfl (by kernel_rfl) (cx.anc 17 rfl) ((cx.blk (cx.init 0 _ rfl) rfl).cell 5)
      · exact sv_call rfl rfl rfl rfl rfl (fun _ _ _ h => h) fun ρ β W X cx => ⟨_, _, run_callF (args := #[.slice RA r.length rc]) rfl cx.sees rfl (by kernel_rfl) (map1 (cx.anc 18 rfl)), vbytes_any _ _ r _ (hA.ext cx.upd.to_ext) (by omega)⟩
      · exact sv_call rfl rfl rfl rfl rfl (fun _ _ _ h => h) fun ρ β W X cx => ⟨_, _, run_callF (args := #[.string (vbytesF r)]) rfl cx.sees rfl (by kernel_rfl) (map1 (cx.anc 19 rfl)), otext_any (vbytesF r) _ (by omega)⟩
      · refine sv_any rfl rfl fun ρ β W X cx => ?_
        have fF11 : ρ (.tmp 11) = .string (putS a 1) := (cx.anc 2 rfl)
        have fF14 : ρ (.tmp 14) = .string (putS b 1) := (cx.anc 5 rfl)
        have fF19 : ρ (.tmp 19) = .string (putS (n1 + 1) 2) := (cx.anc 10 rfl)
        have fF23 : ρ (.tmp 23) = .string (putS n2 1) := (cx.anc 14 rfl)
        have fF25 : ρ (.tmp 25) = .string (putS (hotI ho) 1) := (cx.anc 16 rfl)
        have fF29 : ρ (.tmp 29) = .string (textO (vbytesF r)) := (cx.anc 20 rfl)
        exact dv_lit (e := 9) (xs := [.string (putS a 1), .string (putS b 1), .string (putS (n1 + 1) 2), .string (putS n2 1), .string (putS (hotI ho) 1), .string (textO (vbytesF r))]) rfl (by simp [go_sem, fF11, fF14, fF19, fF23, fF25, fF29]) rfl (by decide) rfl rfl (fun σ β' X' hs hb hv hx => ⟨hv, hx⟩)
      · exact sv_call rfl rfl rfl rfl rfl (fun _ _ _ h => h) fun ρ β W X cx => ⟨_, _, run_callF (args := #[.slice (sA (β 30)) 6 6, .string ⟨#[]⟩]) rfl cx.sees rfl (by kernel_rfl) (map2 (dTn (cx.anc 21 rfl)).1 (cx.sees.const _)), join_any _ [(putS a 1), (putS b 1), (putS (n1 + 1) 2), (putS n2 1), (putS (hotI ho) 1), (textO (vbytesF r))] _ (cx.row (dTn (cx.anc 21 rfl)).2 rfl) (by simp) hjs (by simp)⟩
    intro σ β X W11 hD hX hst11 fr hfr
    obtain ⟨A30_11, hu_A30_11⟩ : ∃ z, sA (β 30) = z := ⟨_, rfl⟩
    simp only [zM, exq 0 (hX 0 _ rfl), exq 1 ((dTn (hD 21 lq)).2), hu_A30_11] at hst11
    dsimp only [mgT, vals, List.take, List.drop, List.cons_append, List.nil_append] at hfr
    simp only [ed 30 ((dTn (hD 21 lq)).1), hu_A30_11] at hfr
    clear hX hD hu_A30_11; subst hfr; clear σ β X
    refine then_normal ?_
    refine wp_ret ?_
    refine bodyPost_ret (v := .string (catS [(putS a 1), (putS b 1), (putS (n1 + 1) 2), (putS n2 1), (putS (hotI ho) 1), (textO (vbytesF r))])) (results_tmp Tryd.results16 rfl) rfl ?_
    exact Ret.of (by rw [tbytesF, if_pos htr]) hst11.ext
  refine wp_cond_true (show Act.eval _ _ = .bool true from (congrArg Value.bool (by rw [hs3]; rfl))) ?_
  refine wp_seq ?_
  refine wp_region_P [0] [.k 2 (.string ⟨#[]⟩)] [(2, 0, 1, 3)] hst2 fun W12 hst12 => ?_
  refine then_normal ?_
  refine wp_ret ?_
  refine then_ret ?_
  refine bodyPost_ret (v := .string ⟨#[]⟩) (results_tmp Tryd.results16 rfl) rfl ?_
  exact Ret.of (by rw [tbytesF, hs3]; rfl) hst12.ext

end Go.Proofs.YtfjpglohcppjeaaDoor

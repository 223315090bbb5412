/- value.Bytes. -/
import Derived.Test.YtfjpglohcppjeaaDoorT9
namespace Go.Proofs.YtfjpglohcppjeaaDoor
open Go.RowKit
set_option linter.unusedVariables false
set_option linter.unusedSimpArgs false
set_option maxRecDepth 100000 in
set_option maxHeartbeats 2000000 in
theorem vbytes_any (RA : Option Addr) (rc : Nat) (r : List Val) (w : World) (hA : At w RA (flatR r)) (hlr : r.length ≤ 9223372036854775807) :
    Calls Tryd.prog 59 #[.slice RA r.length rc] w (Ret (.string (vbytesF r)) w) := by
  go_enter Tryd.func59, Tryd.ntmps59
  have hst0 := St.start w
  refine wp_seq ?_
  refine wp_region_P [0] [.k 2 (.string ⟨#[]⟩)] [(2, 0, 1, 3)] hst0 fun W1 hst1 => ?_
  refine then_normal ?_
  refine wp_seq ?_
  refine wp_seq ?_
  refine wp_region_T [0, 1, 3] [] [] [] [.k 6 (.slice RA r.length rc), .c 7 (.bool (rrightF r)), .k 8 (.bool (!(rrightF r)))] (fun _ _ _ _ => True) [] [1] [(6, 0, 3, 9)] hst1 ?_ ?_ ?_
  · exact fun _ _ _ _ _ _ _ _ _ _ h => h
  · refine ⟨?_, trivial⟩
    · exact sv_call rfl rfl rfl rfl rfl (fun _ _ _ h => h) fun ρ β W X cx => ⟨_, _, run_callF (args := #[.slice RA r.length rc]) rfl cx.sees rfl (by kernel_rfl) (map1 (cx.anc 0 rfl)), vrow_any _ _ r _ (hA.ext cx.upd.to_ext) (by omega)⟩
  intro σ β X W2 hD hX hst2 fr hfr
  simp only [zM] at hst2
  dsimp only [mgT, vals, List.take, List.drop, List.cons_append, List.nil_append] at hfr
  clear hX hD; subst hfr; clear σ β X
  refine then_normal ?_
  rcases Bool.eq_false_or_eq_true (rrightF r) with hs3 | hs3
  · skip
    refine wp_cond_false (show Act.eval _ _ = .bool false from (congrArg Value.bool (by rw [hs3]; rfl))) ?_
    refine wp_skip ?_
    refine then_normal ?_
    refine wp_seq ?_
    have hr6 := rright_len hs3
    have hR := Lib.hid hs3
    refine wp_region_T [0] [] [[0]] [] [.a 3] (fun ix σ β X => match ix with | 0 => σ 3 = .pointer (some ⟨(pb (β 3)), 0, none⟩) ∧ X 0 = eB (pb (β 3)) 143 #[.pointer none, .slice none 0 0] | _ => True) [0] [0] [(3, 0, 1, 4)] hst2 ?_ ?_ ?_
    · exact fun ix _ _ _ _ _ _ hs hb hx h => match ix, h with
      | 0, h => by dsimp only at h ⊢; rw [← hs 3 rfl, ← hb 3 rfl, ← hx 0 rfl]; exact h
      | _ + 1, _ => trivial
    · refine ⟨?_, trivial⟩
      · refine sv_any rfl rfl fun ρ β W X cx => ?_
        exact dv_alloc (cs := #[.pointer none, .slice none 0 0]) rfl (by kernel_rfl) rfl rfl (fun σ β' X' hs hb hv hx => ⟨hv, hx⟩)
    intro σ β X W4 hD hX hst4 fr hfr
    obtain ⟨B3_4, hu_B3_4⟩ : ∃ z, pb (β 3) = z := ⟨_, rfl⟩
    simp only [zM, exq 0 ((dTn (hD 0 lq)).2), hu_B3_4] at hst4
    dsimp only [mgT, vals, List.take, List.drop, List.cons_append, List.nil_append] at hfr
    simp only [ed 3 ((dTn (hD 0 lq)).1), hu_B3_4] at hfr
    clear hX hD hu_B3_4; subst hfr; clear σ β X
    refine then_normal ?_
    refine wp_seq ?_
    refine wp_region_T [0, 1, 3, 7] [[], [], [], [0]] [[], [], [], [1]] [[], [], [], [0]] [.k 9 (.slice RA r.length rc), .k 10 (.int .i64 ((r.length : Int))), tW 11 .u8 (r.length : Int) (r.length : Int) (IntWalk.u8_in _ (by omega)), .a 12] (fun ix σ β X => match ix with | 0 => True | 1 => True | 2 => True | 3 => σ 12 = .nilIface ∧ X 1 = eBu B3_4 (rO (X 1)) [UInt8.ofNat (r.length : Int).toNat] | _ => True) [1] [3] [(9, 0, 4, 13)] hst4 ?_ ?_ ?_
    · exact fun ix _ _ _ _ _ _ hs hb hx h => match ix, h with
      | 3, h => by dsimp only at h ⊢; rw [← hs 12 rfl, ← hx 1 rfl]; exact h
      | 0, _ | 1, _ | 2, _ | _ + 4, _ => trivial
    · refine ⟨?_, trivial⟩
      · refine sv_any rfl rfl fun ρ β W X cx => ?_
        refine DoesU.call (run_callF (args := #[.pointer (some ⟨B3_4, 0, none⟩), .int .u8 ((r.length : Int))]) rfl cx.sees rfl (by kernel_rfl) (map2 (cx.out 3 rfl) (cx.anc 2 rfl))) ?_
        refine (sbc_l _ _ [] _ _ (SbAt.fresh (cx.blk (cx.init 0 _ rfl) rfl)) (by omega) (by (try simp only [List.length_append, List.length_cons, List.length_nil]); omega)).mono ?_
        rintro e W1 ⟨rfl, hu⟩
        refine ⟨_, rfl, post_sb (by rw [(cx.init 0 _ rfl)]; rfl) rfl rfl hu (fun σ β' X' hs hb hv hx => ?_)⟩
        exact ⟨(hv 12 rfl).1, hx⟩
    intro σ β X W5 hD hX hst5 fr hfr
    have xX1 : X 1 = _ := (dTn (hD 3 lq)).2
    obtain ⟨r1_5, hu_r1_5⟩ : ∃ z, rO (X 1) = z := ⟨_, rfl⟩
    rw [hu_r1_5] at xX1
    clear hu_r1_5
    simp only [zM, xX1] at hst5
    dsimp only [mgT, vals, List.take, List.drop, List.cons_append, List.nil_append] at hfr
    simp only [ed 12 ((dTn (hD 3 lq)).1)] at hfr
    clear hX hD xX1; subst hfr; clear σ β X
    refine then_normal ?_
    refine wp_seq ?_
    refine wp_seq ?_
    refine wp_region_P [0, 1, 0] [.k 13 (.slice RA r.length rc), .k 14 (.int .i64 ((r.length : Int))), .k 15 (.int .i64 0)] [(13, 0, 3, 16)] hst5 fun W6 hst6 => ?_
    refine then_normal ?_
    refine wp_block ?_
    refine wp_loopN (fun mz az W => ∃ k : Nat, ∃ rb : Option Nat, ∃ u7_ : List Value, k ≤ r.length ∧ mz = r.length - k ∧ az = ⟨#[.slice RA r.length rc, undef, .string ⟨#[]⟩, .pointer (some ⟨B3_4, 0, none⟩), undef, (u7_.getD 0 undef), .slice RA r.length rc, .bool (rrightF r), .bool (!(rrightF r)), .slice RA r.length rc, .int .i64 ((r.length : Int)), .int .u8 ((r.length : Int)), .nilIface, .slice RA r.length rc, .int .i64 ((r.length : Int)), .int .i64 ((k : Int)), (u7_.getD 1 undef), (u7_.getD 2 undef), (u7_.getD 3 undef), (u7_.getD 4 undef), (u7_.getD 5 undef), (u7_.getD 6 undef), (u7_.getD 7 undef), (u7_.getD 8 undef), (u7_.getD 9 undef), (u7_.getD 10 undef), (u7_.getD 11 undef), (u7_.getD 12 undef), (u7_.getD 13 undef), (u7_.getD 14 undef), (u7_.getD 15 undef), (u7_.getD 16 undef), (u7_.getD 17 undef), (u7_.getD 18 undef), (u7_.getD 19 undef), (u7_.getD 20 undef), (u7_.getD 21 undef), (u7_.getD 22 undef), (u7_.getD 23 undef), (u7_.getD 24 undef), (u7_.getD 25 undef), (u7_.getD 26 undef), (u7_.getD 27 undef), undef], []⟩ ∧ St w [] [eBu B3_4 rb (bytesTo r k)] W) (r.length - 0) ?_ ?_
    · -- the loop begins
      have hp8 := hst6.pick [0] (by decide) rfl
      exact ⟨0, r1_5, [undef, undef, undef, undef, undef, undef, undef, undef, undef, undef, undef, undef, undef, undef, undef, undef, undef, undef, undef, undef, undef, undef, undef, undef, undef, undef, undef, undef], by omega, rfl, rfl, hp8⟩
    rintro n7 a7 W7 ⟨k, rb, u7_, hkl, rfl, rfl, hst7⟩
    have hbl := bt_len hR.out k
    refine wp_seq ?_
    refine wp_region_P [0] [.k 16 (.bool (decide ((k : Int) < (r.length : Int))))] [(16, 0, 1, 17)] hst7 fun W9 hst9 => ?_
    refine then_normal ?_
    refine wp_seq ?_
    rcases Bool.eq_false_or_eq_true (decide ((k : Int) < (r.length : Int))) with hs10 | hs10
    · skip
      have hs10p : (k : Int) < (r.length : Int) := by simpa using hs10
      refine wp_cond_true (show Act.eval _ _ = .bool true from (congrArg Value.bool hs10)) ?_
      refine wp_skip ?_
      refine then_normal ?_
      refine wp_seq ?_
      refine wp_block ?_
      refine wp_seq ?_
      refine wp_region_T [0, 1, 0, 7] [[], [], [], [1]] [[], [], [1], [2]] [[], [], [], [1]] [.c 17 (.pointer (some ((ad RA).add (k * 3)))), .c 18 (.agg #[.int .i64 ((r.getD k v0).1), .int .i64 ((r.getD k v0).2.1), .string ((r.getD k v0).2.2)]), .a 5, .n] (fun ix σ β X => match ix with | 0 => True | 1 => True | 2 => σ 5 = .pointer (some ⟨(pb (β 5)), 0, none⟩) ∧ X 1 = eB (pb (β 5)) 103 #[.int .i64 0, .int .i64 0, .string ByteArray.empty] | 3 => X 2 = eB (pb (β 5)) 103 #[.int .i64 ((r.getD k v0).1), .int .i64 ((r.getD k v0).2.1), .string ((r.getD k v0).2.2)] | _ => True) [0, 2] [0, 1, 2, 3] [(5, 2, 1, 6), (11, 0, 2, 13)] hst9 ?_ ?_ ?_
      · exact fun ix _ _ _ _ _ _ hs hb hx h => match ix, h with
        | 2, h => by dsimp only at h ⊢; rw [← hs 5 rfl, ← hb 5 rfl, ← hx 1 rfl]; exact h
        | 3, h => by dsimp only at h ⊢; rw [← hb 5 rfl, ← hx 2 rfl]; exact h
        | 0, _ | 1, _ | _ + 4, _ => trivial
      · refine ⟨?_, ?_, ?_, ?_, trivial⟩
        · exact s4 rfl (fun _ _ _ h => h) fun cx => run_indexSlM (e := 103) (m := k) (sz := 3) rfl (by kernel_rfl) (by kernel_rfl) (cx.out 13 rfl) (cx.out 15 rfl) (by omega) (by omega) (hA.ext cx.upd.to_ext) (by have h_ := flatLen (f := cellsV) (sz := 3) cellsV_len r; show 0 < (List.flatMap cellsV r).length; omega)
        · exact s4 rfl (fun _ _ _ h => h) fun cx => run_loadElt (f := cellsV) (m := k) (sz := 3) (off := 0) (n := 3) rfl (by kernel_rfl) (by kernel_rfl) (cx.anc 0 rfl) rfl cellsV_len (hA.ext cx.upd.to_ext) (getD_some (ts := r) (m := k) v0 (by omega)) (fun k hk => match k, hk with | 0, _ => rfl | 1, _ => rfl | 2, _ => rfl | k + 3, hk => absurd hk (by omega))
        · refine sv_any rfl rfl fun ρ β W X cx => ?_
          exact dv_alloc (cs := #[.int .i64 0, .int .i64 0, .string ByteArray.empty]) rfl (by kernel_rfl) rfl rfl (fun σ β' X' hs hb hv hx => ⟨hv, hx⟩)
        · refine sv_any rfl rfl fun ρ β W X cx => ?_
          exact dv_store (n := 3) rfl (dTn (cx.anc 2 rfl)).1 (cx.anc 1 rfl) (by kernel_rfl) (by kernel_rfl) (by kernel_rfl) cx (dTn (cx.anc 2 rfl)).2 rfl (Nat.le_of_ble_eq_true rfl) (by kernel_rfl) rfl rfl rfl (fun σ β' X' hs hb hx => by rw [hb 5]; exact hx)
      intro σ β X W11 hD hX hst11 fr hfr
      obtain ⟨B5_11, hu_B5_11⟩ : ∃ z, pb (β 5) = z := ⟨_, rfl⟩
      simp only [zM, exq 0 (hX 0 _ rfl), exq 2 ((dTn (hD 3 lq))), hu_B5_11] at hst11
      dsimp only [mgT, vals, List.take, List.drop, List.cons_append, List.nil_append] at hfr
      simp only [ed 5 ((dTn (hD 2 lq)).1), hu_B5_11] at hfr
      clear hX hD hu_B5_11; subst hfr; clear σ β X
      refine then_normal ?_
      refine wp_seq ?_
      have hvp := vright_parts (rright_at hR.out (k := k) (by omega))
      have hps : (putS (r.getD k v0).2.1 8).size = 8 := putS_size _ 8 (by omega)
      refine wp_region_T [0, 1, 3, 7] [[], [1], [], [0]] [[], [], [], [2]] [[], [], [], [0]] [.k 19 (.pointer (some ⟨B5_11, 0, none⟩)), .c 20 (.int .i64 ((r.getD k v0).1)), tW 21 .u8 ((r.getD k v0).1) ((r.getD k v0).1) (IntWalk.u8_in _ (by omega)), .a 22] (fun ix σ β X => match ix with | 0 => True | 1 => True | 2 => True | 3 => σ 22 = .nilIface ∧ X 2 = eBu B3_4 (rO (X 2)) (bytesTo r k ++ [UInt8.ofNat ((r.getD k v0).1).toNat]) | _ => True) [1, 2] [1, 3] [(19, 0, 4, 23)] hst11 ?_ ?_ ?_
      · exact fun ix _ _ _ _ _ _ hs hb hx h => match ix, h with
        | 3, h => by dsimp only at h ⊢; rw [← hs 22 rfl, ← hx 2 rfl]; exact h
        | 0, _ | 1, _ | 2, _ | _ + 4, _ => trivial
      · refine ⟨?_, ?_, trivial⟩
        · exact s4 rfl (fun _ _ _ h => h) fun cx => run_load1 rfl (by kernel_rfl) (cx.anc 0 rfl) ((cx.blk (cx.init 1 _ rfl) rfl).cell 0)
        · refine sv_any rfl rfl fun ρ β W X cx => ?_
          refine DoesU.call (run_callF (args := #[.pointer (some ⟨B3_4, 0, none⟩), .int .u8 ((r.getD k v0).1)]) rfl cx.sees rfl (by kernel_rfl) (map2 (cx.out 3 rfl) (cx.anc 2 rfl))) ?_
          refine (sbc_l _ _ (bytesTo r k) _ _ (cx.sb (cx.init 0 _ rfl) rfl) (by omega) (by (try simp only [List.length_append, List.length_cons, List.length_nil]); omega)).mono ?_
          rintro e W1 ⟨rfl, hu⟩
          refine ⟨_, rfl, post_sb (by rw [(cx.init 0 _ rfl)]; rfl) rfl rfl hu (fun σ β' X' hs hb hv hx => ?_)⟩
          exact ⟨(hv 22 rfl).1, hx⟩
      intro σ β X W12 hD hX hst12 fr hfr
      have xX2 : X 2 = _ := (dTn (hD 3 lq)).2
      obtain ⟨r2_12, hu_r2_12⟩ : ∃ z, rO (X 2) = z := ⟨_, rfl⟩
      rw [hu_r2_12] at xX2
      clear hu_r2_12
      simp only [zM, exq 1 (hX 1 _ rfl), xX2] at hst12
      dsimp only [mgT, vals, List.take, List.drop, List.cons_append, List.nil_append] at hfr
      simp only [ed 22 ((dTn (hD 3 lq)).1)] at hfr
      clear hX hD xX2; subst hfr; clear σ β X
      refine then_normal ?_
      refine wp_seq ?_
      refine wp_region_T [0, 1] [[], [0]] [] [] [.k 23 (.pointer (some ⟨B5_11, 0, none⟩)), .c 24 (.int .i64 ((r.getD k v0).1))] (fun _ _ _ _ => True) [0, 1] [1] [(23, 0, 2, 25)] hst12 ?_ ?_ ?_
      · exact fun _ _ _ _ _ _ _ _ _ _ h => h
      · refine ⟨?_, trivial⟩
        · exact s4 rfl (fun _ _ _ h => h) fun cx => run_load1 rfl (by kernel_rfl) (cx.anc 0 rfl) ((cx.blk (cx.init 0 _ rfl) rfl).cell 0)
      intro σ β X W13 hD hX hst13 fr hfr
      simp only [zM, exq 0 (hX 0 _ rfl), exq 1 (hX 1 _ rfl)] at hst13
      dsimp only [mgT, vals, List.take, List.drop, List.cons_append, List.nil_append] at hfr
      clear hX hD; subst hfr; clear σ β X
      refine then_normal ?_
      refine wp_block ?_
      refine wp_seq ?_
      refine wp_region_P [0, 1] [.k 26 (.bool (((r.getD k v0).1) == 1)), .k 25 (.bool (((r.getD k v0).1) == 1))] [(25, 1, 1, 26), (0, 0, 1, 1)] hst13 fun W14 hst14 => ?_
      refine then_normal ?_
      rcases Bool.eq_false_or_eq_true (((r.getD k v0).1) == 1) with hs15 | hs15
      · skip
        have hs15p : ((r.getD k v0).1) = 1 := by simpa using hs15
        refine wp_cond_true (show Act.eval _ _ = .bool true from (congrArg Value.bool hs15)) ?_
        refine wp_region_T [0, 1, 3, 7, 15] [[], [0], [], [], [1]] [[], [], [], [], [2]] [[], [], [], [], [1]] [.k 27 (.pointer (some ⟨B5_11, 1, none⟩)), .c 28 (.int .i64 ((r.getD k v0).2.1)), tW 29 .u64 ((r.getD k v0).2.1) (IntKind.u64.wrap ((r.getD k v0).2.1)) (rfl), .c 30 (.string (putS ((r.getD k v0).2.1) 8)), .a 31] (fun ix σ β X => match ix with | 0 => True | 1 => True | 2 => True | 3 => True | 4 => σ 31 = .tuple #[.int .i64 (((putS ((r.getD k v0).2.1) 8).size : Int)), .nilIface] ∧ X 2 = eBu B3_4 (rO (X 2)) ((bytesTo r k ++ [UInt8.ofNat ((r.getD k v0).1).toNat]) ++ (putS ((r.getD k v0).2.1) 8).data.toList) | _ => True) [0, 2] [1, 3, 4] [(27, 0, 5, 32)] hst14 ?_ ?_ ?_
        · exact fun ix _ _ _ _ _ _ hs hb hx h => match ix, h with
          | 4, h => by dsimp only at h ⊢; rw [← hs 31 rfl, ← hx 2 rfl]; exact h
          | 0, _ | 1, _ | 2, _ | 3, _ | _ + 5, _ => trivial
        · refine ⟨?_, ?_, ?_, trivial⟩
          · exact s4 rfl (fun _ _ _ h => h) fun cx => run_load1 rfl (by kernel_rfl) (cx.anc 0 rfl) ((cx.blk (cx.init 0 _ rfl) rfl).cell 1)
          · exact sv_call rfl rfl rfl rfl rfl (fun _ _ _ h => h) fun ρ β W X cx => ⟨_, _, run_callF (args := #[.int .u64 (IntKind.u64.wrap ((r.getD k v0).2.1))]) rfl cx.sees rfl (by kernel_rfl) (map1 (cx.anc 2 rfl)), vwhole_any ((r.getD k v0).2.1) _⟩
          · refine sv_any rfl rfl fun ρ β W X cx => ?_
            refine DoesU.call (run_callF (args := #[.pointer (some ⟨B3_4, 0, none⟩), .string (putS ((r.getD k v0).2.1) 8)]) rfl cx.sees rfl (by kernel_rfl) (map2 (cx.out 3 rfl) (cx.anc 3 rfl))) ?_
            refine (sbw_l _ _ (bytesTo r k ++ [UInt8.ofNat ((r.getD k v0).1).toNat]) _ _ (cx.sb (cx.init 1 _ rfl) rfl) (by (try simp only [List.length_append, List.length_cons, List.length_nil]); omega)).mono ?_
            rintro e W1 ⟨rfl, hu⟩
            refine ⟨_, rfl, post_sb (by rw [(cx.init 1 _ rfl)]; rfl) rfl rfl hu (fun σ β' X' hs hb hv hx => ?_)⟩
            exact ⟨(hv 31 rfl).1, hx⟩
        intro σ β X W16 hD hX hst16 fr hfr
        have xX2 : X 2 = _ := (dTn (hD 4 lq)).2
        obtain ⟨r2_16, hu_r2_16⟩ : ∃ z, rO (X 2) = z := ⟨_, rfl⟩
        rw [hu_r2_16] at xX2
        clear hu_r2_16
        simp only [zM, exq 0 (hX 0 _ rfl), xX2] at hst16
        dsimp only [mgT, vals, List.take, List.drop, List.cons_append, List.nil_append] at hfr
        simp only [ed 31 ((dTn (hD 4 lq)).1)] at hfr
        clear hX hD xX2; subst hfr; clear σ β X
        refine blk_normal ?_
        refine blk_normal ?_
        refine then_normal ?_
        refine wp_region_P [0, 1] [tI 42 ((k : Int) + 1) (by omega), .k 15 (.int .i64 ((k : Int) + 1))] [(15, 1, 1, 16), (26, 0, 1, 27)] hst16 fun W17 hst17 => ?_
        refine then_normal ?_
        have hq18 : (bytesTo r k ++ [UInt8.ofNat ((r.getD k v0).1).toNat]) ++ (putS ((r.getD k v0).2.1) 8).data.toList = bytesTo r (k + 1) := bt_int (by omega) (by simpa using hs15)
        rw [hq18] at hst17
        refine ⟨r.length - ((k + 1)), by omega, ?_⟩
        have hp19 := hst17.pick [1] (by decide) rfl
        exact ⟨(k + 1), r2_16, [.pointer (some ⟨B5_11, 0, none⟩), .bool (decide ((k : Int) < (r.length : Int))), .pointer (some ((ad RA).add (k * 3))), .agg #[.int .i64 ((r.getD k v0).1), .int .i64 ((r.getD k v0).2.1), .string ((r.getD k v0).2.2)], .pointer (some ⟨B5_11, 0, none⟩), .int .i64 ((r.getD k v0).1), .int .u8 ((r.getD k v0).1), .nilIface, .pointer (some ⟨B5_11, 0, none⟩), .int .i64 ((r.getD k v0).1), .bool (((r.getD k v0).1) == 1), .bool (((r.getD k v0).1) == 1), .pointer (some ⟨B5_11, 1, none⟩), .int .i64 ((r.getD k v0).2.1), .int .u64 (IntKind.u64.wrap ((r.getD k v0).2.1)), .string (putS ((r.getD k v0).2.1) 8), .tuple #[.int .i64 (((putS ((r.getD k v0).2.1) 8).size : Int)), .nilIface], (u7_.getD 17 undef), (u7_.getD 18 undef), (u7_.getD 19 undef), (u7_.getD 20 undef), (u7_.getD 21 undef), (u7_.getD 22 undef), (u7_.getD 23 undef), (u7_.getD 24 undef), (u7_.getD 25 undef), (u7_.getD 26 undef), .int .i64 ((k : Int) + 1)], by omega, rfl, rfl, hp19⟩
      have hs15p : ((r.getD k v0).1) ≠ 1 := by simpa using hs15
      refine wp_cond_false (show Act.eval _ _ = .bool false from (congrArg Value.bool hs15)) ?_
      refine wp_seq ?_
      refine wp_region_P [0, 1] [.k 33 (.bool (((r.getD k v0).1) == 2)), .k 32 (.bool (((r.getD k v0).1) == 2))] [(32, 1, 1, 33), (0, 0, 1, 1)] hst14 fun W20 hst20 => ?_
      refine then_normal ?_
      rcases Bool.eq_false_or_eq_true (((r.getD k v0).1) == 2) with hs21 | hs21
      · skip
        have hs21p : ((r.getD k v0).1) = 2 := by simpa using hs21
        refine wp_cond_true (show Act.eval _ _ = .bool true from (congrArg Value.bool hs21)) ?_
        refine wp_seq ?_
        have hz40 : (r.getD k v0).2.2.size ≤ 40 := hvp.2.2 (by simpa using hs21)
        refine wp_region_T [0, 1, 3, 7, 15] [[], [0], [], [], [1]] [[], [], [], [], [2]] [[], [], [], [], [1]] [.k 34 (.pointer (some ⟨B5_11, 2, none⟩)), .c 35 (.string ((r.getD k v0).2.2)), .k 36 (.int .i64 ((((r.getD k v0).2.2).size : Int))), tW 37 .u8 (((r.getD k v0).2.2).size : Int) (((r.getD k v0).2.2).size : Int) (IntWalk.u8_in _ (by omega)), .a 38] (fun ix σ β X => match ix with | 0 => True | 1 => True | 2 => True | 3 => True | 4 => σ 38 = .nilIface ∧ X 2 = eBu B3_4 (rO (X 2)) ((bytesTo r k ++ [UInt8.ofNat ((r.getD k v0).1).toNat]) ++ [UInt8.ofNat (((r.getD k v0).2.2).size : Int).toNat]) | _ => True) [0, 2] [1, 4] [(34, 0, 5, 39)] hst20 ?_ ?_ ?_
        · exact fun ix _ _ _ _ _ _ hs hb hx h => match ix, h with
          | 4, h => by dsimp only at h ⊢; rw [← hs 38 rfl, ← hx 2 rfl]; exact h
          | 0, _ | 1, _ | 2, _ | 3, _ | _ + 5, _ => trivial
        · refine ⟨?_, ?_, trivial⟩
          · exact s4 rfl (fun _ _ _ h => h) fun cx => run_load1 rfl (by kernel_rfl) (cx.anc 0 rfl) ((cx.blk (cx.init 0 _ rfl) rfl).cell 2)
          · refine sv_any rfl rfl fun ρ β W X cx => ?_
            refine DoesU.call (run_callF (args := #[.pointer (some ⟨B3_4, 0, none⟩), .int .u8 ((((r.getD k v0).2.2).size : Int))]) rfl cx.sees rfl (by kernel_rfl) (map2 (cx.out 3 rfl) (cx.anc 3 rfl))) ?_
            refine (sbc_l _ _ (bytesTo r k ++ [UInt8.ofNat ((r.getD k v0).1).toNat]) _ _ (cx.sb (cx.init 1 _ rfl) rfl) (by omega) (by (try simp only [List.length_append, List.length_cons, List.length_nil]); omega)).mono ?_
            rintro e W1 ⟨rfl, hu⟩
            refine ⟨_, rfl, post_sb (by rw [(cx.init 1 _ rfl)]; rfl) rfl rfl hu (fun σ β' X' hs hb hv hx => ?_)⟩
            exact ⟨(hv 38 rfl).1, hx⟩
        intro σ β X W22 hD hX hst22 fr hfr
        have xX2 : X 2 = _ := (dTn (hD 4 lq)).2
        obtain ⟨r2_22, hu_r2_22⟩ : ∃ z, rO (X 2) = z := ⟨_, rfl⟩
        rw [hu_r2_22] at xX2
        clear hu_r2_22
        simp only [zM, exq 0 (hX 0 _ rfl), xX2] at hst22
        dsimp only [mgT, vals, List.take, List.drop, List.cons_append, List.nil_append] at hfr
        simp only [ed 38 ((dTn (hD 4 lq)).1)] at hfr
        clear hX hD xX2; subst hfr; clear σ β X
        refine then_normal ?_
        refine wp_region_T [0, 1, 3] [[], [0], [1]] [[], [], [2]] [[], [], [1]] [.k 39 (.pointer (some ⟨B5_11, 2, none⟩)), .c 40 (.string ((r.getD k v0).2.2)), .a 41] (fun ix σ β X => match ix with | 0 => True | 1 => True | 2 => σ 41 = .tuple #[.int .i64 ((((r.getD k v0).2.2).size : Int)), .nilIface] ∧ X 2 = eBu B3_4 (rO (X 2)) (((bytesTo r k ++ [UInt8.ofNat ((r.getD k v0).1).toNat]) ++ [UInt8.ofNat (((r.getD k v0).2.2).size : Int).toNat]) ++ ((r.getD k v0).2.2).data.toList) | _ => True) [0, 2] [1, 2] [(39, 0, 3, 42)] hst22 ?_ ?_ ?_
        · exact fun ix _ _ _ _ _ _ hs hb hx h => match ix, h with
          | 2, h => by dsimp only at h ⊢; rw [← hs 41 rfl, ← hx 2 rfl]; exact h
          | 0, _ | 1, _ | _ + 3, _ => trivial
        · refine ⟨?_, ?_, trivial⟩
          · exact s4 rfl (fun _ _ _ h => h) fun cx => run_load1 rfl (by kernel_rfl) (cx.anc 0 rfl) ((cx.blk (cx.init 0 _ rfl) rfl).cell 2)
          · refine sv_any rfl rfl fun ρ β W X cx => ?_
            refine DoesU.call (run_callF (args := #[.pointer (some ⟨B3_4, 0, none⟩), .string ((r.getD k v0).2.2)]) rfl cx.sees rfl (by kernel_rfl) (map2 (cx.out 3 rfl) (cx.anc 1 rfl))) ?_
            refine (sbw_l _ _ ((bytesTo r k ++ [UInt8.ofNat ((r.getD k v0).1).toNat]) ++ [UInt8.ofNat (((r.getD k v0).2.2).size : Int).toNat]) _ _ (cx.sb (cx.init 1 _ rfl) rfl) (by (try simp only [List.length_append, List.length_cons, List.length_nil]); omega)).mono ?_
            rintro e W1 ⟨rfl, hu⟩
            refine ⟨_, rfl, post_sb (by rw [(cx.init 1 _ rfl)]; rfl) rfl rfl hu (fun σ β' X' hs hb hv hx => ?_)⟩
            exact ⟨(hv 41 rfl).1, hx⟩
        intro σ β X W23 hD hX hst23 fr hfr
        have xX2 : X 2 = _ := (dTn (hD 2 lq)).2
        obtain ⟨r2_23, hu_r2_23⟩ : ∃ z, rO (X 2) = z := ⟨_, rfl⟩
        rw [hu_r2_23] at xX2
        clear hu_r2_23
        simp only [zM, exq 0 (hX 0 _ rfl), xX2] at hst23
        dsimp only [mgT, vals, List.take, List.drop, List.cons_append, List.nil_append] at hfr
        simp only [ed 41 ((dTn (hD 2 lq)).1)] at hfr
        clear hX hD xX2; subst hfr; clear σ β X
        refine blk_normal ?_
        refine blk_normal ?_
        refine then_normal ?_
        refine wp_region_P [0, 1] [tI 42 ((k : Int) + 1) (by omega), .k 15 (.int .i64 ((k : Int) + 1))] [(15, 1, 1, 16), (26, 0, 1, 27)] hst23 fun W24 hst24 => ?_
        refine then_normal ?_
        have hq25 : ((bytesTo r k ++ [UInt8.ofNat ((r.getD k v0).1).toNat]) ++ [UInt8.ofNat (((r.getD k v0).2.2).size : Int).toNat]) ++ ((r.getD k v0).2.2).data.toList = bytesTo r (k + 1) := bt_text (by omega) (by simpa using hs15) (by simpa using hs21)
        rw [hq25] at hst24
        refine ⟨r.length - ((k + 1)), by omega, ?_⟩
        have hp26 := hst24.pick [1] (by decide) rfl
        exact ⟨(k + 1), r2_23, [.pointer (some ⟨B5_11, 0, none⟩), .bool (decide ((k : Int) < (r.length : Int))), .pointer (some ((ad RA).add (k * 3))), .agg #[.int .i64 ((r.getD k v0).1), .int .i64 ((r.getD k v0).2.1), .string ((r.getD k v0).2.2)], .pointer (some ⟨B5_11, 0, none⟩), .int .i64 ((r.getD k v0).1), .int .u8 ((r.getD k v0).1), .nilIface, .pointer (some ⟨B5_11, 0, none⟩), .int .i64 ((r.getD k v0).1), .bool (((r.getD k v0).1) == 1), .bool (((r.getD k v0).1) == 1), (u7_.getD 12 undef), (u7_.getD 13 undef), (u7_.getD 14 undef), (u7_.getD 15 undef), (u7_.getD 16 undef), .bool (((r.getD k v0).1) == 2), .bool (((r.getD k v0).1) == 2), .pointer (some ⟨B5_11, 2, none⟩), .string ((r.getD k v0).2.2), .int .i64 ((((r.getD k v0).2.2).size : Int)), .int .u8 ((((r.getD k v0).2.2).size : Int)), .nilIface, .pointer (some ⟨B5_11, 2, none⟩), .string ((r.getD k v0).2.2), .tuple #[.int .i64 ((((r.getD k v0).2.2).size : Int)), .nilIface], .int .i64 ((k : Int) + 1)], by omega, rfl, rfl, hp26⟩
      have hs21p : ((r.getD k v0).1) ≠ 2 := by simpa using hs21
      refine wp_cond_false (show Act.eval _ _ = .bool false from (congrArg Value.bool hs21)) ?_
      refine wp_skip ?_
      refine blk_normal ?_
      refine blk_normal ?_
      refine then_normal ?_
      refine wp_region_P [0, 1] [tI 42 ((k : Int) + 1) (by omega), .k 15 (.int .i64 ((k : Int) + 1))] [(15, 1, 1, 16), (26, 0, 1, 27)] hst20 fun W27 hst27 => ?_
      refine then_normal ?_
      have hq28 : bytesTo r k ++ [UInt8.ofNat ((r.getD k v0).1).toNat] = bytesTo r (k + 1) := bt_none (by omega) (by simpa using hs15) (by simpa using hs21)
      rw [hq28] at hst27
      refine ⟨r.length - ((k + 1)), by omega, ?_⟩
      have hp29 := hst27.pick [1] (by decide) rfl
      exact ⟨(k + 1), r2_12, [.pointer (some ⟨B5_11, 0, none⟩), .bool (decide ((k : Int) < (r.length : Int))), .pointer (some ((ad RA).add (k * 3))), .agg #[.int .i64 ((r.getD k v0).1), .int .i64 ((r.getD k v0).2.1), .string ((r.getD k v0).2.2)], .pointer (some ⟨B5_11, 0, none⟩), .int .i64 ((r.getD k v0).1), .int .u8 ((r.getD k v0).1), .nilIface, .pointer (some ⟨B5_11, 0, none⟩), .int .i64 ((r.getD k v0).1), .bool (((r.getD k v0).1) == 1), .bool (((r.getD k v0).1) == 1), (u7_.getD 12 undef), (u7_.getD 13 undef), (u7_.getD 14 undef), (u7_.getD 15 undef), (u7_.getD 16 undef), .bool (((r.getD k v0).1) == 2), .bool (((r.getD k v0).1) == 2), (u7_.getD 19 undef), (u7_.getD 20 undef), (u7_.getD 21 undef), (u7_.getD 22 undef), (u7_.getD 23 undef), (u7_.getD 24 undef), (u7_.getD 25 undef), (u7_.getD 26 undef), .int .i64 ((k : Int) + 1)], by omega, rfl, rfl, hp29⟩
    have hs10p : ¬ ((k : Int) < (r.length : Int)) := by simpa using hs10
    refine wp_cond_false (show Act.eval _ _ = .bool false from (congrArg Value.bool hs10)) ?_
    refine wp_exit ?_
    refine then_exit ?_
    refine then_exit ?_
    refine blk_eq ?_
    refine then_normal ?_
    refine wp_seq ?_
    refine wp_region_T [0, 1] [[0]] [] [[0]] [.a 43, .c 2 (.string (strL (bytesTo r k)))] (fun ix σ β X => match ix with | 0 => σ 43 = .string (strL (bytesTo r k)) | _ => True) [] [0, 1] [(2, 1, 1, 3), (40, 0, 1, 41)] hst9 ?_ ?_ ?_
    · exact fun ix _ _ _ _ _ _ hs hb hx h => match ix, h with
      | 0, h => (hs _ rfl).symm.trans h
      | _ + 1, _ => trivial
    · refine ⟨?_, ?_, trivial⟩
      · refine sv_any rfl rfl fun ρ β W X cx => ?_
        refine DoesU.call (run_callF (args := #[.pointer (some ⟨B3_4, 0, none⟩)]) rfl cx.sees rfl (by kernel_rfl) (map1 (cx.out 3 rfl))) ?_
        refine (sbstr_l _ _ (bytesTo r k) _ (cx.sb (cx.init 0 _ rfl) rfl) (bt_ne r k) (by (try simp only [List.length_append, List.length_cons, List.length_nil]); omega)).mono ?_
        rintro e W1 ⟨rfl, hu⟩
        refine ⟨_, rfl, post_kill (by rw [(cx.init 0 _ rfl)]; rfl) rfl rfl hu (fun σ β' X' hs hb hv => ?_)⟩
        exact (hv 43 rfl).1
      · exact s4 rfl (fun _ _ _ h => h) fun cx => run_assign' rfl (dTn (cx.anc 0 rfl))
    intro σ β X W30 hD hX hst30 fr hfr
    simp only [zM] at hst30
    dsimp only [mgT, vals, List.take, List.drop, List.cons_append, List.nil_append] at hfr
    simp only [ed 43 ((dTn (hD 0 lq)))] at hfr
    clear hX hD; subst hfr; clear σ β X
    refine then_normal ?_
    refine wp_ret ?_
    refine bodyPost_ret (v := .string (strL (bytesTo r k))) (results_tmp Tryd.results59 rfl) rfl ?_
    exact ⟨by rw [vbytesF, if_pos hR.out, show r.length = k by omega], hst30.ext⟩
  refine wp_cond_true (show Act.eval _ _ = .bool true from (congrArg Value.bool (by rw [hs3]; rfl))) ?_
  refine wp_seq ?_
  refine wp_region_P [0] [.k 2 (.string ⟨#[]⟩)] [(2, 0, 1, 3)] hst2 fun W31 hst31 => ?_
  refine then_normal ?_
  refine wp_ret ?_
  refine then_ret ?_
  refine bodyPost_ret (v := .string ⟨#[]⟩) (results_tmp Tryd.results59 rfl) rfl ?_
  exact ⟨by rw [vbytesF, hs3]; rfl, hst31.ext⟩

end Go.Proofs.YtfjpglohcppjeaaDoor

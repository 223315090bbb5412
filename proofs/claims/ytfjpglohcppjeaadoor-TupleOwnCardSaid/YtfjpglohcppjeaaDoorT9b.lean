/- value.Bytes. -/
import Derived.Test.YtfjpglohcppjeaaDoorT9
namespace Go.Proofs.YtfjpglohcppjeaaDoor
open Go.RowKit
set_option linter.unusedVariables false
set_option maxRecDepth 100000 in
set_option maxHeartbeats 2000000 in
theorem vbytes_any (RA : Option Addr) (rc : Nat) (r : List Val) (w : World) (hA : At w RA (flatR r)) (hlr : r.length ≤ 9223372036854775807) :
    Calls Tryd.prog 59 #[.slice RA r.length rc] w (Ret (.string (vbytesF r)) w) := by
  go_enter Tryd.func59, Tryd.ntmps59
  have hst0 := St.start w
  refine wp_seq ?_
  refine wp_region_X [0] [] [] [] (fun ix σ β X => match ix with | 0 => σ 2 = .string ⟨#[]⟩ | _ => True) [] [2] hst0 ?_ ?_ ?_
  · exact fun ix _ _ _ _ _ _ hs hb hx h => match ix, h with
    | 0, h => (hs _ rfl).symm.trans h
    | _ + 1, _ => trivial
  · refine ⟨trivial, ?_⟩
    · exact s0 rfl fun cx => run_assign' rfl (cx.sees.const _)
  intro σ β X W1 hD hX hst1 fr hfr
  simp only [zM] at hst1
  simp only [zP, ed 2 (hD 0 lq)] at hfr
  clear hX hD; subst hfr; clear σ β X
  refine then_normal ?_
  refine wp_seq ?_
  refine wp_seq ?_
  refine wp_region_X [0, 1, 3] [] [] [] (fun ix σ β X => match ix with | 0 => σ 6 = .slice RA r.length rc | 1 => σ 7 = .bool (rrightF r) | 2 => σ 8 = .bool (!(rrightF r)) | _ => True) [] [6, 7, 8] hst1 ?_ ?_ ?_
  · exact fun ix _ _ _ _ _ _ hs hb hx h => match ix, h with
    | 0, h | 1, h | 2, h => (hs _ rfl).symm.trans h
    | _ + 3, _ => trivial
  · refine ⟨⟨⟨trivial, ?_⟩, ?_⟩, ?_⟩
    · exact mo rfl
    · exact sv_call rfl rfl rfl rfl rfl (fun _ _ _ h => h) fun ρ β W X cx => ⟨_, _, run_callF (args := #[.slice RA r.length rc]) rfl cx.sees rfl (by kernel_rfl) (map1 (cx.anc 0 rfl)), vrow_any _ _ r _ (hA.ext cx.upd.to_ext) (by omega)⟩
    · exact s0 rfl fun cx => run_not rfl (cx.anc 1 rfl) rfl
  intro σ β X W2 hD hX hst2 fr hfr
  simp only [zM] at hst2
  simp only [zP, ed 6 (hD 0 lq), ed 7 (hD 1 lq), ed 8 (hD 2 lq)] at hfr
  clear hX hD; subst hfr; clear σ β X
  refine then_normal ?_
  rcases Bool.eq_false_or_eq_true (rrightF r) with hs3 | hs3
  · skip
    refine wp_cond_false (show Act.eval _ _ = .bool false from (congrArg Value.bool (by rw [hs3]; rfl))) ?_
    refine wp_skip ?_
    refine then_normal ?_
    refine wp_seq ?_
    have hr6 := rright_len hs3
    have hR := Lib.hid hs3
    refine wp_region_X [0] [] [[0]] [] (fun ix σ β X => match ix with | 0 => σ 3 = .pointer (some ⟨(pb (β 3)), 0, none⟩) ∧ X 0 = eB (pb (β 3)) 143 #[.pointer none, .slice none 0 0] | _ => True) [0] [3] hst2 ?_ ?_ ?_
    · exact fun ix _ _ _ _ _ _ hs hb hx h => match ix, h with
      | 0, h => by dsimp only at h ⊢; rw [← hs 3 rfl, ← hb 3 rfl, ← hx 0 rfl]; exact h
      | _ + 1, _ => trivial
    · refine ⟨trivial, ?_⟩
      · refine sv_any rfl rfl fun ρ β W X cx => ?_
        exact dv_alloc (cs := #[.pointer none, .slice none 0 0]) rfl (by kernel_rfl) rfl rfl (fun σ β' X' hs hb hv hx => ⟨hv, hx⟩)
    intro σ β X W4 hD hX hst4 fr hfr
    obtain ⟨B3_4, hu_B3_4⟩ : ∃ z, pb (β 3) = z := ⟨_, rfl⟩
    simp only [zM, exq 0 ((hD 0 lq).2), hu_B3_4] at hst4
    simp only [zP, ed 3 ((hD 0 lq).1), hu_B3_4] at hfr
    clear hX hD hu_B3_4; subst hfr; clear σ β X
    refine then_normal ?_
    refine wp_seq ?_
    refine wp_region_X [0, 1, 3, 7] [[], [], [], [0]] [[], [], [], [1]] [[], [], [], [0]] (fun ix σ β X => match ix with | 0 => σ 9 = .slice RA r.length rc | 1 => σ 10 = .int .i64 ((r.length : Int)) | 2 => σ 11 = .int .u8 ((r.length : Int)) | 3 => σ 12 = .nilIface ∧ X 1 = eBu B3_4 (rO (X 1)) [UInt8.ofNat (r.length : Int).toNat] | _ => True) [1] [9, 10, 11, 12] hst4 ?_ ?_ ?_
    · exact fun ix _ _ _ _ _ _ hs hb hx h => match ix, h with
      | 0, h | 1, h | 2, h => (hs _ rfl).symm.trans h
      | 3, h => by dsimp only at h ⊢; rw [← hs 12 rfl, ← hx 1 rfl]; exact h
      | _ + 4, _ => trivial
    · refine ⟨⟨⟨⟨trivial, ?_⟩, ?_⟩, ?_⟩, ?_⟩
      · exact mo rfl
      · exact s0 rfl fun cx => run_len_l (e := 103) rfl (by kernel_rfl) (cx.anc 0 rfl)
      · exact s4 rfl (fun _ _ _ h => h) fun cx => run_convI rfl (by kernel_rfl) (by kernel_rfl) (cx.anc 1 rfl) (IntWalk.u8_in _ (by omega))
      · refine sv_any rfl rfl fun ρ β W X cx => ?_
        refine DoesU.call (run_callF (args := #[.pointer (some ⟨B3_4, 0, none⟩), .int .u8 ((r.length : Int))]) rfl cx.sees rfl (by kernel_rfl) (map2 (cx.out 3 rfl) (cx.anc 2 rfl))) ?_
        refine (sbc_l _ _ [] _ _ (SbAt.fresh (cx.blk (cx.init 0 _ rfl) rfl)) (by omega) (by (try simp only [List.length_append, List.length_cons, List.length_nil]); omega)).mono ?_
        rintro e W1 ⟨rfl, hu⟩
        refine ⟨_, rfl, post_sb (by rw [(cx.init 0 _ rfl)]; rfl) rfl rfl hu (fun σ β' X' hs hb hv hx => ?_)⟩
        exact ⟨(hv 12 rfl).1, hx⟩
    intro σ β X W5 hD hX hst5 fr hfr
    have xX1 : X 1 = _ := (hD 3 lq).2
    obtain ⟨r1_5, hu_r1_5⟩ : ∃ z, rO (X 1) = z := ⟨_, rfl⟩
    rw [hu_r1_5] at xX1
    clear hu_r1_5
    simp only [zM, xX1] at hst5
    simp only [zP, ed 9 (hD 0 lq), ed 10 (hD 1 lq), ed 11 (hD 2 lq), ed 12 ((hD 3 lq).1)] at hfr
    clear hX hD xX1; subst hfr; clear σ β X
    refine then_normal ?_
    refine wp_seq ?_
    refine wp_seq ?_
    refine wp_region_X [0, 1, 0] [] [] [] (fun ix σ β X => match ix with | 0 => σ 13 = .slice RA r.length rc | 1 => σ 14 = .int .i64 ((r.length : Int)) | 2 => σ 15 = .int .i64 0 | _ => True) [0] [13, 14, 15] hst5 ?_ ?_ ?_
    · exact fun ix _ _ _ _ _ _ hs hb hx h => match ix, h with
      | 0, h | 1, h | 2, h => (hs _ rfl).symm.trans h
      | _ + 3, _ => trivial
    · refine ⟨⟨⟨trivial, ?_⟩, ?_⟩, ?_⟩
      · exact mo rfl
      · exact s0 rfl fun cx => run_len_l (e := 103) rfl (by kernel_rfl) (cx.anc 0 rfl)
      · exact s0 rfl fun cx => run_move' rfl (cx.sees.const _)
    intro σ β X W6 hD hX hst6 fr hfr
    simp only [zM, exq 0 (hX 0 _ rfl)] at hst6
    simp only [zP, ed 13 (hD 0 lq), ed 14 (hD 1 lq), ed 15 (hD 2 lq)] at hfr
    clear hX hD; subst hfr; clear σ β X
    refine then_normal ?_
    refine wp_block ?_
    refine wp_loopN (fun mz az W => ∃ k : Nat, ∃ rb : Option Nat, ∃ u7_ : List Value, k ≤ r.length ∧ mz = r.length - k ∧ az = ⟨#[.slice RA r.length rc, undef, .string ⟨#[]⟩, .pointer (some ⟨B3_4, 0, none⟩), undef, (u7_.getD 0 undef), .slice RA r.length rc, .bool (rrightF r), .bool (!(rrightF r)), .slice RA r.length rc, .int .i64 ((r.length : Int)), .int .u8 ((r.length : Int)), .nilIface, .slice RA r.length rc, .int .i64 ((r.length : Int)), .int .i64 ((k : Int)), (u7_.getD 1 undef), (u7_.getD 2 undef), (u7_.getD 3 undef), (u7_.getD 4 undef), (u7_.getD 5 undef), (u7_.getD 6 undef), (u7_.getD 7 undef), (u7_.getD 8 undef), (u7_.getD 9 undef), (u7_.getD 10 undef), (u7_.getD 11 undef), (u7_.getD 12 undef), (u7_.getD 13 undef), (u7_.getD 14 undef), (u7_.getD 15 undef), (u7_.getD 16 undef), (u7_.getD 17 undef), (u7_.getD 18 undef), (u7_.getD 19 undef), (u7_.getD 20 undef), (u7_.getD 21 undef), (u7_.getD 22 undef), (u7_.getD 23 undef), (u7_.getD 24 undef), (u7_.getD 25 undef), (u7_.getD 26 undef), (u7_.getD 27 undef), undef], []⟩ ∧ St w [] [eBu B3_4 rb (bytesTo r k)] W) (r.length - 0) ?_ ?_
    · -- the loop begins
      have hp8 := hst6.pick [0] (by decide) rfl
      exact ⟨0, r1_5, [undef, undef, undef, undef, undef, undef, undef, undef, undef, undef, undef, undef, undef, undef, undef, undef, undef, undef, undef, undef, undef, undef, undef, undef, undef, undef, undef, undef], by omega, rfl, rfl, hp8⟩
    rintro n7 a7 W7 ⟨k, rb, u7_, hkl, rfl, rfl, hst7⟩
    have hbl := bt_len hR.out k
    refine wp_seq ?_
    refine wp_region_X [0] [] [] [] (fun ix σ β X => match ix with | 0 => σ 16 = .bool (decide ((k : Int) < (r.length : Int))) | _ => True) [0] [16] hst7 ?_ ?_ ?_
    · exact fun ix _ _ _ _ _ _ hs hb hx h => match ix, h with
      | 0, h => (hs _ rfl).symm.trans h
      | _ + 1, _ => trivial
    · refine ⟨trivial, ?_⟩
      · exact s0 rfl fun cx => run_bin rfl (cx.out 15 rfl) (cx.out 14 rfl) rfl
    intro σ β X W9 hD hX hst9 fr hfr
    simp only [zM, exq 0 (hX 0 _ rfl)] at hst9
    simp only [zP, ed 16 (hD 0 lq)] at hfr
    clear hX hD; subst hfr; clear σ β X
    refine then_normal ?_
    refine wp_seq ?_
    rcases Bool.eq_false_or_eq_true (decide ((k : Int) < (r.length : Int))) with hs10 | hs10
    · skip
      have hs10p : (k : Int) < (r.length : Int) := by simpa using hs10
      refine wp_cond_true (show Act.eval _ _ = .bool true from (congrArg Value.bool hs10)) ?_
      refine wp_skip ?_
      refine then_normal ?_
      refine wp_seq ?_
      refine wp_block ?_
      refine wp_seq ?_
      refine wp_region_X [0, 1, 0, 7] [[], [], [], [1]] [[], [], [1], [2]] [[], [], [], [1]] (fun ix σ β X => match ix with | 0 => σ 17 = .pointer (some ((ad RA).add (k * 3))) | 1 => σ 18 = .agg #[.int .i64 ((r.getD k v0).1), .int .i64 ((r.getD k v0).2.1), .string ((r.getD k v0).2.2)] | 2 => σ 5 = .pointer (some ⟨(pb (β 5)), 0, none⟩) ∧ X 1 = eB (pb (β 5)) 103 #[.int .i64 0, .int .i64 0, .string ByteArray.empty] | 3 => X 2 = eB (pb (β 5)) 103 #[.int .i64 ((r.getD k v0).1), .int .i64 ((r.getD k v0).2.1), .string ((r.getD k v0).2.2)] | _ => True) [0, 2] [17, 18, 5] hst9 ?_ ?_ ?_
      · exact fun ix _ _ _ _ _ _ hs hb hx h => match ix, h with
        | 0, h | 1, h => (hs _ rfl).symm.trans h
        | 2, h => by dsimp only at h ⊢; rw [← hs 5 rfl, ← hb 5 rfl, ← hx 1 rfl]; exact h
        | 3, h => by dsimp only at h ⊢; rw [← hb 5 rfl, ← hx 2 rfl]; exact h
        | _ + 4, _ => trivial
      · refine ⟨⟨⟨⟨trivial, ?_⟩, ?_⟩, ?_⟩, ?_⟩
        · exact s4 rfl (fun _ _ _ h => h) fun cx => run_indexSlM (e := 103) (m := k) (sz := 3) rfl (by kernel_rfl) (by kernel_rfl) (cx.out 13 rfl) (cx.out 15 rfl) (by omega) (by omega) (hA.ext cx.upd.to_ext) (by have h_ := flatLen (f := cellsV) (sz := 3) cellsV_len r; show 0 < (List.flatMap cellsV r).length; omega)
        · exact s4 rfl (fun _ _ _ h => h) fun cx => run_loadElt (f := cellsV) (m := k) (sz := 3) (off := 0) (n := 3) rfl (by kernel_rfl) (by kernel_rfl) (cx.anc 0 rfl) rfl cellsV_len (hA.ext cx.upd.to_ext) (getD_some (ts := r) (m := k) v0 (by omega)) (fun k hk => match k, hk with | 0, _ => rfl | 1, _ => rfl | 2, _ => rfl | k + 3, hk => absurd hk (by omega))
        · refine sv_any rfl rfl fun ρ β W X cx => ?_
          exact dv_alloc (cs := #[.int .i64 0, .int .i64 0, .string ByteArray.empty]) rfl (by kernel_rfl) rfl rfl (fun σ β' X' hs hb hv hx => ⟨hv, hx⟩)
        · refine sv_any rfl rfl fun ρ β W X cx => ?_
          exact dv_store (n := 3) rfl (cx.anc 2 rfl).1 (cx.anc 1 rfl) (by kernel_rfl) rfl rfl cx (cx.anc 2 rfl).2 rfl (Nat.le_of_ble_eq_true rfl) rfl rfl rfl rfl (fun σ β' X' hs hb hx => by rw [hb 5]; exact hx)
      intro σ β X W11 hD hX hst11 fr hfr
      obtain ⟨B5_11, hu_B5_11⟩ : ∃ z, pb (β 5) = z := ⟨_, rfl⟩
      simp only [zM, exq 0 (hX 0 _ rfl), exq 2 ((hD 3 lq)), hu_B5_11] at hst11
      simp only [zP, ed 17 (hD 0 lq), ed 18 (hD 1 lq), ed 5 ((hD 2 lq).1), hu_B5_11] at hfr
      clear hX hD hu_B5_11; subst hfr; clear σ β X
      refine then_normal ?_
      refine wp_seq ?_
      have hvp := vright_parts (rright_at hR.out (k := k) (by omega))
      have hps : (putS (r.getD k v0).2.1 8).size = 8 := putS_size _ 8 (by omega)
      refine wp_region_X [0, 1, 3, 7] [[], [1], [], [0]] [[], [], [], [2]] [[], [], [], [0]] (fun ix σ β X => match ix with | 0 => σ 19 = .pointer (some ⟨B5_11, 0, none⟩) | 1 => σ 20 = .int .i64 ((r.getD k v0).1) | 2 => σ 21 = .int .u8 ((r.getD k v0).1) | 3 => σ 22 = .nilIface ∧ X 2 = eBu B3_4 (rO (X 2)) (bytesTo r k ++ [UInt8.ofNat ((r.getD k v0).1).toNat]) | _ => True) [1, 2] [19, 20, 21, 22] hst11 ?_ ?_ ?_
      · exact fun ix _ _ _ _ _ _ hs hb hx h => match ix, h with
        | 0, h | 1, h | 2, h => (hs _ rfl).symm.trans h
        | 3, h => by dsimp only at h ⊢; rw [← hs 22 rfl, ← hx 2 rfl]; exact h
        | _ + 4, _ => trivial
      · refine ⟨⟨⟨⟨trivial, ?_⟩, ?_⟩, ?_⟩, ?_⟩
        · exact s0 rfl fun cx => run_fieldAddr' (k := 0) (n := 0) rfl (by kernel_rfl) (cx.out 5 rfl) rfl
        · exact s0 rfl fun cx => run_load1 rfl (by kernel_rfl) (cx.anc 0 rfl) ((cx.blk (cx.init 1 _ rfl) rfl).cell 0)
        · exact s4 rfl (fun _ _ _ h => h) fun cx => run_convI rfl (by kernel_rfl) (by kernel_rfl) (cx.anc 1 rfl) (IntWalk.u8_in _ (by omega))
        · refine sv_any rfl rfl fun ρ β W X cx => ?_
          refine DoesU.call (run_callF (args := #[.pointer (some ⟨B3_4, 0, none⟩), .int .u8 ((r.getD k v0).1)]) rfl cx.sees rfl (by kernel_rfl) (map2 (cx.out 3 rfl) (cx.anc 2 rfl))) ?_
          refine (sbc_l _ _ (bytesTo r k) _ _ (cx.sb (cx.init 0 _ rfl) rfl) (by omega) (by (try simp only [List.length_append, List.length_cons, List.length_nil]); omega)).mono ?_
          rintro e W1 ⟨rfl, hu⟩
          refine ⟨_, rfl, post_sb (by rw [(cx.init 0 _ rfl)]; rfl) rfl rfl hu (fun σ β' X' hs hb hv hx => ?_)⟩
          exact ⟨(hv 22 rfl).1, hx⟩
      intro σ β X W12 hD hX hst12 fr hfr
      have xX2 : X 2 = _ := (hD 3 lq).2
      obtain ⟨r2_12, hu_r2_12⟩ : ∃ z, rO (X 2) = z := ⟨_, rfl⟩
      rw [hu_r2_12] at xX2
      clear hu_r2_12
      simp only [zM, exq 1 (hX 1 _ rfl), xX2] at hst12
      simp only [zP, ed 19 (hD 0 lq), ed 20 (hD 1 lq), ed 21 (hD 2 lq), ed 22 ((hD 3 lq).1)] at hfr
      clear hX hD xX2; subst hfr; clear σ β X
      refine then_normal ?_
      refine wp_seq ?_
      refine wp_region_X [0, 1] [[], [0]] [] [] (fun ix σ β X => match ix with | 0 => σ 23 = .pointer (some ⟨B5_11, 0, none⟩) | 1 => σ 24 = .int .i64 ((r.getD k v0).1) | _ => True) [0, 1] [23, 24] hst12 ?_ ?_ ?_
      · exact fun ix _ _ _ _ _ _ hs hb hx h => match ix, h with
        | 0, h | 1, h => (hs _ rfl).symm.trans h
        | _ + 2, _ => trivial
      · refine ⟨⟨trivial, ?_⟩, ?_⟩
        · exact s0 rfl fun cx => run_fieldAddr' (k := 0) (n := 0) rfl (by kernel_rfl) (cx.out 5 rfl) rfl
        · exact s0 rfl fun cx => run_load1 rfl (by kernel_rfl) (cx.anc 0 rfl) ((cx.blk (cx.init 0 _ rfl) rfl).cell 0)
      intro σ β X W13 hD hX hst13 fr hfr
      simp only [zM, exq 0 (hX 0 _ rfl), exq 1 (hX 1 _ rfl)] at hst13
      simp only [zP, ed 23 (hD 0 lq), ed 24 (hD 1 lq)] at hfr
      clear hX hD; subst hfr; clear σ β X
      refine then_normal ?_
      refine wp_block ?_
      refine wp_seq ?_
      refine wp_region_X [0, 1] [] [] [] (fun ix σ β X => match ix with | 0 => σ 26 = .bool (((r.getD k v0).1) == 1) | 1 => σ 25 = .bool (((r.getD k v0).1) == 1) | _ => True) [0, 1] [26, 25] hst13 ?_ ?_ ?_
      · exact fun ix _ _ _ _ _ _ hs hb hx h => match ix, h with
        | 0, h | 1, h => (hs _ rfl).symm.trans h
        | _ + 2, _ => trivial
      · refine ⟨⟨trivial, ?_⟩, ?_⟩
        · exact s0 rfl fun cx => run_bin rfl (cx.out 24 rfl) (cx.sees.const _) rfl
        · exact s0 rfl fun cx => run_assign' rfl (cx.anc 0 rfl)
      intro σ β X W14 hD hX hst14 fr hfr
      simp only [zM, exq 0 (hX 0 _ rfl), exq 1 (hX 1 _ rfl)] at hst14
      simp only [zP, ed 26 (hD 0 lq), ed 25 (hD 1 lq)] at hfr
      clear hX hD; subst hfr; clear σ β X
      refine then_normal ?_
      rcases Bool.eq_false_or_eq_true (((r.getD k v0).1) == 1) with hs15 | hs15
      · skip
        have hs15p : ((r.getD k v0).1) = 1 := by simpa using hs15
        refine wp_cond_true (show Act.eval _ _ = .bool true from (congrArg Value.bool hs15)) ?_
        refine wp_region_X [0, 1, 3, 7, 15] [[], [0], [], [], [1]] [[], [], [], [], [2]] [[], [], [], [], [1]] (fun ix σ β X => match ix with | 0 => σ 27 = .pointer (some ⟨B5_11, 1, none⟩) | 1 => σ 28 = .int .i64 ((r.getD k v0).2.1) | 2 => σ 29 = .int .u64 (IntKind.u64.wrap ((r.getD k v0).2.1)) | 3 => σ 30 = .string (putS ((r.getD k v0).2.1) 8) | 4 => σ 31 = .tuple #[.int .i64 (((putS ((r.getD k v0).2.1) 8).size : Int)), .nilIface] ∧ X 2 = eBu B3_4 (rO (X 2)) ((bytesTo r k ++ [UInt8.ofNat ((r.getD k v0).1).toNat]) ++ (putS ((r.getD k v0).2.1) 8).data.toList) | _ => True) [0, 2] [27, 28, 29, 30, 31] hst14 ?_ ?_ ?_
        · exact fun ix _ _ _ _ _ _ hs hb hx h => match ix, h with
          | 0, h | 1, h | 2, h | 3, h => (hs _ rfl).symm.trans h
          | 4, h => by dsimp only at h ⊢; rw [← hs 31 rfl, ← hx 2 rfl]; exact h
          | _ + 5, _ => trivial
        · refine ⟨⟨⟨⟨⟨trivial, ?_⟩, ?_⟩, ?_⟩, ?_⟩, ?_⟩
          · exact s0 rfl fun cx => run_fieldAddr' (k := 1) (n := 1) rfl (by kernel_rfl) (cx.out 5 rfl) rfl
          · exact s0 rfl fun cx => run_load1 rfl (by kernel_rfl) (cx.anc 0 rfl) ((cx.blk (cx.init 0 _ rfl) rfl).cell 1)
          · exact s0 rfl fun cx => run_convI rfl (by kernel_rfl) (by kernel_rfl) (cx.anc 1 rfl) (rfl)
          · exact sv_call rfl rfl rfl rfl rfl (fun _ _ _ h => h) fun ρ β W X cx => ⟨_, _, run_callF (args := #[.int .u64 (IntKind.u64.wrap ((r.getD k v0).2.1))]) rfl cx.sees rfl (by kernel_rfl) (map1 (cx.anc 2 rfl)), vwhole_any ((r.getD k v0).2.1) _⟩
          · refine sv_any rfl rfl fun ρ β W X cx => ?_
            refine DoesU.call (run_callF (args := #[.pointer (some ⟨B3_4, 0, none⟩), .string (putS ((r.getD k v0).2.1) 8)]) rfl cx.sees rfl (by kernel_rfl) (map2 (cx.out 3 rfl) (cx.anc 3 rfl))) ?_
            refine (sbw_l _ _ (bytesTo r k ++ [UInt8.ofNat ((r.getD k v0).1).toNat]) _ _ (cx.sb (cx.init 1 _ rfl) rfl) (by (try simp only [List.length_append, List.length_cons, List.length_nil]); omega)).mono ?_
            rintro e W1 ⟨rfl, hu⟩
            refine ⟨_, rfl, post_sb (by rw [(cx.init 1 _ rfl)]; rfl) rfl rfl hu (fun σ β' X' hs hb hv hx => ?_)⟩
            exact ⟨(hv 31 rfl).1, hx⟩
        intro σ β X W16 hD hX hst16 fr hfr
        have xX2 : X 2 = _ := (hD 4 lq).2
        obtain ⟨r2_16, hu_r2_16⟩ : ∃ z, rO (X 2) = z := ⟨_, rfl⟩
        rw [hu_r2_16] at xX2
        clear hu_r2_16
        simp only [zM, exq 0 (hX 0 _ rfl), xX2] at hst16
        simp only [zP, ed 27 (hD 0 lq), ed 28 (hD 1 lq), ed 29 (hD 2 lq), ed 30 (hD 3 lq), ed 31 ((hD 4 lq).1)] at hfr
        clear hX hD xX2; subst hfr; clear σ β X
        refine blk_normal ?_
        refine blk_normal ?_
        refine then_normal ?_
        refine wp_region_X [0, 1] [] [] [] (fun ix σ β X => match ix with | 0 => σ 42 = .int .i64 ((k : Int) + 1) | 1 => σ 15 = .int .i64 ((k : Int) + 1) | _ => True) [0, 1] [42, 15] hst16 ?_ ?_ ?_
        · exact fun ix _ _ _ _ _ _ hs hb hx h => match ix, h with
          | 0, h | 1, h => (hs _ rfl).symm.trans h
          | _ + 2, _ => trivial
        · refine ⟨⟨trivial, ?_⟩, ?_⟩
          · exact s4 rfl (fun _ _ _ h => h) fun cx => run_bin rfl (cx.out 15 rfl) (cx.sees.const _) (congrArg (fun z => some (Value.int .i64 z)) ((IntWalk.i64_in _ (by omega)).trans (by omega)))
          · exact s0 rfl fun cx => run_move' rfl (cx.anc 0 rfl)
        intro σ β X W17 hD hX hst17 fr hfr
        simp only [zM, exq 0 (hX 0 _ rfl), exq 1 (hX 1 _ rfl)] at hst17
        simp only [zP, ed 42 (hD 0 lq), ed 15 (hD 1 lq)] at hfr
        clear hX hD; subst hfr; clear σ β X
        refine then_normal ?_
        have hq18 : (bytesTo r k ++ [UInt8.ofNat ((r.getD k v0).1).toNat]) ++ (putS ((r.getD k v0).2.1) 8).data.toList = bytesTo r (k + 1) := bt_int (by omega) (by simpa using hs15)
        rw [hq18] at hst17
        refine ⟨r.length - ((k + 1)), by omega, ?_⟩
        have hp19 := hst17.pick [1] (by decide) rfl
        exact ⟨(k + 1), r2_16, [.pointer (some ⟨B5_11, 0, none⟩), .bool (decide ((k : Int) < (r.length : Int))), .pointer (some ((ad RA).add (k * 3))), .agg #[.int .i64 ((r.getD k v0).1), .int .i64 ((r.getD k v0).2.1), .string ((r.getD k v0).2.2)], .pointer (some ⟨B5_11, 0, none⟩), .int .i64 ((r.getD k v0).1), .int .u8 ((r.getD k v0).1), .nilIface, .pointer (some ⟨B5_11, 0, none⟩), .int .i64 ((r.getD k v0).1), .bool (((r.getD k v0).1) == 1), .bool (((r.getD k v0).1) == 1), .pointer (some ⟨B5_11, 1, none⟩), .int .i64 ((r.getD k v0).2.1), .int .u64 (IntKind.u64.wrap ((r.getD k v0).2.1)), .string (putS ((r.getD k v0).2.1) 8), .tuple #[.int .i64 (((putS ((r.getD k v0).2.1) 8).size : Int)), .nilIface], (u7_.getD 17 undef), (u7_.getD 18 undef), (u7_.getD 19 undef), (u7_.getD 20 undef), (u7_.getD 21 undef), (u7_.getD 22 undef), (u7_.getD 23 undef), (u7_.getD 24 undef), (u7_.getD 25 undef), (u7_.getD 26 undef), .int .i64 ((k : Int) + 1)], by omega, rfl, rfl, hp19⟩
      have hs15p : ((r.getD k v0).1) ≠ 1 := by simpa using hs15
      refine wp_cond_false (show Act.eval _ _ = .bool false from (congrArg Value.bool hs15)) ?_
      refine wp_seq ?_
      refine wp_region_X [0, 1] [] [] [] (fun ix σ β X => match ix with | 0 => σ 33 = .bool (((r.getD k v0).1) == 2) | 1 => σ 32 = .bool (((r.getD k v0).1) == 2) | _ => True) [0, 1] [33, 32] hst14 ?_ ?_ ?_
      · exact fun ix _ _ _ _ _ _ hs hb hx h => match ix, h with
        | 0, h | 1, h => (hs _ rfl).symm.trans h
        | _ + 2, _ => trivial
      · refine ⟨⟨trivial, ?_⟩, ?_⟩
        · exact s0 rfl fun cx => run_bin rfl (cx.out 24 rfl) (cx.sees.const _) rfl
        · exact s0 rfl fun cx => run_assign' rfl (cx.anc 0 rfl)
      intro σ β X W20 hD hX hst20 fr hfr
      simp only [zM, exq 0 (hX 0 _ rfl), exq 1 (hX 1 _ rfl)] at hst20
      simp only [zP, ed 33 (hD 0 lq), ed 32 (hD 1 lq)] at hfr
      clear hX hD; subst hfr; clear σ β X
      refine then_normal ?_
      rcases Bool.eq_false_or_eq_true (((r.getD k v0).1) == 2) with hs21 | hs21
      · skip
        have hs21p : ((r.getD k v0).1) = 2 := by simpa using hs21
        refine wp_cond_true (show Act.eval _ _ = .bool true from (congrArg Value.bool hs21)) ?_
        refine wp_seq ?_
        have hz40 : (r.getD k v0).2.2.size ≤ 40 := hvp.2.2 (by simpa using hs21)
        refine wp_region_X [0, 1, 3, 7, 15] [[], [0], [], [], [1]] [[], [], [], [], [2]] [[], [], [], [], [1]] (fun ix σ β X => match ix with | 0 => σ 34 = .pointer (some ⟨B5_11, 2, none⟩) | 1 => σ 35 = .string ((r.getD k v0).2.2) | 2 => σ 36 = .int .i64 ((((r.getD k v0).2.2).size : Int)) | 3 => σ 37 = .int .u8 ((((r.getD k v0).2.2).size : Int)) | 4 => σ 38 = .nilIface ∧ X 2 = eBu B3_4 (rO (X 2)) ((bytesTo r k ++ [UInt8.ofNat ((r.getD k v0).1).toNat]) ++ [UInt8.ofNat (((r.getD k v0).2.2).size : Int).toNat]) | _ => True) [0, 2] [34, 35, 36, 37, 38] hst20 ?_ ?_ ?_
        · exact fun ix _ _ _ _ _ _ hs hb hx h => match ix, h with
          | 0, h | 1, h | 2, h | 3, h => (hs _ rfl).symm.trans h
          | 4, h => by dsimp only at h ⊢; rw [← hs 38 rfl, ← hx 2 rfl]; exact h
          | _ + 5, _ => trivial
        · refine ⟨⟨⟨⟨⟨trivial, ?_⟩, ?_⟩, ?_⟩, ?_⟩, ?_⟩
          · exact s0 rfl fun cx => run_fieldAddr' (k := 2) (n := 2) rfl (by kernel_rfl) (cx.out 5 rfl) rfl
          · exact s0 rfl fun cx => run_load1 rfl (by kernel_rfl) (cx.anc 0 rfl) ((cx.blk (cx.init 0 _ rfl) rfl).cell 2)
          · exact s0 rfl fun cx => run_len_s rfl (by kernel_rfl) (cx.anc 1 rfl)
          · exact s4 rfl (fun _ _ _ h => h) fun cx => run_convI rfl (by kernel_rfl) (by kernel_rfl) (cx.anc 2 rfl) (IntWalk.u8_in _ (by omega))
          · refine sv_any rfl rfl fun ρ β W X cx => ?_
            refine DoesU.call (run_callF (args := #[.pointer (some ⟨B3_4, 0, none⟩), .int .u8 ((((r.getD k v0).2.2).size : Int))]) rfl cx.sees rfl (by kernel_rfl) (map2 (cx.out 3 rfl) (cx.anc 3 rfl))) ?_
            refine (sbc_l _ _ (bytesTo r k ++ [UInt8.ofNat ((r.getD k v0).1).toNat]) _ _ (cx.sb (cx.init 1 _ rfl) rfl) (by omega) (by (try simp only [List.length_append, List.length_cons, List.length_nil]); omega)).mono ?_
            rintro e W1 ⟨rfl, hu⟩
            refine ⟨_, rfl, post_sb (by rw [(cx.init 1 _ rfl)]; rfl) rfl rfl hu (fun σ β' X' hs hb hv hx => ?_)⟩
            exact ⟨(hv 38 rfl).1, hx⟩
        intro σ β X W22 hD hX hst22 fr hfr
        have xX2 : X 2 = _ := (hD 4 lq).2
        obtain ⟨r2_22, hu_r2_22⟩ : ∃ z, rO (X 2) = z := ⟨_, rfl⟩
        rw [hu_r2_22] at xX2
        clear hu_r2_22
        simp only [zM, exq 0 (hX 0 _ rfl), xX2] at hst22
        simp only [zP, ed 34 (hD 0 lq), ed 35 (hD 1 lq), ed 36 (hD 2 lq), ed 37 (hD 3 lq), ed 38 ((hD 4 lq).1)] at hfr
        clear hX hD xX2; subst hfr; clear σ β X
        refine then_normal ?_
        refine wp_region_X [0, 1, 3] [[], [0], [1]] [[], [], [2]] [[], [], [1]] (fun ix σ β X => match ix with | 0 => σ 39 = .pointer (some ⟨B5_11, 2, none⟩) | 1 => σ 40 = .string ((r.getD k v0).2.2) | 2 => σ 41 = .tuple #[.int .i64 ((((r.getD k v0).2.2).size : Int)), .nilIface] ∧ X 2 = eBu B3_4 (rO (X 2)) (((bytesTo r k ++ [UInt8.ofNat ((r.getD k v0).1).toNat]) ++ [UInt8.ofNat (((r.getD k v0).2.2).size : Int).toNat]) ++ (r.getD k v0).2.2.data.toList) | _ => True) [0, 2] [39, 40, 41] hst22 ?_ ?_ ?_
        · exact fun ix _ _ _ _ _ _ hs hb hx h => match ix, h with
          | 0, h | 1, h => (hs _ rfl).symm.trans h
          | 2, h => by dsimp only at h ⊢; rw [← hs 41 rfl, ← hx 2 rfl]; exact h
          | _ + 3, _ => trivial
        · refine ⟨⟨⟨trivial, ?_⟩, ?_⟩, ?_⟩
          · exact s0 rfl fun cx => run_fieldAddr' (k := 2) (n := 2) rfl (by kernel_rfl) (cx.out 5 rfl) rfl
          · exact s0 rfl fun cx => run_load1 rfl (by kernel_rfl) (cx.anc 0 rfl) ((cx.blk (cx.init 0 _ rfl) rfl).cell 2)
          · refine sv_any rfl rfl fun ρ β W X cx => ?_
            refine DoesU.call (run_callF (args := #[.pointer (some ⟨B3_4, 0, none⟩), .string ((r.getD k v0).2.2)]) rfl cx.sees rfl (by kernel_rfl) (map2 (cx.out 3 rfl) (cx.anc 1 rfl))) ?_
            refine (sbw_l _ _ ((bytesTo r k ++ [UInt8.ofNat ((r.getD k v0).1).toNat]) ++ [UInt8.ofNat (((r.getD k v0).2.2).size : Int).toNat]) _ _ (cx.sb (cx.init 1 _ rfl) rfl) (by (try simp only [List.length_append, List.length_cons, List.length_nil]); omega)).mono ?_
            rintro e W1 ⟨rfl, hu⟩
            refine ⟨_, rfl, post_sb (by rw [(cx.init 1 _ rfl)]; rfl) rfl rfl hu (fun σ β' X' hs hb hv hx => ?_)⟩
            exact ⟨(hv 41 rfl).1, hx⟩
        intro σ β X W23 hD hX hst23 fr hfr
        have xX2 : X 2 = _ := (hD 2 lq).2
        obtain ⟨r2_23, hu_r2_23⟩ : ∃ z, rO (X 2) = z := ⟨_, rfl⟩
        rw [hu_r2_23] at xX2
        clear hu_r2_23
        simp only [zM, exq 0 (hX 0 _ rfl), xX2] at hst23
        simp only [zP, ed 39 (hD 0 lq), ed 40 (hD 1 lq), ed 41 ((hD 2 lq).1)] at hfr
        clear hX hD xX2; subst hfr; clear σ β X
        refine blk_normal ?_
        refine blk_normal ?_
        refine then_normal ?_
        refine wp_region_X [0, 1] [] [] [] (fun ix σ β X => match ix with | 0 => σ 42 = .int .i64 ((k : Int) + 1) | 1 => σ 15 = .int .i64 ((k : Int) + 1) | _ => True) [0, 1] [42, 15] hst23 ?_ ?_ ?_
        · exact fun ix _ _ _ _ _ _ hs hb hx h => match ix, h with
          | 0, h | 1, h => (hs _ rfl).symm.trans h
          | _ + 2, _ => trivial
        · refine ⟨⟨trivial, ?_⟩, ?_⟩
          · exact s4 rfl (fun _ _ _ h => h) fun cx => run_bin rfl (cx.out 15 rfl) (cx.sees.const _) (congrArg (fun z => some (Value.int .i64 z)) ((IntWalk.i64_in _ (by omega)).trans (by omega)))
          · exact s0 rfl fun cx => run_move' rfl (cx.anc 0 rfl)
        intro σ β X W24 hD hX hst24 fr hfr
        simp only [zM, exq 0 (hX 0 _ rfl), exq 1 (hX 1 _ rfl)] at hst24
        simp only [zP, ed 42 (hD 0 lq), ed 15 (hD 1 lq)] at hfr
        clear hX hD; subst hfr; clear σ β X
        refine then_normal ?_
        have hq25 : ((bytesTo r k ++ [UInt8.ofNat ((r.getD k v0).1).toNat]) ++ [UInt8.ofNat (((r.getD k v0).2.2).size : Int).toNat]) ++ (r.getD k v0).2.2.data.toList = bytesTo r (k + 1) := bt_text (by omega) (by simpa using hs15) (by simpa using hs21)
        rw [hq25] at hst24
        refine ⟨r.length - ((k + 1)), by omega, ?_⟩
        have hp26 := hst24.pick [1] (by decide) rfl
        exact ⟨(k + 1), r2_23, [.pointer (some ⟨B5_11, 0, none⟩), .bool (decide ((k : Int) < (r.length : Int))), .pointer (some ((ad RA).add (k * 3))), .agg #[.int .i64 ((r.getD k v0).1), .int .i64 ((r.getD k v0).2.1), .string ((r.getD k v0).2.2)], .pointer (some ⟨B5_11, 0, none⟩), .int .i64 ((r.getD k v0).1), .int .u8 ((r.getD k v0).1), .nilIface, .pointer (some ⟨B5_11, 0, none⟩), .int .i64 ((r.getD k v0).1), .bool (((r.getD k v0).1) == 1), .bool (((r.getD k v0).1) == 1), (u7_.getD 12 undef), (u7_.getD 13 undef), (u7_.getD 14 undef), (u7_.getD 15 undef), (u7_.getD 16 undef), .bool (((r.getD k v0).1) == 2), .bool (((r.getD k v0).1) == 2), .pointer (some ⟨B5_11, 2, none⟩), .string ((r.getD k v0).2.2), .int .i64 ((((r.getD k v0).2.2).size : Int)), .int .u8 ((((r.getD k v0).2.2).size : Int)), .nilIface, .pointer (some ⟨B5_11, 2, none⟩), .string ((r.getD k v0).2.2), .tuple #[.int .i64 ((((r.getD k v0).2.2).size : Int)), .nilIface], .int .i64 ((k : Int) + 1)], by omega, rfl, rfl, hp26⟩
      have hs21p : ((r.getD k v0).1) ≠ 2 := by simpa using hs21
      refine wp_cond_false (show Act.eval _ _ = .bool false from (congrArg Value.bool hs21)) ?_
      refine wp_skip ?_
      refine blk_normal ?_
      refine blk_normal ?_
      refine then_normal ?_
      refine wp_region_X [0, 1] [] [] [] (fun ix σ β X => match ix with | 0 => σ 42 = .int .i64 ((k : Int) + 1) | 1 => σ 15 = .int .i64 ((k : Int) + 1) | _ => True) [0, 1] [42, 15] hst20 ?_ ?_ ?_
      · exact fun ix _ _ _ _ _ _ hs hb hx h => match ix, h with
        | 0, h | 1, h => (hs _ rfl).symm.trans h
        | _ + 2, _ => trivial
      · refine ⟨⟨trivial, ?_⟩, ?_⟩
        · exact s4 rfl (fun _ _ _ h => h) fun cx => run_bin rfl (cx.out 15 rfl) (cx.sees.const _) (congrArg (fun z => some (Value.int .i64 z)) ((IntWalk.i64_in _ (by omega)).trans (by omega)))
        · exact s0 rfl fun cx => run_move' rfl (cx.anc 0 rfl)
      intro σ β X W27 hD hX hst27 fr hfr
      simp only [zM, exq 0 (hX 0 _ rfl), exq 1 (hX 1 _ rfl)] at hst27
      simp only [zP, ed 42 (hD 0 lq), ed 15 (hD 1 lq)] at hfr
      clear hX hD; subst hfr; clear σ β X
      refine then_normal ?_
      have hq28 : bytesTo r k ++ [UInt8.ofNat ((r.getD k v0).1).toNat] = bytesTo r (k + 1) := bt_none (by omega) (by simpa using hs15) (by simpa using hs21)
      rw [hq28] at hst27
      refine ⟨r.length - ((k + 1)), by omega, ?_⟩
      have hp29 := hst27.pick [1] (by decide) rfl
      exact ⟨(k + 1), r2_12, [.pointer (some ⟨B5_11, 0, none⟩), .bool (decide ((k : Int) < (r.length : Int))), .pointer (some ((ad RA).add (k * 3))), .agg #[.int .i64 ((r.getD k v0).1), .int .i64 ((r.getD k v0).2.1), .string ((r.getD k v0).2.2)], .pointer (some ⟨B5_11, 0, none⟩), .int .i64 ((r.getD k v0).1), .int .u8 ((r.getD k v0).1), .nilIface, .pointer (some ⟨B5_11, 0, none⟩), .int .i64 ((r.getD k v0).1), .bool (((r.getD k v0).1) == 1), .bool (((r.getD k v0).1) == 1), (u7_.getD 12 undef), (u7_.getD 13 undef), (u7_.getD 14 undef), (u7_.getD 15 undef), (u7_.getD 16 undef), .bool (((r.getD k v0).1) == 2), .bool (((r.getD k v0).1) == 2), (u7_.getD 19 undef), (u7_.getD 20 undef), (u7_.getD 21 undef), (u7_.getD 22 undef), (u7_.getD 23 undef), (u7_.getD 24 undef), (u7_.getD 25 undef), (u7_.getD 26 undef), .int .i64 ((k : Int) + 1)], by omega, rfl, rfl, hp29⟩
    have hs10p : ¬ ((k : Int) < (r.length : Int)) := by simpa using hs10
    refine wp_cond_false (show Act.eval _ _ = .bool false from (congrArg Value.bool hs10)) ?_
    refine wp_exit ?_
    refine then_exit ?_
    refine then_exit ?_
    refine blk_eq ?_
    refine then_normal ?_
    refine wp_seq ?_
    refine wp_region_X [0, 1] [[0]] [] [[0]] (fun ix σ β X => match ix with | 0 => σ 43 = .string (strL (bytesTo r k)) | 1 => σ 2 = .string (strL (bytesTo r k)) | _ => True) [] [43, 2] hst9 ?_ ?_ ?_
    · exact fun ix _ _ _ _ _ _ hs hb hx h => match ix, h with
      | 0, h | 1, h => (hs _ rfl).symm.trans h
      | _ + 2, _ => trivial
    · refine ⟨⟨trivial, ?_⟩, ?_⟩
      · refine sv_any rfl rfl fun ρ β W X cx => ?_
        refine DoesU.call (run_callF (args := #[.pointer (some ⟨B3_4, 0, none⟩)]) rfl cx.sees rfl (by kernel_rfl) (map1 (cx.out 3 rfl))) ?_
        refine (sbstr_l _ _ (bytesTo r k) _ (cx.sb (cx.init 0 _ rfl) rfl) (bt_ne r k) (by (try simp only [List.length_append, List.length_cons, List.length_nil]); omega)).mono ?_
        rintro e W1 ⟨rfl, hu⟩
        refine ⟨_, rfl, post_kill (by rw [(cx.init 0 _ rfl)]; rfl) rfl rfl hu (fun σ β' X' hs hb hv => ?_)⟩
        exact (hv 43 rfl).1
      · exact s0 rfl fun cx => run_assign' rfl (cx.anc 0 rfl)
    intro σ β X W30 hD hX hst30 fr hfr
    simp only [zM] at hst30
    simp only [zP, ed 43 (hD 0 lq), ed 2 (hD 1 lq)] at hfr
    clear hX hD; subst hfr; clear σ β X
    refine then_normal ?_
    refine wp_ret ?_
    refine bodyPost_ret (v := .string (strL (bytesTo r k))) (by simp [results, Tryd.results59, go_sem]) rfl ?_
    exact ⟨by rw [vbytesF, if_pos hR.out, show r.length = k by omega], hst30.ext⟩
  refine wp_cond_true (show Act.eval _ _ = .bool true from (congrArg Value.bool (by rw [hs3]; rfl))) ?_
  refine wp_seq ?_
  refine wp_region_X [0] [] [] [] (fun ix σ β X => match ix with | 0 => σ 2 = .string ⟨#[]⟩ | _ => True) [] [2] hst2 ?_ ?_ ?_
  · exact fun ix _ _ _ _ _ _ hs hb hx h => match ix, h with
    | 0, h => (hs _ rfl).symm.trans h
    | _ + 1, _ => trivial
  · refine ⟨trivial, ?_⟩
    · exact s0 rfl fun cx => run_assign' rfl (cx.sees.const _)
  intro σ β X W31 hD hX hst31 fr hfr
  simp only [zM] at hst31
  simp only [zP, ed 2 (hD 0 lq)] at hfr
  clear hX hD; subst hfr; clear σ β X
  refine then_normal ?_
  refine wp_ret ?_
  refine then_ret ?_
  refine bodyPost_ret (v := .string ⟨#[]⟩) (by simp [results, Tryd.results59, go_sem]) rfl ?_
  exact ⟨by rw [vbytesF, hs3]; rfl, hst31.ext⟩

end Go.Proofs.YtfjpglohcppjeaaDoor

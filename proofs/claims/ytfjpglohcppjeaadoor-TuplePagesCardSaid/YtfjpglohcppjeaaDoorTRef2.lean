/- The references of tuple.Bytes and of what lies below it. -/
import Derived.Test.YtfjpglohcppjeaaDoorTByP
import Derived.Test.YtfjpglohcppjeaaDoorT3
namespace Go.Proofs.YtfjpglohcppjeaaDoor
open Go.RowKit
set_option linter.unusedVariables false
set_option linter.unusedSimpArgs false

def shN (N : Int) (k : Nat) : Int := N / 256 ^ k
theorem shN_0 (N : Int) : shN N 0 = N := by simp [shN]
theorem shN_succ (N : Int) (k : Nat) : (shN N k).fdiv (2 ^ 8) = shN N (k + 1) := by
  rw [shN, shN, Int.fdiv_eq_ediv_of_nonneg _ (by decide), Int.pow_succ]
  exact Int.ediv_ediv_of_nonneg (Int.le_of_lt (Int.pow_pos (by decide)))
theorem putS_0 (N : Int) : putS N 0 = ⟨#[]⟩ := rfl
theorem putS_succ (N : Int) {k : Nat} (h : k < 8) : putS N (k + 1) = strOfNums [shN N k % 256] ++ putS N k := by
  apply bl_inj
  rw [bl_append]
  unfold putS bl
  rw [strOfNums_data, strOfNums_data, strOfNums_data, ← List.map_append]
  congr 1
  have hu : IntKind.u64.wrap N = N % 18446744073709551616 := by rw [IntKind.wrap_u64]
  unfold oct8 shN
  rw [hu]
  rcases (by omega : k = 0 ∨ k = 1 ∨ k = 2 ∨ k = 3 ∨ k = 4 ∨ k = 5 ∨ k = 6 ∨ k = 7) with rfl | rfl | rfl | rfl | rfl | rfl | rfl | rfl <;>
    simp only [Nat.reduceSub, Nat.reduceAdd, Int.reducePow, List.drop_succ_cons, List.drop_zero, List.cons_append, List.nil_append, List.cons.injEq, and_true] <;> omega
theorem oneS_of {x : Int} : oneS (x % 256) = strOfNums [x % 256] := by rw [oneS, Int.emod_emod_of_dvd _ (Int.dvd_refl _)]
theorem strL_app (a b : List UInt8) : strL a ++ strL b = strL (a ++ b) := by apply bl_inj; rw [bl_append, bl_strL, bl_strL, bl_strL]
theorem oneS_strL {x : Int} (h : 0 ≤ x ∧ x < 256) : oneS x = strL [UInt8.ofNat x.toNat] := by
  rw [oneS, show x % 256 = x by omega]; rfl
theorem strL_bl (s : ByteArray) : s = strL s.data.toList := (strL_data s).symm
section
variable {P : Program} {o : Oper} {ρ : Operand → Value} {W : World}
theorem run_shr {t t' : TypeId} {x y : Operand} {k k' : IntKind} {a b z : Int} (h : o.op = .binOp .shr t x y t') (hx : ρ x = .int k a) (hy : ρ y = .int k' b) (hb : 0 ≤ b) (hz : a.fdiv (2 ^ min b.toNat k.bits) = z) : (execOp ρ o).run P W = .ok (.value (.int k z)) W := by
  subst hz
  unfold execOp; rw [h]
  have : ¬ b < 0 := by omega
  simp [hx, hy, eqGuard, binOp, Op.shift, this]
end
theorem rright_bad' {r : List Val} {k : Nat} (hk : k < r.length) (h : vrightF (r.getD k v0) = false) : rrightF r = false := rright_bad hk h
theorem tb_cat {a b n1 n2 : Int} {ho : Bool} {rs : List Val} (h : trightF a b n1 n2 rs = true) : ((((((putS a 1 ++ putS b 1) ++ putS (n1 + 1) 2) ++ putS n2 1) ++ putS (hotI ho) 1) ++ putS ((vbytesF rs).size : Int) 2) ++ vbytesF rs) = tbytesF a b n1 n2 ho rs := by
  apply bl_inj
  rw [tb_bl h]
  simp only [bl_append, List.append_assoc]
theorem plain_snoc' {rs : List Val} {k : Nat} {c : List Value} (h : k < rs.length) (hc : cellsV (plainV (rs.getD k v0)) = c) : flatR (plainR (rs.take k)) ++ c = flatR (plainR (rs.take (k + 1))) := plain_snoc h hc
set_option maxRecDepth 100000 in
set_option maxHeartbeats 2000000 in
theorem r02right_any (v : Val) (w : World) :
    Calls Tryd.prog 110 #[.agg #[.int .i64 v.1, .int .i64 v.2.1, .string v.2.2]] w (Ret (.bool (vrightF v)) w) := by
  go_enter Tryd.func110, Tryd.ntmps110
  have hst0 := St.start w
  refine wp_seq ?_
  refine wp_region_T [0, 0] [] [[0]] [] [.a 1, .k 2 (.bool false)] (fun ix σ β X => match ix with | 0 => σ 1 = .pointer (some ⟨(pb (β 1)), 0, none⟩) ∧ X 0 = eB (pb (β 1)) 103 #[.int .i64 v.1, .int .i64 v.2.1, .string v.2.2] | _ => True) [0] [0] [(1, 0, 2, 3)] hst0 ?_ ?_ ?_
  · exact fun ix _ _ _ _ _ _ hs hb hx h => match ix, h with
    | 0, h => by dsimp only at h ⊢; rw [← hs 1 rfl, ← hb 1 rfl, ← hx 0 rfl]; exact h
    | _ + 1, _ => trivial
  · refine ⟨?_, trivial⟩
    · refine sv_any rfl rfl fun ρ β W X cx => ?_
      exact dv_box (cs := #[.int .i64 v.1, .int .i64 v.2.1, .string v.2.2]) rfl (cx.out 0 rfl) rfl rfl rfl (fun σ β' X' hs hb hv hx => ⟨hv, hx⟩)
  intro σ β X W1 hD hX hst1 fr hfr
  obtain ⟨B1_1, hu_B1_1⟩ : ∃ z, pb (β 1) = z := ⟨_, rfl⟩
  simp only [zM, exq 0 ((dTn (hD 0 lq)).2), hu_B1_1] at hst1
  dsimp only [mgT, vals, List.take, List.drop, List.cons_append, List.nil_append] at hfr
  simp only [ed 1 ((dTn (hD 0 lq)).1), hu_B1_1] at hfr
  clear hX hD hu_B1_1; subst hfr; clear σ β X
  refine then_normal ?_
  refine wp_seq ?_
  refine wp_region_T [0, 1, 3, 7, 15, 31, 63, 127, 255, 511, 1023, 2047, 4095, 8191, 16383, 32767, 65535, 131071, 262143, 524287] [[], [0], [], [], [], [0], [], [], [], [], [0], [], [], [], [0]] [] [] [.k 3 (.pointer (some ⟨B1_1, 0, none⟩)), .c 4 (.int .i64 v.1), .k 5 (.bool (v.1 == 0)), .k 6 (.bool (v.1 == 0)), .z 7 (!(v.1 == 0)) (.pointer (some ⟨B1_1, 0, none⟩)), .y 8 (!(v.1 == 0)) (.int .i64 v.1), .z 9 (!(v.1 == 0)) (.bool (v.1 == 1)), tO 10 (v.1 == 0) (v.1 == 1), .k 11 (.bool ((v.1 == 0) || (v.1 == 1))), .z 12 (!((v.1 == 0) || (v.1 == 1))) (.pointer (some ⟨B1_1, 0, none⟩)), .y 13 (!((v.1 == 0) || (v.1 == 1))) (.int .i64 v.1), .z 14 (!((v.1 == 0) || (v.1 == 1))) (.bool (v.1 == 2)), .z 15 (!((v.1 == 0) || (v.1 == 1))) (.bool (v.1 == 2)), .z 16 ((!((v.1 == 0) || (v.1 == 1))) && (v.1 == 2)) (.pointer (some ⟨B1_1, 2, none⟩)), .y 17 ((!((v.1 == 0) || (v.1 == 1))) && (v.1 == 2)) (.string v.2.2), .z 18 ((!((v.1 == 0) || (v.1 == 1))) && (v.1 == 2)) (.int .i64 ((v.2.2.size : Int))), .z 19 ((!((v.1 == 0) || (v.1 == 1))) && (v.1 == 2)) (.bool (decide ((v.2.2.size : Int) ≤ 40))), .y 20 (!((v.1 == 0) || (v.1 == 1))) (.bool ((v.1 == 2) && (decide ((v.2.2.size : Int) ≤ 40)))), tO 21 ((v.1 == 0) || (v.1 == 1)) ((v.1 == 2) && (decide ((v.2.2.size : Int) ≤ 40))), .k 2 (.bool (((v.1 == 0) || (v.1 == 1)) || ((v.1 == 2) && (decide ((v.2.2.size : Int) ≤ 40)))))] (fun _ _ _ _ => True) [0] [1, 5, 10, 14, 17] [(2, 19, 1, 3), (0, 0, 19, 19)] hst1 ?_ ?_ ?_
  · exact fun _ _ _ _ _ _ _ _ _ _ h => h
  · refine ⟨?_, ?_, ?_, ?_, ?_, trivial⟩
    · exact s4 rfl (fun _ _ _ h => h) fun cx => run_load1 rfl (by kernel_rfl) (cx.anc 0 rfl) ((cx.blk (cx.init 0 _ rfl) rfl).cell 0)
    · exact m2 rfl (fun _ _ _ h => h) (fun cx => (cx.anc 3 rfl)) fun cx hq => run_load1 rfl (by kernel_rfl) (mbv (cx.anc 4 rfl) hq) ((cx.blk (cx.init 0 _ rfl) rfl).cell 0)
    · exact m2 rfl (fun _ _ _ h => h) (fun cx => (cx.anc 8 rfl)) fun cx hq => run_load1 rfl (by kernel_rfl) (mbv (cx.anc 9 rfl) hq) ((cx.blk (cx.init 0 _ rfl) rfl).cell 0)
    · exact m0 rfl (fun _ _ _ h => h) (fun cx => (cx.anc 12 rfl)) fun cx hq => run_load1 rfl (by kernel_rfl) (mbv (cx.anc 13 rfl) hq) ((cx.blk (cx.init 0 _ rfl) rfl).cell 2)
    · exact m2 rfl (fun _ _ _ h => h) (fun cx => (cx.anc 8 rfl)) fun cx hq => run_pick_and rfl (mbv (cx.anc 12 rfl) hq) (cx.anc 16 rfl) (fun e_ => by rw [hq, e_]; rfl) (cx.sees.const _)
  intro σ β X W2 hD hX hst2 fr hfr
  simp only [zM, exq 0 (hX 0 _ rfl)] at hst2
  dsimp only [mgT, vals, List.take, List.drop, List.cons_append, List.nil_append] at hfr
  clear hX hD; subst hfr; clear σ β X
  refine then_normal ?_
  refine wp_ret ?_
  refine bodyPost_ret (v := .bool (((v.1 == 0) || (v.1 == 1)) || ((v.1 == 2) && (decide ((v.2.2.size : Int) ≤ 40))))) (results_tmp Tryd.results110 rfl) rfl ?_
  exact Ret.bool (Bool.eq_iff_iff.2 (by simp [vrightF, knownF]; omega)) hst2.ext

set_option maxRecDepth 100000 in
set_option maxHeartbeats 2000000 in
theorem r02row_any (RA : Option Addr) (rc : Nat) (rs : List Val) (w : World) (hA : At w RA (flatR rs)) (hlr : rs.length ≤ 9223372036854775807) :
    Calls Tryd.prog 61 #[.slice RA rs.length rc] w (Ret (.bool (rrightF rs)) w) := by
  go_enter Tryd.func61, Tryd.ntmps61
  have hst0 := St.start w
  refine wp_seq ?_
  refine wp_region_P [0] [.k 2 (.bool false)] [(2, 0, 1, 3)] hst0 fun W1 hst1 => ?_
  refine then_normal ?_
  refine wp_seq ?_
  refine wp_seq ?_
  refine wp_region_P [0] [.k 3 (.int .i64 0)] [(3, 0, 1, 4)] hst1 fun W2 hst2 => ?_
  refine then_normal ?_
  refine wp_block ?_
  refine wp_loopN (fun mz az W => ∃ k : Nat, ∃ u3_ : List Value, k ≤ rs.length ∧ (rs.take k).all vrightF = true ∧ mz = rs.length - k ∧ az = ⟨#[.slice RA rs.length rc, undef, (u3_.getD 0 undef), .int .i64 ((k : Int)), (u3_.getD 1 undef), (u3_.getD 2 undef), (u3_.getD 3 undef), (u3_.getD 4 undef), (u3_.getD 5 undef), (u3_.getD 6 undef), (u3_.getD 7 undef), (u3_.getD 8 undef), (u3_.getD 9 undef), (u3_.getD 10 undef), (u3_.getD 11 undef), (u3_.getD 12 undef), undef, undef, undef], []⟩ ∧ St w [] [] W) (rs.length - 0) ?_ ?_
  · -- the loop begins
    have hp4 := hst2.pick [] (by decide) rfl
    exact ⟨0, [.bool false, undef, undef, undef, undef, undef, undef, undef, undef, undef, undef, undef, undef], by omega, rfl, rfl, rfl, hp4⟩
  rintro n3 a3 W3 ⟨k, u3_, hk, hka, rfl, rfl, hst3⟩
  refine wp_seq ?_
  refine wp_seq ?_
  refine wp_region_P [0, 0, 2, 7] [.k 4 (.int .i64 ((k : Int))), .k 5 (.slice RA rs.length rc), .k 6 (.int .i64 ((rs.length : Int))), .k 7 (.bool (decide ((k : Int) < (rs.length : Int))))] [(4, 0, 4, 8)] hst3 fun W5 hst5 => ?_
  refine then_normal ?_
  rcases Bool.eq_false_or_eq_true (decide ((k : Int) < (rs.length : Int))) with hs6 | hs6
  · skip
    have hs6p : (k : Int) < (rs.length : Int) := by simpa using hs6
    refine wp_cond_true (show Act.eval _ _ = .bool true from (congrArg Value.bool hs6)) ?_
    refine wp_skip ?_
    refine then_normal ?_
    refine wp_seq ?_
    refine wp_block ?_
    refine wp_seq ?_
    refine wp_region_T [0, 0, 3, 7, 15, 31] [] [] [] [.k 10 (.slice RA rs.length rc), .k 11 (.int .i64 ((k : Int))), .c 12 (.pointer (some ((ad RA).add (k * 3)))), .c 13 (.agg #[.int .i64 ((rs.getD k v0).1), .int .i64 ((rs.getD k v0).2.1), .string ((rs.getD k v0).2.2)]), .c 14 (.bool (vrightF (rs.getD k v0))), .k 15 (.bool (!(vrightF (rs.getD k v0))))] (fun _ _ _ _ => True) [] [2, 3, 4] [(10, 0, 6, 16)] hst5 ?_ ?_ ?_
    · exact fun _ _ _ _ _ _ _ _ _ _ h => h
    · refine ⟨?_, ?_, ?_, trivial⟩
      · exact s4 rfl (fun _ _ _ h => h) fun cx => run_indexSlM (e := 103) (m := k) (sz := 3) rfl (by kernel_rfl) (by kernel_rfl) (cx.anc 0 rfl) (cx.anc 1 rfl) (by omega) (by omega) (hA.ext cx.upd.to_ext) (by have h_ := flatLen (f := cellsV) (sz := 3) cellsV_len rs; show 0 < (List.flatMap cellsV rs).length; omega)
      · exact s4 rfl (fun _ _ _ h => h) fun cx => run_loadElt (f := cellsV) (m := k) (sz := 3) (off := 0) (n := 3) rfl (by kernel_rfl) (by kernel_rfl) (cx.anc 2 rfl) rfl cellsV_len (hA.ext cx.upd.to_ext) (getD_some (ts := rs) (m := k) v0 (by omega)) (fun k hk => match k, hk with | 0, _ => rfl | 1, _ => rfl | 2, _ => rfl | k + 3, hk => absurd hk (by omega))
      · exact sv_call rfl rfl rfl rfl rfl (fun _ _ _ h => h) fun ρ β W X cx => ⟨_, _, run_callF (args := #[.agg #[.int .i64 ((rs.getD k v0).1), .int .i64 ((rs.getD k v0).2.1), .string ((rs.getD k v0).2.2)]]) rfl cx.sees rfl (by kernel_rfl) (map1 (cx.anc 3 rfl)), r02right_any (rs.getD k v0) _⟩
    intro σ β X W7 hD hX hst7 fr hfr
    simp only [zM] at hst7
    dsimp only [mgT, vals, List.take, List.drop, List.cons_append, List.nil_append] at hfr
    clear hX hD; subst hfr; clear σ β X
    refine then_normal ?_
    rcases Bool.eq_false_or_eq_true (vrightF (rs.getD k v0)) with hs8 | hs8
    · skip
      refine wp_cond_false (show Act.eval _ _ = .bool false from (congrArg Value.bool (by rw [hs8]; rfl))) ?_
      refine wp_skip ?_
      refine blk_normal ?_
      refine then_normal ?_
      refine wp_region_P [0, 1, 3] [.k 8 (.int .i64 ((k : Int))), tI 9 ((k : Int) + 1) (by omega), .k 3 (.int .i64 ((k : Int) + 1))] [(3, 2, 1, 4), (4, 0, 2, 6)] hst7 fun W9 hst9 => ?_
      refine then_normal ?_
      refine ⟨rs.length - ((k + 1)), by omega, ?_⟩
      have hp10 := hst9.pick [] (by decide) rfl
      exact ⟨(k + 1), [(u3_.getD 0 undef), .int .i64 ((k : Int)), .slice RA rs.length rc, .int .i64 ((rs.length : Int)), .bool (decide ((k : Int) < (rs.length : Int))), .int .i64 ((k : Int)), .int .i64 ((k : Int) + 1), .slice RA rs.length rc, .int .i64 ((k : Int)), .pointer (some ((ad RA).add (k * 3))), .agg #[.int .i64 ((rs.getD k v0).1), .int .i64 ((rs.getD k v0).2.1), .string ((rs.getD k v0).2.2)], .bool (vrightF (rs.getD k v0)), .bool (!(vrightF (rs.getD k v0)))], by omega, rright_step (by omega) hka hs8, rfl, rfl, hp10⟩
    refine wp_cond_true (show Act.eval _ _ = .bool true from (congrArg Value.bool (by rw [hs8]; rfl))) ?_
    refine wp_seq ?_
    refine wp_region_P [0] [.k 2 (.bool false)] [(2, 0, 1, 3)] hst7 fun W11 hst11 => ?_
    refine then_normal ?_
    refine wp_ret ?_
    refine blk_ret ?_
    refine then_ret ?_
    refine then_ret ?_
    refine blk_ret ?_
    refine then_ret ?_
    refine bodyPost_ret (v := .bool false) (results_tmp Tryd.results61 rfl) rfl ?_
    exact Ret.bool (rright_bad (by omega) hs8).symm hst11.ext
  have hs6p : ¬ ((k : Int) < (rs.length : Int)) := by simpa using hs6
  refine wp_cond_false (show Act.eval _ _ = .bool false from (congrArg Value.bool hs6)) ?_
  refine wp_exit ?_
  refine then_exit ?_
  refine then_exit ?_
  refine blk_eq ?_
  refine then_normal ?_
  refine wp_seq ?_
  refine wp_region_P [0, 1, 3, 7] [.k 16 (.slice RA rs.length rc), .k 17 (.int .i64 ((rs.length : Int))), .k 18 (.bool (decide ((rs.length : Int) ≤ 6))), .k 2 (.bool (decide ((rs.length : Int) ≤ 6)))] [(2, 3, 1, 3), (13, 0, 3, 16)] hst5 fun W12 hst12 => ?_
  refine then_normal ?_
  refine wp_ret ?_
  refine bodyPost_ret (v := .bool (decide ((rs.length : Int) ≤ 6))) (results_tmp Tryd.results61 rfl) rfl ?_
  exact Ret.bool (by rw [rright_end (by omega) hka, decide_eq_decide]; omega) hst12.ext

set_option maxRecDepth 100000 in
set_option maxHeartbeats 2000000 in
theorem r02whole_any (N : Int) (w : World) :
    Calls Tryd.prog 112 #[.int .i64 N] w (Ret (.string (putS N 8)) w) := by
  go_enter Tryd.func112, Tryd.ntmps112
  have hst0 := St.start w
  refine wp_seq ?_
  refine wp_region_P [0] [.k 2 (.string ⟨#[]⟩)] [(2, 0, 1, 3)] hst0 fun W1 hst1 => ?_
  refine then_normal ?_
  refine wp_seq ?_
  refine wp_region_P [0] [.k 3 (.string ⟨#[]⟩)] [(3, 0, 1, 4)] hst1 fun W2 hst2 => ?_
  refine then_normal ?_
  refine wp_seq ?_
  refine wp_seq ?_
  refine wp_region_P [0] [.k 4 (.int .i64 0)] [(4, 0, 1, 5)] hst2 fun W3 hst3 => ?_
  refine then_normal ?_
  refine wp_block ?_
  refine wp_loopN (fun mz az W => ∃ k : Nat, ∃ u4_ : List Value, k ≤ 8 ∧ mz = 8 - k ∧ az = ⟨#[.int .i64 (shN N k), undef, .string ⟨#[]⟩, .string (putS N k), .int .i64 ((k : Int)), (u4_.getD 0 undef), (u4_.getD 1 undef), (u4_.getD 2 undef), (u4_.getD 3 undef), (u4_.getD 4 undef), (u4_.getD 5 undef), (u4_.getD 6 undef), (u4_.getD 7 undef), (u4_.getD 8 undef), (u4_.getD 9 undef), (u4_.getD 10 undef), undef], []⟩ ∧ St w [] [] W) (8 - 0) ?_ ?_
  · -- the loop begins
    have hp5 := hst3.pick [] (by decide) rfl
    exact ⟨0, [undef, undef, undef, undef, undef, undef, undef, undef, undef, undef, undef], by omega, rfl, (by rw [shN_0, putS_0]; rfl), hp5⟩
  rintro n4 a4 W4 ⟨k, u4_, hk, rfl, rfl, hst4⟩
  refine wp_seq ?_
  refine wp_seq ?_
  refine wp_region_P [0, 1] [.k 5 (.int .i64 ((k : Int))), .k 6 (.bool (decide ((k : Int) < 8)))] [(5, 0, 2, 7)] hst4 fun W6 hst6 => ?_
  refine then_normal ?_
  rcases Bool.eq_false_or_eq_true (decide ((k : Int) < 8)) with hs7 | hs7
  · skip
    have hs7p : (k : Int) < 8 := by simpa using hs7
    refine wp_cond_true (show Act.eval _ _ = .bool true from (congrArg Value.bool hs7)) ?_
    refine wp_skip ?_
    refine then_normal ?_
    refine wp_seq ?_
    refine wp_block ?_
    refine wp_seq ?_
    refine wp_region_T [0, 1, 3, 0, 15, 31] [] [] [] [.k 9 (.int .i64 (shN N k)), tAn 10 .i64 (shN N k) 255 ((shN N k) % 256) (bits_mask (shN N k) 8 (by decide)), .c 11 (.string (oneS ((shN N k) % 256))), .k 12 (.string (putS N k)), .c 13 (.string (putS N (k + 1))), .k 3 (.string (putS N (k + 1)))] (fun _ _ _ _ => True) [] [2, 4] [(3, 5, 1, 4), (5, 0, 5, 10)] hst6 ?_ ?_ ?_
    · exact fun _ _ _ _ _ _ _ _ _ _ h => h
    · refine ⟨?_, ?_, trivial⟩
      · exact sv_call rfl rfl rfl rfl rfl (fun _ _ _ h => h) fun ρ β W X cx => ⟨_, _, run_callF (args := #[.int .i64 ((shN N k) % 256)]) rfl cx.sees rfl (by kernel_rfl) (map1 (cx.anc 1 rfl)), one_any ((shN N k) % 256) _⟩
      · exact s4 rfl (fun _ _ _ h => h) fun cx => (by rw [putS_succ N (by omega), ← oneS_of]; exact run_strcat rfl (cx.anc 2 rfl) (cx.anc 3 rfl) (by rw [oneS_size, putS_size N k (by omega)]; first | omega | (simp only [List.length_cons, List.length_nil]; omega)))
    intro σ β X W8 hD hX hst8 fr hfr
    simp only [zM] at hst8
    dsimp only [mgT, vals, List.take, List.drop, List.cons_append, List.nil_append] at hfr
    clear hX hD; subst hfr; clear σ β X
    refine then_normal ?_
    refine wp_region_T [0, 1, 3] [] [] [] [.k 14 (.int .i64 (shN N k)), .c 15 (.int .i64 (shN N (k + 1))), .k 0 (.int .i64 (shN N (k + 1)))] (fun _ _ _ _ => True) [] [1] [(0, 2, 1, 1), (13, 0, 2, 15)] hst8 ?_ ?_ ?_
    · exact fun _ _ _ _ _ _ _ _ _ _ h => h
    · refine ⟨?_, trivial⟩
      · exact s4 rfl (fun _ _ _ h => h) fun cx => run_shr rfl (cx.anc 0 rfl) (cx.sees.const _) (by decide) (shN_succ N k)
    intro σ β X W9 hD hX hst9 fr hfr
    simp only [zM] at hst9
    dsimp only [mgT, vals, List.take, List.drop, List.cons_append, List.nil_append] at hfr
    clear hX hD; subst hfr; clear σ β X
    refine blk_normal ?_
    refine then_normal ?_
    refine wp_region_P [0, 1, 3] [.k 7 (.int .i64 ((k : Int))), tI 8 ((k : Int) + 1) (by omega), .k 4 (.int .i64 ((k : Int) + 1))] [(4, 2, 1, 5), (2, 0, 2, 4)] hst9 fun W10 hst10 => ?_
    refine then_normal ?_
    refine ⟨8 - ((k + 1)), by omega, ?_⟩
    have hp11 := hst10.pick [] (by decide) rfl
    exact ⟨(k + 1), [.int .i64 ((k : Int)), .bool (decide ((k : Int) < 8)), .int .i64 ((k : Int)), .int .i64 ((k : Int) + 1), .int .i64 (shN N k), .int .i64 ((shN N k) % 256), .string (oneS ((shN N k) % 256)), .string (putS N k), .string (putS N (k + 1)), .int .i64 (shN N k), .int .i64 (shN N (k + 1))], by omega, rfl, rfl, hp11⟩
  have hs7p : ¬ ((k : Int) < 8) := by simpa using hs7
  refine wp_cond_false (show Act.eval _ _ = .bool false from (congrArg Value.bool hs7)) ?_
  refine wp_exit ?_
  refine then_exit ?_
  refine then_exit ?_
  refine blk_eq ?_
  refine then_normal ?_
  refine wp_seq ?_
  refine wp_region_P [0, 1] [.k 16 (.string (putS N k)), .k 2 (.string (putS N k))] [(2, 1, 1, 3), (13, 0, 1, 14)] hst6 fun W12 hst12 => ?_
  refine then_normal ?_
  refine wp_ret ?_
  refine bodyPost_ret (v := .string (putS N k)) (results_tmp Tryd.results112 rfl) rfl ?_
  exact Ret.of (by rw [show k = 8 by omega]) hst12.ext

set_option maxRecDepth 100000 in
set_option maxHeartbeats 2000000 in
theorem r04num_any (N : Int) (m : Nat) (w : World) (hm : m ≤ 8) :
    Calls Tryd.prog 64 #[.int .i64 N, .int .i64 ((m : Int))] w (Ret (.string (putS N m)) w) := by
  go_enter Tryd.func64, Tryd.ntmps64
  have hst0 := St.start w
  refine wp_seq ?_
  refine wp_region_P [0] [.k 4 (.string ⟨#[]⟩)] [(4, 0, 1, 5)] hst0 fun W1 hst1 => ?_
  refine then_normal ?_
  refine wp_seq ?_
  refine wp_region_P [0] [.k 5 (.string ⟨#[]⟩)] [(5, 0, 1, 6)] hst1 fun W2 hst2 => ?_
  refine then_normal ?_
  refine wp_seq ?_
  refine wp_seq ?_
  refine wp_region_P [0] [.k 6 (.int .i64 0)] [(6, 0, 1, 7)] hst2 fun W3 hst3 => ?_
  refine then_normal ?_
  refine wp_block ?_
  refine wp_loopN (fun mz az W => ∃ k : Nat, ∃ u4_ : List Value, k ≤ m ∧ mz = m - k ∧ az = ⟨#[.int .i64 (shN N k), .int .i64 ((m : Int)), undef, undef, .string ⟨#[]⟩, .string (putS N k), .int .i64 ((k : Int)), (u4_.getD 0 undef), (u4_.getD 1 undef), (u4_.getD 2 undef), (u4_.getD 3 undef), (u4_.getD 4 undef), (u4_.getD 5 undef), (u4_.getD 6 undef), (u4_.getD 7 undef), (u4_.getD 8 undef), (u4_.getD 9 undef), (u4_.getD 10 undef), (u4_.getD 11 undef), (u4_.getD 12 undef), (u4_.getD 13 undef), undef], []⟩ ∧ St w [] [] W) (m - 0) ?_ ?_
  · -- the loop begins
    have hp5 := hst3.pick [] (by decide) rfl
    exact ⟨0, [undef, undef, undef, undef, undef, undef, undef, undef, undef, undef, undef, undef, undef, undef], by omega, rfl, (by rw [shN_0, putS_0]; rfl), hp5⟩
  rintro n4 a4 W4 ⟨k, u4_, hk, rfl, rfl, hst4⟩
  refine wp_seq ?_
  refine wp_seq ?_
  refine wp_region_P [0, 0, 3] [.k 7 (.int .i64 ((k : Int))), .k 8 (.int .i64 ((m : Int))), .k 9 (.bool (decide ((k : Int) < (m : Int))))] [(7, 0, 3, 10)] hst4 fun W6 hst6 => ?_
  refine then_normal ?_
  rcases Bool.eq_false_or_eq_true (decide ((k : Int) < (m : Int))) with hs7 | hs7
  · skip
    have hs7p : (k : Int) < (m : Int) := by simpa using hs7
    refine wp_cond_true (show Act.eval _ _ = .bool true from (congrArg Value.bool hs7)) ?_
    refine wp_skip ?_
    refine then_normal ?_
    refine wp_seq ?_
    refine wp_block ?_
    refine wp_seq ?_
    refine wp_region_T [0, 1, 3, 7, 15, 0, 63, 127] [[], [], [], [], [0]] [[], [], [], [0]] [] [.k 12 (.int .i64 (shN N k)), tAn 13 .i64 (shN N k) 255 ((shN N k) % 256) (bits_mask (shN N k) 8 (by decide)), tW 14 .u8 ((shN N k) % 256) ((shN N k) % 256) (IntWalk.u8_in _ (by omega)), .a 15, .c 16 (.string (strOfNums ([((shN N k) % 256)]))), .k 17 (.string (putS N k)), .c 18 (.string (putS N (k + 1))), .k 5 (.string (putS N (k + 1)))] (fun ix σ β X => match ix with | 0 => True | 1 => True | 2 => True | 3 => σ 15 = .slice (sA (β 15)) 1 1 ∧ X 0 = eO 5 1 (.slice (sA (β 15)) 1 1) 1 ([.int .u8 ((shN N k) % 256)]) | _ => True) [0] [3, 4, 6] [(5, 7, 1, 6), (6, 0, 7, 13)] hst6 ?_ ?_ ?_
    · exact fun ix _ _ _ _ _ _ hs hb hx h => match ix, h with
      | 3, h => by dsimp only at h ⊢; rw [← hs 15 rfl, ← hb 15 rfl, ← hx 0 rfl]; exact h
      | 0, _ | 1, _ | 2, _ | _ + 4, _ => trivial
    · refine ⟨?_, ?_, ?_, trivial⟩
      · refine sv_any rfl rfl fun ρ β W X cx => ?_
        have fF14 : ρ (.tmp 14) = .int .u8 ((shN N k) % 256) := (cx.anc 2 rfl)
        exact dv_lit (e := 5) (xs := [.int .u8 ((shN N k) % 256)]) rfl (by simp [go_sem, fF14]) rfl (by decide) rfl rfl (fun σ β' X' hs hb hv hx => ⟨hv, hx⟩)
      · exact s4 rfl (fun _ _ _ h => h) fun cx => run_convB (e := 5) rfl (by kernel_rfl) (by kernel_rfl) (by kernel_rfl) (dTn (cx.anc 3 rfl)).1 (cx.row (dTn (cx.anc 3 rfl)).2 rfl)
      · exact s4 rfl (fun _ _ _ h => h) fun cx => (by rw [putS_succ N (by omega)]; exact run_strcat rfl (cx.anc 4 rfl) (cx.anc 5 rfl) (by rw [strOfNums_size, putS_size N k (by omega)]; first | omega | (simp only [List.length_cons, List.length_nil]; omega)))
    intro σ β X W8 hD hX hst8 fr hfr
    obtain ⟨A15_8, hu_A15_8⟩ : ∃ z, sA (β 15) = z := ⟨_, rfl⟩
    simp only [zM, exq 0 ((dTn (hD 3 lq)).2), hu_A15_8] at hst8
    dsimp only [mgT, vals, List.take, List.drop, List.cons_append, List.nil_append] at hfr
    simp only [ed 15 ((dTn (hD 3 lq)).1), hu_A15_8] at hfr
    clear hX hD hu_A15_8; subst hfr; clear σ β X
    refine then_normal ?_
    refine wp_region_T [0, 1, 3] [] [] [] [.k 19 (.int .i64 (shN N k)), .c 20 (.int .i64 (shN N (k + 1))), .k 0 (.int .i64 (shN N (k + 1)))] (fun _ _ _ _ => True) [0] [1] [(0, 2, 1, 1), (18, 0, 2, 20)] hst8 ?_ ?_ ?_
    · exact fun _ _ _ _ _ _ _ _ _ _ h => h
    · refine ⟨?_, trivial⟩
      · exact s4 rfl (fun _ _ _ h => h) fun cx => run_shr rfl (cx.anc 0 rfl) (cx.sees.const _) (by decide) (shN_succ N k)
    intro σ β X W9 hD hX hst9 fr hfr
    simp only [zM, exq 0 (hX 0 _ rfl)] at hst9
    dsimp only [mgT, vals, List.take, List.drop, List.cons_append, List.nil_append] at hfr
    clear hX hD; subst hfr; clear σ β X
    refine blk_normal ?_
    refine then_normal ?_
    refine wp_region_P [0, 1, 3] [.k 10 (.int .i64 ((k : Int))), tI 11 ((k : Int) + 1) (by omega), .k 6 (.int .i64 ((k : Int) + 1))] [(6, 2, 1, 7), (3, 0, 2, 5)] hst9 fun W10 hst10 => ?_
    refine then_normal ?_
    refine ⟨m - ((k + 1)), by omega, ?_⟩
    have hp11 := hst10.pick [] (by decide) rfl
    exact ⟨(k + 1), [.int .i64 ((k : Int)), .int .i64 ((m : Int)), .bool (decide ((k : Int) < (m : Int))), .int .i64 ((k : Int)), .int .i64 ((k : Int) + 1), .int .i64 (shN N k), .int .i64 ((shN N k) % 256), .int .u8 ((shN N k) % 256), .slice A15_8 1 1, .string (strOfNums ([((shN N k) % 256)])), .string (putS N k), .string (putS N (k + 1)), .int .i64 (shN N k), .int .i64 (shN N (k + 1))], by omega, rfl, rfl, hp11⟩
  have hs7p : ¬ ((k : Int) < (m : Int)) := by simpa using hs7
  refine wp_cond_false (show Act.eval _ _ = .bool false from (congrArg Value.bool hs7)) ?_
  refine wp_exit ?_
  refine then_exit ?_
  refine then_exit ?_
  refine blk_eq ?_
  refine then_normal ?_
  refine wp_seq ?_
  refine wp_region_P [0, 1] [.k 21 (.string (putS N k)), .k 4 (.string (putS N k))] [(4, 1, 1, 5), (16, 0, 1, 17)] hst6 fun W12 hst12 => ?_
  refine then_normal ?_
  refine wp_ret ?_
  refine bodyPost_ret (v := .string (putS N k)) (results_tmp Tryd.results64 rfl) rfl ?_
  exact Ret.of (by rw [show k = m by omega]) hst12.ext

set_option maxRecDepth 100000 in
set_option maxHeartbeats 4000000 in
theorem r02bytes_any (RA : Option Addr) (rc : Nat) (rs : List Val) (w : World) (hA : At w RA (flatR rs)) (hlr : rs.length ≤ 9223372036854775807) :
    Calls Tryd.prog 63 #[.slice RA rs.length rc] w (Ret (.string (vbytesF rs)) w) := by
  go_enter Tryd.func63, Tryd.ntmps63
  have hst0 := St.start w
  refine wp_seq ?_
  refine wp_region_P [0] [.k 2 (.string ⟨#[]⟩)] [(2, 0, 1, 3)] hst0 fun W1 hst1 => ?_
  refine then_normal ?_
  refine wp_seq ?_
  refine wp_seq ?_
  refine wp_region_T [0, 1, 3] [] [] [] [.k 5 (.slice RA rs.length rc), .c 6 (.bool (rrightF rs)), .k 7 (.bool (!(rrightF rs)))] (fun _ _ _ _ => True) [] [1] [(5, 0, 3, 8)] hst1 ?_ ?_ ?_
  · exact fun _ _ _ _ _ _ _ _ _ _ h => h
  · refine ⟨?_, trivial⟩
    · exact sv_call rfl rfl rfl rfl rfl (fun _ _ _ h => h) fun ρ β W X cx => ⟨_, _, run_callF (args := #[.slice RA rs.length rc]) rfl cx.sees rfl (by kernel_rfl) (map1 (cx.anc 0 rfl)), r02row_any _ _ rs _ (hA.ext cx.upd.to_ext) (by omega)⟩
  intro σ β X W2 hD hX hst2 fr hfr
  simp only [zM] at hst2
  dsimp only [mgT, vals, List.take, List.drop, List.cons_append, List.nil_append] at hfr
  clear hX hD; subst hfr; clear σ β X
  refine then_normal ?_
  rcases Bool.eq_false_or_eq_true (rrightF rs) with hs3 | hs3
  · skip
    refine wp_cond_false (show Act.eval _ _ = .bool false from (congrArg Value.bool (by rw [hs3]; rfl))) ?_
    refine wp_skip ?_
    refine then_normal ?_
    refine wp_seq ?_
    refine wp_region_T [0, 1, 3, 7] [] [] [] [.k 8 (.slice RA rs.length rc), .k 9 (.int .i64 ((rs.length : Int))), .c 10 (.string (oneS (rs.length : Int))), .k 3 (.string (oneS (rs.length : Int)))] (fun _ _ _ _ => True) [] [2] [(3, 3, 1, 4), (4, 0, 3, 7)] hst2 ?_ ?_ ?_
    · exact fun _ _ _ _ _ _ _ _ _ _ h => h
    · refine ⟨?_, trivial⟩
      · exact sv_call rfl rfl rfl rfl rfl (fun _ _ _ h => h) fun ρ β W X cx => ⟨_, _, run_callF (args := #[.int .i64 ((rs.length : Int))]) rfl cx.sees rfl (by kernel_rfl) (map1 (cx.anc 1 rfl)), one_any (rs.length : Int) _⟩
    intro σ β X W4 hD hX hst4 fr hfr
    simp only [zM] at hst4
    dsimp only [mgT, vals, List.take, List.drop, List.cons_append, List.nil_append] at hfr
    clear hX hD; subst hfr; clear σ β X
    refine then_normal ?_
    refine wp_seq ?_
    refine wp_seq ?_
    refine wp_region_P [0] [.k 4 (.int .i64 0)] [(4, 0, 1, 5)] hst4 fun W5 hst5 => ?_
    refine then_normal ?_
    refine wp_block ?_
    refine wp_loopN (fun mz az W => ∃ k : Nat, ∃ u6_ : List Value, k ≤ rs.length ∧ mz = rs.length - k ∧ az = ⟨#[.slice RA rs.length rc, undef, .string ⟨#[]⟩, .string (strL (bytesTo rs k)), .int .i64 ((k : Int)), .slice RA rs.length rc, .bool (rrightF rs), .bool (!(rrightF rs)), .slice RA rs.length rc, .int .i64 ((rs.length : Int)), .string (oneS (rs.length : Int)), (u6_.getD 0 undef), (u6_.getD 1 undef), (u6_.getD 2 undef), (u6_.getD 3 undef), (u6_.getD 4 undef), (u6_.getD 5 undef), (u6_.getD 6 undef), (u6_.getD 7 undef), (u6_.getD 8 undef), (u6_.getD 9 undef), (u6_.getD 10 undef), (u6_.getD 11 undef), (u6_.getD 12 undef), (u6_.getD 13 undef), (u6_.getD 14 undef), (u6_.getD 15 undef), (u6_.getD 16 undef), (u6_.getD 17 undef), (u6_.getD 18 undef), (u6_.getD 19 undef), (u6_.getD 20 undef), (u6_.getD 21 undef), (u6_.getD 22 undef), (u6_.getD 23 undef), (u6_.getD 24 undef), (u6_.getD 25 undef), (u6_.getD 26 undef), (u6_.getD 27 undef), (u6_.getD 28 undef), (u6_.getD 29 undef), (u6_.getD 30 undef), (u6_.getD 31 undef), (u6_.getD 32 undef), (u6_.getD 33 undef), (u6_.getD 34 undef), (u6_.getD 35 undef), (u6_.getD 36 undef), (u6_.getD 37 undef), (u6_.getD 38 undef), (u6_.getD 39 undef), (u6_.getD 40 undef), (u6_.getD 41 undef), (u6_.getD 42 undef), (u6_.getD 43 undef), (u6_.getD 44 undef), (u6_.getD 45 undef), (u6_.getD 46 undef), (u6_.getD 47 undef), (u6_.getD 48 undef), undef], []⟩ ∧ St w [] [] W) (rs.length - 0) ?_ ?_
    · -- the loop begins
      have hp7 := hst5.pick [] (by decide) rfl
      exact ⟨0, [undef, undef, undef, undef, undef, undef, undef, undef, undef, undef, undef, undef, undef, undef, undef, undef, undef, undef, undef, undef, undef, undef, undef, undef, undef, undef, undef, undef, undef, undef, undef, undef, undef, undef, undef, undef, undef, undef, undef, undef, undef, undef, undef, undef, undef, undef, undef, undef, undef], by omega, rfl, (by rw [bt_0, ← oneS_strL (x := ((rs.length : Nat) : Int)) (by have := rright_len (by assumption : rrightF rs = true); omega)]; rfl), hp7⟩
    rintro n6 a6 W6 ⟨k, u6_, hk, rfl, rfl, hst6⟩
    refine wp_seq ?_
    refine wp_seq ?_
    refine wp_region_P [0, 0, 2, 7] [.k 11 (.int .i64 ((k : Int))), .k 12 (.slice RA rs.length rc), .k 13 (.int .i64 ((rs.length : Int))), .k 14 (.bool (decide ((k : Int) < (rs.length : Int))))] [(11, 0, 4, 15)] hst6 fun W8 hst8 => ?_
    refine then_normal ?_
    rcases Bool.eq_false_or_eq_true (decide ((k : Int) < (rs.length : Int))) with hs9 | hs9
    · skip
      have hs9p : (k : Int) < (rs.length : Int) := by simpa using hs9
      refine wp_cond_true (show Act.eval _ _ = .bool true from (congrArg Value.bool hs9)) ?_
      refine wp_skip ?_
      refine then_normal ?_
      refine wp_seq ?_
      refine wp_block ?_
      refine wp_seq ?_
      obtain ⟨u, hu⟩ : ∃ z, rs.getD k v0 = z := ⟨_, rfl⟩
      have hvu : vrightF (rs.getD k v0) = true := rright_at (by assumption) (by omega)
      have hpu := vright_parts hvu
      have hbl := bt_len (by assumption : rrightF rs = true) k
      have hbl1 := bt_len (by assumption : rrightF rs = true) (k + 1)
      refine wp_region_T [0, 0, 0, 6, 14, 30, 62, 127, 255] [] [] [] [.k 17 (.string (strL (bytesTo rs k))), .k 18 (.slice RA rs.length rc), .k 19 (.int .i64 ((k : Int))), .c 20 (.pointer (some ((ad RA).add (k * 3)))), .c 21 (.pointer (some ((ad RA).add (k * 3 + 0)))), .c 22 (.int .i64 ((rs.getD k v0).1)), .c 23 (.string (oneS ((rs.getD k v0).1))), .c 24 (.string (strL (bytesTo rs k ++ [UInt8.ofNat (rs.getD k v0).1.toNat]))), .k 3 (.string (strL (bytesTo rs k ++ [UInt8.ofNat (rs.getD k v0).1.toNat])))] (fun _ _ _ _ => True) [] [3, 4, 5, 6, 7] [(3, 8, 1, 4), (13, 0, 8, 21)] hst8 ?_ ?_ ?_
      · exact fun _ _ _ _ _ _ _ _ _ _ h => h
      · refine ⟨?_, ?_, ?_, ?_, ?_, trivial⟩
        · exact s4 rfl (fun _ _ _ h => h) fun cx => run_indexSlM (e := 103) (m := k) (sz := 3) rfl (by kernel_rfl) (by kernel_rfl) (cx.anc 1 rfl) (cx.anc 2 rfl) (by omega) (by omega) (hA.ext cx.upd.to_ext) (by have h_ := flatLen (f := cellsV) (sz := 3) cellsV_len rs; show 0 < (List.flatMap cellsV rs).length; omega)
        · exact s4 rfl (fun _ _ _ h => h) fun cx => run_fieldAd rfl (by kernel_rfl) (cx.anc 3 rfl)
        · exact s4 rfl (fun _ _ _ h => h) fun cx => run_load1 rfl (by kernel_rfl) (cx.anc 4 rfl) (At.eltc (f := cellsV) (k := 0) cellsV_len (hA.ext cx.upd.to_ext) (getD_some (ts := rs) (m := k) v0 (by omega)) rfl)
        · exact sv_call rfl rfl rfl rfl rfl (fun _ _ _ h => h) fun ρ β W X cx => ⟨_, _, run_callF (args := #[.int .i64 ((rs.getD k v0).1)]) rfl cx.sees rfl (by kernel_rfl) (map1 (cx.anc 5 rfl)), one_any ((rs.getD k v0).1) _⟩
        · exact s4 rfl (fun _ _ _ h => h) fun cx => (by rw [← strL_app, ← oneS_strL (by omega)]; exact run_strcat rfl (cx.anc 0 rfl) (cx.anc 6 rfl) (by rw [oneS_size]; simp only [strL_size, List.length_append, List.length_cons, List.length_nil]; omega))
      intro σ β X W10 hD hX hst10 fr hfr
      simp only [zM] at hst10
      dsimp only [mgT, vals, List.take, List.drop, List.cons_append, List.nil_append] at hfr
      clear hX hD; subst hfr; clear σ β X
      refine then_normal ?_
      refine wp_seq ?_
      refine wp_seq ?_
      refine wp_region_T [0, 0, 3, 7, 15, 31] [] [] [] [.k 25 (.slice RA rs.length rc), .k 26 (.int .i64 ((k : Int))), .c 27 (.pointer (some ((ad RA).add (k * 3)))), .c 28 (.pointer (some ((ad RA).add (k * 3 + 0)))), .c 29 (.int .i64 ((rs.getD k v0).1)), .k 30 (.bool (((rs.getD k v0).1) == 1))] (fun _ _ _ _ => True) [] [2, 3, 4] [(25, 0, 6, 31)] hst10 ?_ ?_ ?_
      · exact fun _ _ _ _ _ _ _ _ _ _ h => h
      · refine ⟨?_, ?_, ?_, trivial⟩
        · exact s4 rfl (fun _ _ _ h => h) fun cx => run_indexSlM (e := 103) (m := k) (sz := 3) rfl (by kernel_rfl) (by kernel_rfl) (cx.anc 0 rfl) (cx.anc 1 rfl) (by omega) (by omega) (hA.ext cx.upd.to_ext) (by have h_ := flatLen (f := cellsV) (sz := 3) cellsV_len rs; show 0 < (List.flatMap cellsV rs).length; omega)
        · exact s4 rfl (fun _ _ _ h => h) fun cx => run_fieldAd rfl (by kernel_rfl) (cx.anc 2 rfl)
        · exact s4 rfl (fun _ _ _ h => h) fun cx => run_load1 rfl (by kernel_rfl) (cx.anc 3 rfl) (At.eltc (f := cellsV) (k := 0) cellsV_len (hA.ext cx.upd.to_ext) (getD_some (ts := rs) (m := k) v0 (by omega)) rfl)
      intro σ β X W11 hD hX hst11 fr hfr
      simp only [zM] at hst11
      dsimp only [mgT, vals, List.take, List.drop, List.cons_append, List.nil_append] at hfr
      clear hX hD; subst hfr; clear σ β X
      refine then_normal ?_
      rcases Bool.eq_false_or_eq_true (((rs.getD k v0).1) == 1) with hs12 | hs12
      · skip
        have hs12p : ((rs.getD k v0).1) = 1 := by simpa using hs12
        refine wp_cond_true (show Act.eval _ _ = .bool true from (congrArg Value.bool hs12)) ?_
        refine wp_region_T [0, 0, 0, 6, 14, 30, 62, 127, 255] [] [] [] [.k 31 (.string (strL (bytesTo rs k ++ [UInt8.ofNat (rs.getD k v0).1.toNat]))), .k 32 (.slice RA rs.length rc), .k 33 (.int .i64 ((k : Int))), .c 34 (.pointer (some ((ad RA).add (k * 3)))), .c 35 (.pointer (some ((ad RA).add (k * 3 + 1)))), .c 36 (.int .i64 ((rs.getD k v0).2.1)), .c 37 (.string (putS ((rs.getD k v0).2.1) 8)), .c 38 (.string (strL (bytesTo rs (k + 1)))), .k 3 (.string (strL (bytesTo rs (k + 1))))] (fun _ _ _ _ => True) [] [3, 4, 5, 6, 7] [(3, 8, 1, 4), (27, 0, 8, 35)] hst11 ?_ ?_ ?_
        · exact fun _ _ _ _ _ _ _ _ _ _ h => h
        · refine ⟨?_, ?_, ?_, ?_, ?_, trivial⟩
          · exact s4 rfl (fun _ _ _ h => h) fun cx => run_indexSlM (e := 103) (m := k) (sz := 3) rfl (by kernel_rfl) (by kernel_rfl) (cx.anc 1 rfl) (cx.anc 2 rfl) (by omega) (by omega) (hA.ext cx.upd.to_ext) (by have h_ := flatLen (f := cellsV) (sz := 3) cellsV_len rs; show 0 < (List.flatMap cellsV rs).length; omega)
          · exact s4 rfl (fun _ _ _ h => h) fun cx => run_fieldAd rfl (by kernel_rfl) (cx.anc 3 rfl)
          · exact s4 rfl (fun _ _ _ h => h) fun cx => run_load1 rfl (by kernel_rfl) (cx.anc 4 rfl) (At.eltc (f := cellsV) (k := 1) cellsV_len (hA.ext cx.upd.to_ext) (getD_some (ts := rs) (m := k) v0 (by omega)) rfl)
          · exact sv_call rfl rfl rfl rfl rfl (fun _ _ _ h => h) fun ρ β W X cx => ⟨_, _, run_callF (args := #[.int .i64 ((rs.getD k v0).2.1)]) rfl cx.sees rfl (by kernel_rfl) (map1 (cx.anc 5 rfl)), r02whole_any ((rs.getD k v0).2.1) _⟩
          · exact s4 rfl (fun _ _ _ h => h) fun cx => (by rw [← bt_int (by omega) (by assumption), ← strL_app, strL_data]; exact run_strcat rfl (cx.anc 0 rfl) (cx.anc 6 rfl) (by rw [putS_size _ 8 (by omega)]; simp only [strL_size, List.length_append, List.length_cons, List.length_nil]; omega))
        intro σ β X W13 hD hX hst13 fr hfr
        simp only [zM] at hst13
        dsimp only [mgT, vals, List.take, List.drop, List.cons_append, List.nil_append] at hfr
        clear hX hD; subst hfr; clear σ β X
        refine then_normal ?_
        refine wp_seq ?_
        refine wp_region_T [0, 0, 3, 7, 15, 31] [] [] [] [.k 39 (.slice RA rs.length rc), .k 40 (.int .i64 ((k : Int))), .c 41 (.pointer (some ((ad RA).add (k * 3)))), .c 42 (.pointer (some ((ad RA).add (k * 3 + 0)))), .c 43 (.int .i64 ((rs.getD k v0).1)), .k 44 (.bool (((rs.getD k v0).1) == 2))] (fun _ _ _ _ => True) [] [2, 3, 4] [(39, 0, 6, 45)] hst13 ?_ ?_ ?_
        · exact fun _ _ _ _ _ _ _ _ _ _ h => h
        · refine ⟨?_, ?_, ?_, trivial⟩
          · exact s4 rfl (fun _ _ _ h => h) fun cx => run_indexSlM (e := 103) (m := k) (sz := 3) rfl (by kernel_rfl) (by kernel_rfl) (cx.anc 0 rfl) (cx.anc 1 rfl) (by omega) (by omega) (hA.ext cx.upd.to_ext) (by have h_ := flatLen (f := cellsV) (sz := 3) cellsV_len rs; show 0 < (List.flatMap cellsV rs).length; omega)
          · exact s4 rfl (fun _ _ _ h => h) fun cx => run_fieldAd rfl (by kernel_rfl) (cx.anc 2 rfl)
          · exact s4 rfl (fun _ _ _ h => h) fun cx => run_load1 rfl (by kernel_rfl) (cx.anc 3 rfl) (At.eltc (f := cellsV) (k := 0) cellsV_len (hA.ext cx.upd.to_ext) (getD_some (ts := rs) (m := k) v0 (by omega)) rfl)
        intro σ β X W14 hD hX hst14 fr hfr
        simp only [zM] at hst14
        dsimp only [mgT, vals, List.take, List.drop, List.cons_append, List.nil_append] at hfr
        clear hX hD; subst hfr; clear σ β X
        refine then_normal ?_
        rcases Bool.eq_false_or_eq_true (((rs.getD k v0).1) == 2) with hs15 | hs15
        · skip
          have hs15p : ((rs.getD k v0).1) = 2 := by simpa using hs15
          exfalso; omega
        have hs15p : ((rs.getD k v0).1) ≠ 2 := by simpa using hs15
        refine wp_cond_false (show Act.eval _ _ = .bool false from (congrArg Value.bool hs15)) ?_
        refine wp_skip ?_
        refine blk_normal ?_
        refine then_normal ?_
        refine wp_region_P [0, 1, 3] [.k 15 (.int .i64 ((k : Int))), tI 16 ((k : Int) + 1) (by omega), .k 4 (.int .i64 ((k : Int) + 1))] [(4, 2, 1, 5), (10, 0, 2, 12)] hst14 fun W16 hst16 => ?_
        refine then_normal ?_
        refine ⟨rs.length - ((k + 1)), by omega, ?_⟩
        have hp17 := hst16.pick [] (by decide) rfl
        exact ⟨(k + 1), [.int .i64 ((k : Int)), .slice RA rs.length rc, .int .i64 ((rs.length : Int)), .bool (decide ((k : Int) < (rs.length : Int))), .int .i64 ((k : Int)), .int .i64 ((k : Int) + 1), .string (strL (bytesTo rs k)), .slice RA rs.length rc, .int .i64 ((k : Int)), .pointer (some ((ad RA).add (k * 3))), .pointer (some ((ad RA).add (k * 3 + 0))), .int .i64 ((rs.getD k v0).1), .string (oneS ((rs.getD k v0).1)), .string (strL (bytesTo rs k ++ [UInt8.ofNat (rs.getD k v0).1.toNat])), .slice RA rs.length rc, .int .i64 ((k : Int)), .pointer (some ((ad RA).add (k * 3))), .pointer (some ((ad RA).add (k * 3 + 0))), .int .i64 ((rs.getD k v0).1), .bool (((rs.getD k v0).1) == 1), .string (strL (bytesTo rs k ++ [UInt8.ofNat (rs.getD k v0).1.toNat])), .slice RA rs.length rc, .int .i64 ((k : Int)), .pointer (some ((ad RA).add (k * 3))), .pointer (some ((ad RA).add (k * 3 + 1))), .int .i64 ((rs.getD k v0).2.1), .string (putS ((rs.getD k v0).2.1) 8), .string (strL (bytesTo rs (k + 1))), .slice RA rs.length rc, .int .i64 ((k : Int)), .pointer (some ((ad RA).add (k * 3))), .pointer (some ((ad RA).add (k * 3 + 0))), .int .i64 ((rs.getD k v0).1), .bool (((rs.getD k v0).1) == 2), (u6_.getD 34 undef), (u6_.getD 35 undef), (u6_.getD 36 undef), (u6_.getD 37 undef), (u6_.getD 38 undef), (u6_.getD 39 undef), (u6_.getD 40 undef), (u6_.getD 41 undef), (u6_.getD 42 undef), (u6_.getD 43 undef), (u6_.getD 44 undef), (u6_.getD 45 undef), (u6_.getD 46 undef), (u6_.getD 47 undef), (u6_.getD 48 undef)], by omega, rfl, rfl, hp17⟩
      have hs12p : ((rs.getD k v0).1) ≠ 1 := by simpa using hs12
      refine wp_cond_false (show Act.eval _ _ = .bool false from (congrArg Value.bool hs12)) ?_
      refine wp_skip ?_
      refine then_normal ?_
      refine wp_seq ?_
      refine wp_region_T [0, 0, 3, 7, 15, 31] [] [] [] [.k 39 (.slice RA rs.length rc), .k 40 (.int .i64 ((k : Int))), .c 41 (.pointer (some ((ad RA).add (k * 3)))), .c 42 (.pointer (some ((ad RA).add (k * 3 + 0)))), .c 43 (.int .i64 ((rs.getD k v0).1)), .k 44 (.bool (((rs.getD k v0).1) == 2))] (fun _ _ _ _ => True) [] [2, 3, 4] [(39, 0, 6, 45)] hst11 ?_ ?_ ?_
      · exact fun _ _ _ _ _ _ _ _ _ _ h => h
      · refine ⟨?_, ?_, ?_, trivial⟩
        · exact s4 rfl (fun _ _ _ h => h) fun cx => run_indexSlM (e := 103) (m := k) (sz := 3) rfl (by kernel_rfl) (by kernel_rfl) (cx.anc 0 rfl) (cx.anc 1 rfl) (by omega) (by omega) (hA.ext cx.upd.to_ext) (by have h_ := flatLen (f := cellsV) (sz := 3) cellsV_len rs; show 0 < (List.flatMap cellsV rs).length; omega)
        · exact s4 rfl (fun _ _ _ h => h) fun cx => run_fieldAd rfl (by kernel_rfl) (cx.anc 2 rfl)
        · exact s4 rfl (fun _ _ _ h => h) fun cx => run_load1 rfl (by kernel_rfl) (cx.anc 3 rfl) (At.eltc (f := cellsV) (k := 0) cellsV_len (hA.ext cx.upd.to_ext) (getD_some (ts := rs) (m := k) v0 (by omega)) rfl)
      intro σ β X W18 hD hX hst18 fr hfr
      simp only [zM] at hst18
      dsimp only [mgT, vals, List.take, List.drop, List.cons_append, List.nil_append] at hfr
      clear hX hD; subst hfr; clear σ β X
      refine then_normal ?_
      rcases Bool.eq_false_or_eq_true (((rs.getD k v0).1) == 2) with hs19 | hs19
      · skip
        have hs19p : ((rs.getD k v0).1) = 2 := by simpa using hs19
        refine wp_cond_true (show Act.eval _ _ = .bool true from (congrArg Value.bool hs19)) ?_
        refine wp_region_T [0, 0, 0, 6, 14, 30, 62, 126, 255, 0, 0, 1536, 3584, 7680, 16383, 32767] [] [] [] [.k 45 (.string (strL (bytesTo rs k ++ [UInt8.ofNat (rs.getD k v0).1.toNat]))), .k 46 (.slice RA rs.length rc), .k 47 (.int .i64 ((k : Int))), .c 48 (.pointer (some ((ad RA).add (k * 3)))), .c 49 (.pointer (some ((ad RA).add (k * 3 + 2)))), .c 50 (.string ((rs.getD k v0).2.2)), .k 51 (.int .i64 ((((rs.getD k v0).2.2).size : Int))), .c 52 (.string (oneS (((rs.getD k v0).2.2).size : Int))), .c 53 (.string (strL ((bytesTo rs k ++ [UInt8.ofNat (rs.getD k v0).1.toNat]) ++ [UInt8.ofNat (((rs.getD k v0).2.2.size : Nat) : Int).toNat]))), .k 54 (.slice RA rs.length rc), .k 55 (.int .i64 ((k : Int))), .c 56 (.pointer (some ((ad RA).add (k * 3)))), .c 57 (.pointer (some ((ad RA).add (k * 3 + 2)))), .c 58 (.string ((rs.getD k v0).2.2)), .c 59 (.string (strL (bytesTo rs (k + 1)))), .k 3 (.string (strL (bytesTo rs (k + 1))))] (fun _ _ _ _ => True) [] [3, 4, 5, 7, 8, 11, 12, 13, 14] [(3, 15, 1, 4), (41, 0, 15, 56)] hst18 ?_ ?_ ?_
        · exact fun _ _ _ _ _ _ _ _ _ _ h => h
        · refine ⟨?_, ?_, ?_, ?_, ?_, ?_, ?_, ?_, ?_, trivial⟩
          · exact s4 rfl (fun _ _ _ h => h) fun cx => run_indexSlM (e := 103) (m := k) (sz := 3) rfl (by kernel_rfl) (by kernel_rfl) (cx.anc 1 rfl) (cx.anc 2 rfl) (by omega) (by omega) (hA.ext cx.upd.to_ext) (by have h_ := flatLen (f := cellsV) (sz := 3) cellsV_len rs; show 0 < (List.flatMap cellsV rs).length; omega)
          · exact s4 rfl (fun _ _ _ h => h) fun cx => run_fieldAd rfl (by kernel_rfl) (cx.anc 3 rfl)
          · exact s4 rfl (fun _ _ _ h => h) fun cx => run_load1 rfl (by kernel_rfl) (cx.anc 4 rfl) (At.eltc (f := cellsV) (k := 2) cellsV_len (hA.ext cx.upd.to_ext) (getD_some (ts := rs) (m := k) v0 (by omega)) rfl)
          · exact sv_call rfl rfl rfl rfl rfl (fun _ _ _ h => h) fun ρ β W X cx => ⟨_, _, run_callF (args := #[.int .i64 ((((rs.getD k v0).2.2).size : Int))]) rfl cx.sees rfl (by kernel_rfl) (map1 (cx.anc 6 rfl)), one_any (((rs.getD k v0).2.2).size : Int) _⟩
          · exact s4 rfl (fun _ _ _ h => h) fun cx => (by rw [← strL_app (bytesTo rs k ++ [UInt8.ofNat (rs.getD k v0).1.toNat]), ← oneS_strL (x := (((rs.getD k v0).2.2.size : Nat) : Int)) (by have := hpu.2.2 (by assumption); omega)]; exact run_strcat rfl (cx.anc 0 rfl) (cx.anc 7 rfl) (by rw [oneS_size]; simp only [strL_size, List.length_append, List.length_cons, List.length_nil]; omega))
          · exact s4 rfl (fun _ _ _ h => h) fun cx => run_indexSlM (e := 103) (m := k) (sz := 3) rfl (by kernel_rfl) (by kernel_rfl) (cx.anc 9 rfl) (cx.anc 10 rfl) (by omega) (by omega) (hA.ext cx.upd.to_ext) (by have h_ := flatLen (f := cellsV) (sz := 3) cellsV_len rs; show 0 < (List.flatMap cellsV rs).length; omega)
          · exact s4 rfl (fun _ _ _ h => h) fun cx => run_fieldAd rfl (by kernel_rfl) (cx.anc 11 rfl)
          · exact s4 rfl (fun _ _ _ h => h) fun cx => run_load1 rfl (by kernel_rfl) (cx.anc 12 rfl) (At.eltc (f := cellsV) (k := 2) cellsV_len (hA.ext cx.upd.to_ext) (getD_some (ts := rs) (m := k) v0 (by omega)) rfl)
          · exact s4 rfl (fun _ _ _ h => h) fun cx => (by rw [← bt_text (by omega) (by assumption) (by assumption), ← strL_app, strL_data]; exact run_strcat rfl (cx.anc 8 rfl) (cx.anc 13 rfl) (by have := hpu.2.2 (by assumption); simp only [strL_size, List.length_append, List.length_cons, List.length_nil]; omega))
        intro σ β X W20 hD hX hst20 fr hfr
        simp only [zM] at hst20
        dsimp only [mgT, vals, List.take, List.drop, List.cons_append, List.nil_append] at hfr
        clear hX hD; subst hfr; clear σ β X
        refine blk_normal ?_
        refine then_normal ?_
        refine wp_region_P [0, 1, 3] [.k 15 (.int .i64 ((k : Int))), tI 16 ((k : Int) + 1) (by omega), .k 4 (.int .i64 ((k : Int) + 1))] [(4, 2, 1, 5), (10, 0, 2, 12)] hst20 fun W21 hst21 => ?_
        refine then_normal ?_
        refine ⟨rs.length - ((k + 1)), by omega, ?_⟩
        have hp22 := hst21.pick [] (by decide) rfl
        exact ⟨(k + 1), [.int .i64 ((k : Int)), .slice RA rs.length rc, .int .i64 ((rs.length : Int)), .bool (decide ((k : Int) < (rs.length : Int))), .int .i64 ((k : Int)), .int .i64 ((k : Int) + 1), .string (strL (bytesTo rs k)), .slice RA rs.length rc, .int .i64 ((k : Int)), .pointer (some ((ad RA).add (k * 3))), .pointer (some ((ad RA).add (k * 3 + 0))), .int .i64 ((rs.getD k v0).1), .string (oneS ((rs.getD k v0).1)), .string (strL (bytesTo rs k ++ [UInt8.ofNat (rs.getD k v0).1.toNat])), .slice RA rs.length rc, .int .i64 ((k : Int)), .pointer (some ((ad RA).add (k * 3))), .pointer (some ((ad RA).add (k * 3 + 0))), .int .i64 ((rs.getD k v0).1), .bool (((rs.getD k v0).1) == 1), (u6_.getD 20 undef), (u6_.getD 21 undef), (u6_.getD 22 undef), (u6_.getD 23 undef), (u6_.getD 24 undef), (u6_.getD 25 undef), (u6_.getD 26 undef), (u6_.getD 27 undef), .slice RA rs.length rc, .int .i64 ((k : Int)), .pointer (some ((ad RA).add (k * 3))), .pointer (some ((ad RA).add (k * 3 + 0))), .int .i64 ((rs.getD k v0).1), .bool (((rs.getD k v0).1) == 2), .string (strL (bytesTo rs k ++ [UInt8.ofNat (rs.getD k v0).1.toNat])), .slice RA rs.length rc, .int .i64 ((k : Int)), .pointer (some ((ad RA).add (k * 3))), .pointer (some ((ad RA).add (k * 3 + 2))), .string ((rs.getD k v0).2.2), .int .i64 ((((rs.getD k v0).2.2).size : Int)), .string (oneS (((rs.getD k v0).2.2).size : Int)), .string (strL ((bytesTo rs k ++ [UInt8.ofNat (rs.getD k v0).1.toNat]) ++ [UInt8.ofNat (((rs.getD k v0).2.2.size : Nat) : Int).toNat])), .slice RA rs.length rc, .int .i64 ((k : Int)), .pointer (some ((ad RA).add (k * 3))), .pointer (some ((ad RA).add (k * 3 + 2))), .string ((rs.getD k v0).2.2), .string (strL (bytesTo rs (k + 1)))], by omega, rfl, rfl, hp22⟩
      have hs19p : ((rs.getD k v0).1) ≠ 2 := by simpa using hs19
      refine wp_cond_false (show Act.eval _ _ = .bool false from (congrArg Value.bool hs19)) ?_
      refine wp_skip ?_
      refine blk_normal ?_
      refine then_normal ?_
      refine wp_region_P [0, 1, 3] [.k 15 (.int .i64 ((k : Int))), tI 16 ((k : Int) + 1) (by omega), .k 4 (.int .i64 ((k : Int) + 1))] [(4, 2, 1, 5), (10, 0, 2, 12)] hst18 fun W23 hst23 => ?_
      refine then_normal ?_
      refine ⟨rs.length - ((k + 1)), by omega, ?_⟩
      have hp24 := hst23.pick [] (by decide) rfl
      exact ⟨(k + 1), [.int .i64 ((k : Int)), .slice RA rs.length rc, .int .i64 ((rs.length : Int)), .bool (decide ((k : Int) < (rs.length : Int))), .int .i64 ((k : Int)), .int .i64 ((k : Int) + 1), .string (strL (bytesTo rs k)), .slice RA rs.length rc, .int .i64 ((k : Int)), .pointer (some ((ad RA).add (k * 3))), .pointer (some ((ad RA).add (k * 3 + 0))), .int .i64 ((rs.getD k v0).1), .string (oneS ((rs.getD k v0).1)), .string (strL (bytesTo rs k ++ [UInt8.ofNat (rs.getD k v0).1.toNat])), .slice RA rs.length rc, .int .i64 ((k : Int)), .pointer (some ((ad RA).add (k * 3))), .pointer (some ((ad RA).add (k * 3 + 0))), .int .i64 ((rs.getD k v0).1), .bool (((rs.getD k v0).1) == 1), (u6_.getD 20 undef), (u6_.getD 21 undef), (u6_.getD 22 undef), (u6_.getD 23 undef), (u6_.getD 24 undef), (u6_.getD 25 undef), (u6_.getD 26 undef), (u6_.getD 27 undef), .slice RA rs.length rc, .int .i64 ((k : Int)), .pointer (some ((ad RA).add (k * 3))), .pointer (some ((ad RA).add (k * 3 + 0))), .int .i64 ((rs.getD k v0).1), .bool (((rs.getD k v0).1) == 2), (u6_.getD 34 undef), (u6_.getD 35 undef), (u6_.getD 36 undef), (u6_.getD 37 undef), (u6_.getD 38 undef), (u6_.getD 39 undef), (u6_.getD 40 undef), (u6_.getD 41 undef), (u6_.getD 42 undef), (u6_.getD 43 undef), (u6_.getD 44 undef), (u6_.getD 45 undef), (u6_.getD 46 undef), (u6_.getD 47 undef), (u6_.getD 48 undef)], by omega, rfl, (by rw [← bt_none (k := k) (by omega) (by assumption) (by assumption)]; rfl), hp24⟩
    have hs9p : ¬ ((k : Int) < (rs.length : Int)) := by simpa using hs9
    refine wp_cond_false (show Act.eval _ _ = .bool false from (congrArg Value.bool hs9)) ?_
    refine wp_exit ?_
    refine then_exit ?_
    refine then_exit ?_
    refine blk_eq ?_
    refine then_normal ?_
    refine wp_seq ?_
    refine wp_region_P [0, 1] [.k 60 (.string (strL (bytesTo rs k))), .k 2 (.string (strL (bytesTo rs k)))] [(2, 1, 1, 3), (57, 0, 1, 58)] hst8 fun W25 hst25 => ?_
    refine then_normal ?_
    refine wp_ret ?_
    refine bodyPost_ret (v := .string (strL (bytesTo rs k))) (results_tmp Tryd.results63 rfl) rfl ?_
    exact Ret.of (by rw [vbytesF, if_pos (by assumption), show k = rs.length by omega]) hst25.ext
  refine wp_cond_true (show Act.eval _ _ = .bool true from (congrArg Value.bool (by rw [hs3]; rfl))) ?_
  refine wp_seq ?_
  refine wp_region_P [0] [.k 2 (.string ⟨#[]⟩)] [(2, 0, 1, 3)] hst2 fun W26 hst26 => ?_
  refine then_normal ?_
  refine wp_ret ?_
  refine then_ret ?_
  refine bodyPost_ret (v := .string ⟨#[]⟩) (results_tmp Tryd.results63 rfl) rfl ?_
  exact Ret.of (by rw [vbytesF, if_neg (by simp [*])]; rfl) hst26.ext

set_option maxRecDepth 100000 in
set_option maxHeartbeats 2000000 in
theorem r08right_any (a b n1 n2 : Int) (ho : Bool) (RA : Option Addr) (rc : Nat) (rs : List Val) (w : World) (hA : At w RA (flatR rs)) (hlr : rs.length ≤ 9223372036854775807) :
    Calls Tryd.prog 18 #[.agg #[.int .i64 a, .int .i64 b, .int .i64 n1, .int .i64 n2, .bool ho, .slice RA rs.length rc]] w (Ret (.bool (trightF a b n1 n2 rs)) w) := by
  go_enter Tryd.func18, Tryd.ntmps18
  have hst0 := St.start w
  refine wp_seq ?_
  refine wp_region_T [0, 0] [] [[0]] [] [.a 1, .k 2 (.bool false)] (fun ix σ β X => match ix with | 0 => σ 1 = .pointer (some ⟨(pb (β 1)), 0, none⟩) ∧ X 0 = eB (pb (β 1)) 27 #[.int .i64 a, .int .i64 b, .int .i64 n1, .int .i64 n2, .bool ho, .slice RA rs.length rc] | _ => True) [0] [0] [(1, 0, 2, 3)] hst0 ?_ ?_ ?_
  · exact fun ix _ _ _ _ _ _ hs hb hx h => match ix, h with
    | 0, h => by dsimp only at h ⊢; rw [← hs 1 rfl, ← hb 1 rfl, ← hx 0 rfl]; exact h
    | _ + 1, _ => trivial
  · refine ⟨?_, trivial⟩
    · refine sv_any rfl rfl fun ρ β W X cx => ?_
      exact dv_box (cs := #[.int .i64 a, .int .i64 b, .int .i64 n1, .int .i64 n2, .bool ho, .slice RA rs.length rc]) rfl (cx.out 0 rfl) rfl rfl rfl (fun σ β' X' hs hb hv hx => ⟨hv, hx⟩)
  intro σ β X W1 hD hX hst1 fr hfr
  obtain ⟨B1_1, hu_B1_1⟩ : ∃ z, pb (β 1) = z := ⟨_, rfl⟩
  simp only [zM, exq 0 ((dTn (hD 0 lq)).2), hu_B1_1] at hst1
  dsimp only [mgT, vals, List.take, List.drop, List.cons_append, List.nil_append] at hfr
  simp only [ed 1 ((dTn (hD 0 lq)).1), hu_B1_1] at hfr
  clear hX hD hu_B1_1; subst hfr; clear σ β X
  refine then_normal ?_
  refine wp_seq ?_
  refine wp_region_T [0, 1, 3, 7] [[], [0]] [] [] [.k 6 (.pointer (some ⟨B1_1, 0, none⟩)), .c 7 (.int .i64 a), .c 8 (.bool (onF a)), .k 3 (.bool (onF a))] (fun _ _ _ _ => True) [0] [1, 2] [(3, 3, 1, 4), (2, 0, 3, 5)] hst1 ?_ ?_ ?_
  · exact fun _ _ _ _ _ _ _ _ _ _ h => h
  · refine ⟨?_, ?_, trivial⟩
    · exact s4 rfl (fun _ _ _ h => h) fun cx => run_load1 rfl (by kernel_rfl) (cx.anc 0 rfl) ((cx.blk (cx.init 0 _ rfl) rfl).cell 0)
    · exact sv_call rfl rfl rfl rfl rfl (fun _ _ _ h => h) fun ρ β W X cx => ⟨_, _, run_callF (args := #[.int .i64 a]) rfl cx.sees rfl (by kernel_rfl) (map1 (cx.anc 1 rfl)), ron_any a _⟩
  intro σ β X W2 hD hX hst2 fr hfr
  simp only [zM, exq 0 (hX 0 _ rfl)] at hst2
  dsimp only [mgT, vals, List.take, List.drop, List.cons_append, List.nil_append] at hfr
  clear hX hD; subst hfr; clear σ β X
  refine then_normal ?_
  refine wp_seq ?_
  refine wp_region_T [0, 1, 3, 7] [[], [0]] [] [] [.k 9 (.pointer (some ⟨B1_1, 1, none⟩)), .c 10 (.int .i64 b), .c 11 (.bool (onF b)), .k 4 (.bool (onF b))] (fun _ _ _ _ => True) [0] [1, 2] [(4, 3, 1, 5), (4, 0, 3, 7)] hst2 ?_ ?_ ?_
  · exact fun _ _ _ _ _ _ _ _ _ _ h => h
  · refine ⟨?_, ?_, trivial⟩
    · exact s4 rfl (fun _ _ _ h => h) fun cx => run_load1 rfl (by kernel_rfl) (cx.anc 0 rfl) ((cx.blk (cx.init 0 _ rfl) rfl).cell 1)
    · exact sv_call rfl rfl rfl rfl rfl (fun _ _ _ h => h) fun ρ β W X cx => ⟨_, _, run_callF (args := #[.int .i64 b]) rfl cx.sees rfl (by kernel_rfl) (map1 (cx.anc 1 rfl)), ron_any b _⟩
  intro σ β X W3 hD hX hst3 fr hfr
  simp only [zM, exq 0 (hX 0 _ rfl)] at hst3
  dsimp only [mgT, vals, List.take, List.drop, List.cons_append, List.nil_append] at hfr
  clear hX hD; subst hfr; clear σ β X
  refine then_normal ?_
  refine wp_seq ?_
  refine wp_region_T [0, 1, 3, 7, 15, 31, 63, 127, 255, 511, 1023, 2047, 4095, 8191, 16383, 32767, 65535, 131071, 262143, 524287, 1048575, 2097151, 4194303, 8388607, 16777215, 33554431, 67108863, 134217727, 268435455, 536870911, 1073741823, 2147483647, 4294967295, 8589934591, 17179869183] [[], [], [0], [], [], [], [], [0], [], [], [], [], [], [0], [], [], [], [], [0], [], [], [], [], [], [0], [], [], [], [], [], [0]] [] [] [.k 12 (.pointer (some ⟨B1_1, 2, none⟩)), .k 13 (.pointer (some ⟨B1_1, 2, none⟩)), .c 14 (.int .i64 n1), .k 15 (.bool (n1 == (-1))), .k 16 (.bool (n1 == (-1))), .z 17 (n1 == (-1)) (.pointer (some ⟨B1_1, 2, none⟩)), .z 18 (n1 == (-1)) (.pointer (some ⟨B1_1, 3, none⟩)), .y 19 (n1 == (-1)) (.int .i64 n2), .z 20 (n1 == (-1)) (.bool (n2 == 0)), tA 21 (n1 == (-1)) (n2 == 0), .k 22 (.bool ((n1 == (-1)) && (n2 == 0))), .z 23 (!((n1 == (-1)) && (n2 == 0))) (.pointer (some ⟨B1_1, 2, none⟩)), .z 24 (!((n1 == (-1)) && (n2 == 0))) (.pointer (some ⟨B1_1, 2, none⟩)), .y 25 (!((n1 == (-1)) && (n2 == 0))) (.int .i64 n1), .z 26 (!((n1 == (-1)) && (n2 == 0))) (.bool (decide (0 ≤ n1))), .z 27 (!((n1 == (-1)) && (n2 == 0))) (.bool (decide (0 ≤ n1))), .z 28 ((!((n1 == (-1)) && (n2 == 0))) && (decide (0 ≤ n1))) (.pointer (some ⟨B1_1, 2, none⟩)), .z 29 ((!((n1 == (-1)) && (n2 == 0))) && (decide (0 ≤ n1))) (.pointer (some ⟨B1_1, 2, none⟩)), .y 30 ((!((n1 == (-1)) && (n2 == 0))) && (decide (0 ≤ n1))) (.int .i64 n1), .z 31 ((!((n1 == (-1)) && (n2 == 0))) && (decide (0 ≤ n1))) (.bool (decide (n1 < 400))), .y 32 (!((n1 == (-1)) && (n2 == 0))) (.bool ((decide (0 ≤ n1)) && (decide (n1 < 400)))), .z 33 (!((n1 == (-1)) && (n2 == 0))) (.bool ((decide (0 ≤ n1)) && (decide (n1 < 400)))), .z 34 ((!((n1 == (-1)) && (n2 == 0))) && ((decide (0 ≤ n1)) && (decide (n1 < 400)))) (.pointer (some ⟨B1_1, 2, none⟩)), .z 35 ((!((n1 == (-1)) && (n2 == 0))) && ((decide (0 ≤ n1)) && (decide (n1 < 400)))) (.pointer (some ⟨B1_1, 3, none⟩)), .y 36 ((!((n1 == (-1)) && (n2 == 0))) && ((decide (0 ≤ n1)) && (decide (n1 < 400)))) (.int .i64 n2), .z 37 ((!((n1 == (-1)) && (n2 == 0))) && ((decide (0 ≤ n1)) && (decide (n1 < 400)))) (.bool (decide (0 ≤ n2))), .y 38 (!((n1 == (-1)) && (n2 == 0))) (.bool (((decide (0 ≤ n1)) && (decide (n1 < 400))) && (decide (0 ≤ n2)))), .z 39 (!((n1 == (-1)) && (n2 == 0))) (.bool (((decide (0 ≤ n1)) && (decide (n1 < 400))) && (decide (0 ≤ n2)))), .z 40 ((!((n1 == (-1)) && (n2 == 0))) && (((decide (0 ≤ n1)) && (decide (n1 < 400))) && (decide (0 ≤ n2)))) (.pointer (some ⟨B1_1, 2, none⟩)), .z 41 ((!((n1 == (-1)) && (n2 == 0))) && (((decide (0 ≤ n1)) && (decide (n1 < 400))) && (decide (0 ≤ n2)))) (.pointer (some ⟨B1_1, 3, none⟩)), .y 42 ((!((n1 == (-1)) && (n2 == 0))) && (((decide (0 ≤ n1)) && (decide (n1 < 400))) && (decide (0 ≤ n2)))) (.int .i64 n2), .z 43 ((!((n1 == (-1)) && (n2 == 0))) && (((decide (0 ≤ n1)) && (decide (n1 < 400))) && (decide (0 ≤ n2)))) (.bool (decide (n2 < 24))), .y 44 (!((n1 == (-1)) && (n2 == 0))) (.bool ((((decide (0 ≤ n1)) && (decide (n1 < 400))) && (decide (0 ≤ n2))) && (decide (n2 < 24)))), tO 45 ((n1 == (-1)) && (n2 == 0)) ((((decide (0 ≤ n1)) && (decide (n1 < 400))) && (decide (0 ≤ n2))) && (decide (n2 < 24))), .k 5 (.bool (((n1 == (-1)) && (n2 == 0)) || ((((decide (0 ≤ n1)) && (decide (n1 < 400))) && (decide (0 ≤ n2))) && (decide (n2 < 24)))))] (fun _ _ _ _ => True) [0] [2, 7, 13, 18, 20, 24, 26, 30, 32] [(5, 34, 1, 6), (6, 0, 34, 40)] hst3 ?_ ?_ ?_
  · exact fun _ _ _ _ _ _ _ _ _ _ h => h
  · refine ⟨?_, ?_, ?_, ?_, ?_, ?_, ?_, ?_, ?_, trivial⟩
    · exact s4 rfl (fun _ _ _ h => h) fun cx => run_load1 rfl (by kernel_rfl) (cx.anc 1 rfl) ((cx.blk (cx.init 0 _ rfl) rfl).cell 2)
    · exact m2 rfl (fun _ _ _ h => h) (fun cx => (cx.anc 4 rfl)) fun cx hq => run_load1 rfl (by kernel_rfl) (mbv (cx.anc 6 rfl) hq) ((cx.blk (cx.init 0 _ rfl) rfl).cell 3)
    · exact m2 rfl (fun _ _ _ h => h) (fun cx => (cx.anc 10 rfl)) fun cx hq => run_load1 rfl (by kernel_rfl) (mbv (cx.anc 12 rfl) hq) ((cx.blk (cx.init 0 _ rfl) rfl).cell 2)
    · exact m0 rfl (fun _ _ _ h => h) (fun cx => (cx.anc 15 rfl)) fun cx hq => run_load1 rfl (by kernel_rfl) (mbv (cx.anc 17 rfl) hq) ((cx.blk (cx.init 0 _ rfl) rfl).cell 2)
    · exact m2 rfl (fun _ _ _ h => h) (fun cx => (cx.anc 10 rfl)) fun cx hq => run_pick_and rfl (mbv (cx.anc 15 rfl) hq) (cx.anc 19 rfl) (fun e_ => by rw [hq, e_]; rfl) (cx.sees.const _)
    · exact m0 rfl (fun _ _ _ h => h) (fun cx => (cx.anc 21 rfl)) fun cx hq => run_load1 rfl (by kernel_rfl) (mbv (cx.anc 23 rfl) hq) ((cx.blk (cx.init 0 _ rfl) rfl).cell 3)
    · exact m2 rfl (fun _ _ _ h => h) (fun cx => (cx.anc 10 rfl)) fun cx hq => run_pick_and rfl (mbv (cx.anc 21 rfl) hq) (cx.anc 25 rfl) (fun e_ => by rw [hq, e_]; rfl) (cx.sees.const _)
    · exact m0 rfl (fun _ _ _ h => h) (fun cx => (cx.anc 27 rfl)) fun cx hq => run_load1 rfl (by kernel_rfl) (mbv (cx.anc 29 rfl) hq) ((cx.blk (cx.init 0 _ rfl) rfl).cell 3)
    · exact m2 rfl (fun _ _ _ h => h) (fun cx => (cx.anc 10 rfl)) fun cx hq => run_pick_and rfl (mbv (cx.anc 27 rfl) hq) (cx.anc 31 rfl) (fun e_ => by rw [hq, e_]; rfl) (cx.sees.const _)
  intro σ β X W4 hD hX hst4 fr hfr
  simp only [zM, exq 0 (hX 0 _ rfl)] at hst4
  dsimp only [mgT, vals, List.take, List.drop, List.cons_append, List.nil_append] at hfr
  clear hX hD; subst hfr; clear σ β X
  refine then_normal ?_
  refine wp_seq ?_
  refine wp_region_T [0, 1, 3, 7, 15, 31, 63, 127, 255, 511, 1023, 2047, 4095, 8191, 16383, 32767, 65535, 131071, 262143, 524287, 1048575, 2097151, 4194303] [[], [], [], [0], [], [], [], [], [], [], [0], [], [], [], [], [], [], [], [], [0]] [] [] [.k 46 (.bool (onF a)), .k 47 (.bool (onF a)), .z 48 (!(onF a)) (.pointer (some ⟨B1_1, 0, none⟩)), .y 49 (!(onF a)) (.int .i64 a), .z 50 (!(onF a)) (.bool (a == 2)), tO 51 (onF a) (a == 2), .k 52 (.bool ((onF a) || (a == 2))), .z 53 ((onF a) || (a == 2)) (.bool (onF b)), .z 54 ((onF a) || (a == 2)) (.bool (onF b)), .z 55 (((onF a) || (a == 2)) && (!(onF b))) (.pointer (some ⟨B1_1, 1, none⟩)), .y 56 (((onF a) || (a == 2)) && (!(onF b))) (.int .i64 b), .z 57 (((onF a) || (a == 2)) && (!(onF b))) (.bool (b == 0)), .y 58 ((onF a) || (a == 2)) (.bool ((onF b) || (b == 0))), tA 59 ((onF a) || (a == 2)) ((onF b) || (b == 0)), .k 60 (.bool (((onF a) || (a == 2)) && ((onF b) || (b == 0)))), .z 61 (((onF a) || (a == 2)) && ((onF b) || (b == 0))) (.bool (((n1 == (-1)) && (n2 == 0)) || ((((decide (0 ≤ n1)) && (decide (n1 < 400))) && (decide (0 ≤ n2))) && (decide (n2 < 24))))), tA 62 (((onF a) || (a == 2)) && ((onF b) || (b == 0))) (((n1 == (-1)) && (n2 == 0)) || ((((decide (0 ≤ n1)) && (decide (n1 < 400))) && (decide (0 ≤ n2))) && (decide (n2 < 24)))), .k 63 (.bool ((((onF a) || (a == 2)) && ((onF b) || (b == 0))) && (((n1 == (-1)) && (n2 == 0)) || ((((decide (0 ≤ n1)) && (decide (n1 < 400))) && (decide (0 ≤ n2))) && (decide (n2 < 24)))))), .z 64 ((((onF a) || (a == 2)) && ((onF b) || (b == 0))) && (((n1 == (-1)) && (n2 == 0)) || ((((decide (0 ≤ n1)) && (decide (n1 < 400))) && (decide (0 ≤ n2))) && (decide (n2 < 24))))) (.pointer (some ⟨B1_1, 5, none⟩)), .y 65 ((((onF a) || (a == 2)) && ((onF b) || (b == 0))) && (((n1 == (-1)) && (n2 == 0)) || ((((decide (0 ≤ n1)) && (decide (n1 < 400))) && (decide (0 ≤ n2))) && (decide (n2 < 24))))) (.slice RA rs.length rc), .y 66 ((((onF a) || (a == 2)) && ((onF b) || (b == 0))) && (((n1 == (-1)) && (n2 == 0)) || ((((decide (0 ≤ n1)) && (decide (n1 < 400))) && (decide (0 ≤ n2))) && (decide (n2 < 24))))) (.bool (rrightF rs)), tA 67 ((((onF a) || (a == 2)) && ((onF b) || (b == 0))) && (((n1 == (-1)) && (n2 == 0)) || ((((decide (0 ≤ n1)) && (decide (n1 < 400))) && (decide (0 ≤ n2))) && (decide (n2 < 24))))) (rrightF rs), .k 2 (.bool (((((onF a) || (a == 2)) && ((onF b) || (b == 0))) && (((n1 == (-1)) && (n2 == 0)) || ((((decide (0 ≤ n1)) && (decide (n1 < 400))) && (decide (0 ≤ n2))) && (decide (n2 < 24))))) && (rrightF rs)))] (fun _ _ _ _ => True) [0] [3, 10, 12, 19, 20] [(2, 22, 1, 3), (43, 0, 22, 65)] hst4 ?_ ?_ ?_
  · exact fun _ _ _ _ _ _ _ _ _ _ h => h
  · refine ⟨?_, ?_, ?_, ?_, ?_, trivial⟩
    · exact m2 rfl (fun _ _ _ h => h) (fun cx => (cx.anc 1 rfl)) fun cx hq => run_load1 rfl (by kernel_rfl) (mbv (cx.anc 2 rfl) hq) ((cx.blk (cx.init 0 _ rfl) rfl).cell 0)
    · exact m0 rfl (fun _ _ _ h => h) (fun cx => (cx.anc 8 rfl)) fun cx hq => run_load1 rfl (by kernel_rfl) (mbv (cx.anc 9 rfl) hq) ((cx.blk (cx.init 0 _ rfl) rfl).cell 1)
    · exact m2 rfl (fun _ _ _ h => h) (fun cx => (cx.anc 6 rfl)) fun cx hq => run_pick_or rfl (mbv (cx.anc 8 rfl) hq) (cx.sees.const _) (cx.anc 11 rfl) (fun e_ => by rw [hq, e_]; rfl)
    · exact m2 rfl (fun _ _ _ h => h) (fun cx => (cx.anc 17 rfl)) fun cx hq => run_load1 rfl (by kernel_rfl) (mbv (cx.anc 18 rfl) hq) ((cx.blk (cx.init 0 _ rfl) rfl).cell 5)
    · exact m3 rfl (fun _ _ _ h => h) (fun cx => (cx.anc 17 rfl)) fun cx hq => ⟨_, _, run_callF (args := #[.slice RA rs.length rc]) rfl cx.sees rfl (by kernel_rfl) (map1 (mbv (cx.anc 19 rfl) hq)), r02row_any _ _ rs _ (hA.ext cx.upd.to_ext) (by omega)⟩
  intro σ β X W5 hD hX hst5 fr hfr
  simp only [zM, exq 0 (hX 0 _ rfl)] at hst5
  dsimp only [mgT, vals, List.take, List.drop, List.cons_append, List.nil_append] at hfr
  clear hX hD; subst hfr; clear σ β X
  refine then_normal ?_
  refine wp_ret ?_
  refine bodyPost_ret (v := .bool (((((onF a) || (a == 2)) && ((onF b) || (b == 0))) && (((n1 == (-1)) && (n2 == 0)) || ((((decide (0 ≤ n1)) && (decide (n1 < 400))) && (decide (0 ≤ n2))) && (decide (n2 < 24))))) && (rrightF rs))) (results_tmp Tryd.results18 rfl) rfl ?_
  exact Ret.bool (by rw [trightF, onZ, tnextF, Bool.or_comm (a == 2), Bool.or_comm (b == 0)]) hst5.ext

set_option maxRecDepth 100000 in
set_option maxHeartbeats 4000000 in
theorem r08bytes_any (a b n1 n2 : Int) (ho : Bool) (RA : Option Addr) (rc : Nat) (rs : List Val) (w : World) (hA : At w RA (flatR rs)) (hlr : rs.length ≤ 9223372036854775807) :
    Calls Tryd.prog 20 #[.agg #[.int .i64 a, .int .i64 b, .int .i64 n1, .int .i64 n2, .bool ho, .slice RA rs.length rc]] w (Ret (.string (tbytesF a b n1 n2 ho rs)) w) := by
  go_enter Tryd.func20, Tryd.ntmps20
  have hst0 := St.start w
  refine wp_seq ?_
  refine wp_region_T [0, 0] [] [[0]] [] [.a 1, .k 2 (.string ⟨#[]⟩)] (fun ix σ β X => match ix with | 0 => σ 1 = .pointer (some ⟨(pb (β 1)), 0, none⟩) ∧ X 0 = eB (pb (β 1)) 27 #[.int .i64 a, .int .i64 b, .int .i64 n1, .int .i64 n2, .bool ho, .slice RA rs.length rc] | _ => True) [0] [0] [(1, 0, 2, 3)] hst0 ?_ ?_ ?_
  · exact fun ix _ _ _ _ _ _ hs hb hx h => match ix, h with
    | 0, h => by dsimp only at h ⊢; rw [← hs 1 rfl, ← hb 1 rfl, ← hx 0 rfl]; exact h
    | _ + 1, _ => trivial
  · refine ⟨?_, trivial⟩
    · refine sv_any rfl rfl fun ρ β W X cx => ?_
      exact dv_box (cs := #[.int .i64 a, .int .i64 b, .int .i64 n1, .int .i64 n2, .bool ho, .slice RA rs.length rc]) rfl (cx.out 0 rfl) rfl rfl rfl (fun σ β' X' hs hb hv hx => ⟨hv, hx⟩)
  intro σ β X W1 hD hX hst1 fr hfr
  obtain ⟨B1_1, hu_B1_1⟩ : ∃ z, pb (β 1) = z := ⟨_, rfl⟩
  simp only [zM, exq 0 ((dTn (hD 0 lq)).2), hu_B1_1] at hst1
  dsimp only [mgT, vals, List.take, List.drop, List.cons_append, List.nil_append] at hfr
  simp only [ed 1 ((dTn (hD 0 lq)).1), hu_B1_1] at hfr
  clear hX hD hu_B1_1; subst hfr; clear σ β X
  refine then_normal ?_
  refine wp_seq ?_
  refine wp_seq ?_
  refine wp_region_T [0, 1, 3] [[0]] [] [] [.c 5 (.agg #[.int .i64 a, .int .i64 b, .int .i64 n1, .int .i64 n2, .bool ho, .slice RA rs.length rc]), .c 6 (.bool (trightF a b n1 n2 rs)), .k 7 (.bool (!(trightF a b n1 n2 rs)))] (fun _ _ _ _ => True) [0] [0, 1] [(5, 0, 3, 8)] hst1 ?_ ?_ ?_
  · exact fun _ _ _ _ _ _ _ _ _ _ h => h
  · refine ⟨?_, ?_, trivial⟩
    · exact s4 rfl (fun _ _ _ h => h) fun cx => run_loadB (n := 6) rfl (by kernel_rfl) (by kernel_rfl) (cx.out 1 rfl) (cx.blk (cx.init 0 _ rfl) rfl) (Nat.le_of_ble_eq_true rfl) rfl
    · exact sv_call rfl rfl rfl rfl rfl (fun _ _ _ h => h) fun ρ β W X cx => ⟨_, _, run_callF (args := #[.agg #[.int .i64 a, .int .i64 b, .int .i64 n1, .int .i64 n2, .bool ho, .slice RA rs.length rc]]) rfl cx.sees rfl (by kernel_rfl) (map1 (cx.anc 0 rfl)), r08right_any a b n1 n2 ho _ _ rs _ (hA.ext cx.upd.to_ext) (by omega)⟩
  intro σ β X W2 hD hX hst2 fr hfr
  simp only [zM, exq 0 (hX 0 _ rfl)] at hst2
  dsimp only [mgT, vals, List.take, List.drop, List.cons_append, List.nil_append] at hfr
  clear hX hD; subst hfr; clear σ β X
  refine then_normal ?_
  rcases Bool.eq_false_or_eq_true (trightF a b n1 n2 rs) with hs3 | hs3
  · skip
    refine wp_cond_false (show Act.eval _ _ = .bool false from (congrArg Value.bool (by rw [hs3]; rfl))) ?_
    refine wp_skip ?_
    refine then_normal ?_
    refine wp_seq ?_
    refine wp_region_P [0] [.k 3 (.int .i64 0)] [(3, 0, 1, 4)] hst2 fun W4 hst4 => ?_
    refine then_normal ?_
    refine wp_seq ?_
    refine wp_seq ?_
    refine wp_region_T [0, 1] [[], [0]] [] [] [.k 8 (.pointer (some ⟨B1_1, 4, none⟩)), .c 9 (.bool ho)] (fun _ _ _ _ => True) [0] [1] [(8, 0, 2, 10)] hst4 ?_ ?_ ?_
    · exact fun _ _ _ _ _ _ _ _ _ _ h => h
    · refine ⟨?_, trivial⟩
      · exact s4 rfl (fun _ _ _ h => h) fun cx => run_load1 rfl (by kernel_rfl) (cx.anc 0 rfl) ((cx.blk (cx.init 0 _ rfl) rfl).cell 4)
    intro σ β X W5 hD hX hst5 fr hfr
    simp only [zM, exq 0 (hX 0 _ rfl)] at hst5
    dsimp only [mgT, vals, List.take, List.drop, List.cons_append, List.nil_append] at hfr
    clear hX hD; subst hfr; clear σ β X
    refine then_normal ?_
    rcases Bool.eq_false_or_eq_true (ho) with hs6 | hs6
    · skip
      refine wp_cond_true (show Act.eval _ _ = .bool true from (congrArg Value.bool hs6)) ?_
      refine wp_region_P [0] [.k 3 (.int .i64 1)] [(3, 0, 1, 4)] hst5 fun W7 hst7 => ?_
      refine then_normal ?_
      refine wp_seq ?_
      refine wp_region_T [0, 1, 3, 7] [[], [0]] [] [] [.k 10 (.pointer (some ⟨B1_1, 5, none⟩)), .c 11 (.slice RA rs.length rc), .c 12 (.string (vbytesF rs)), .k 4 (.string (vbytesF rs))] (fun _ _ _ _ => True) [0] [1, 2] [(4, 3, 1, 5), (5, 0, 3, 8)] hst7 ?_ ?_ ?_
      · exact fun _ _ _ _ _ _ _ _ _ _ h => h
      · refine ⟨?_, ?_, trivial⟩
        · exact s4 rfl (fun _ _ _ h => h) fun cx => run_load1 rfl (by kernel_rfl) (cx.anc 0 rfl) ((cx.blk (cx.init 0 _ rfl) rfl).cell 5)
        · exact sv_call rfl rfl rfl rfl rfl (fun _ _ _ h => h) fun ρ β W X cx => ⟨_, _, run_callF (args := #[.slice RA rs.length rc]) rfl cx.sees rfl (by kernel_rfl) (map1 (cx.anc 1 rfl)), r02bytes_any _ _ rs _ (hA.ext cx.upd.to_ext) (by omega)⟩
      intro σ β X W8 hD hX hst8 fr hfr
      simp only [zM, exq 0 (hX 0 _ rfl)] at hst8
      dsimp only [mgT, vals, List.take, List.drop, List.cons_append, List.nil_append] at hfr
      clear hX hD; subst hfr; clear σ β X
      refine then_normal ?_
      refine wp_seq ?_
      have hpt := tright_parts (by assumption : trightF a b n1 n2 rs = true)
      have hvz := vbytes_size rs
      have hps1 : ∀ z : Int, (putS z 1).size = 1 := fun z => putS_size z 1 (by omega)
      have hps2 : ∀ z : Int, (putS z 2).size = 2 := fun z => putS_size z 2 (by omega)
      refine wp_region_T [0, 1, 3, 0, 8, 31, 63, 0, 128, 384, 896, 1983, 4095, 0, 8192, 24576, 61375, 131071, 0, 389055, 1048575, 0, 2097152, 7204799, 16777215, 0, 67108863, 134217727] [[], [0], [], [], [0], [], [], [], [], [0], [], [], [], [], [], [0]] [] [] [.k 13 (.pointer (some ⟨B1_1, 0, none⟩)), .c 14 (.int .i64 a), .c 15 (.string (putS a 1)), .k 16 (.pointer (some ⟨B1_1, 1, none⟩)), .c 17 (.int .i64 b), .c 18 (.string (putS b 1)), tS 19 (putS a 1) (putS b 1) (by simp only [ByteArray.size_append, hps1, hps2]; omega), .k 20 (.pointer (some ⟨B1_1, 2, none⟩)), .k 21 (.pointer (some ⟨B1_1, 2, none⟩)), .c 22 (.int .i64 n1), tI 23 (n1 + 1) (by omega), .c 24 (.string (putS (n1 + 1) 2)), tS 25 ((putS a 1) ++ (putS b 1)) (putS (n1 + 1) 2) (by simp only [ByteArray.size_append, hps1, hps2]; omega), .k 26 (.pointer (some ⟨B1_1, 2, none⟩)), .k 27 (.pointer (some ⟨B1_1, 3, none⟩)), .c 28 (.int .i64 n2), .c 29 (.string (putS n2 1)), tS 30 (((putS a 1) ++ (putS b 1)) ++ (putS (n1 + 1) 2)) (putS n2 1) (by simp only [ByteArray.size_append, hps1, hps2]; omega), .k 31 (.int .i64 1), .c 32 (.string (putS 1 1)), tS 33 ((((putS a 1) ++ (putS b 1)) ++ (putS (n1 + 1) 2)) ++ (putS n2 1)) (putS 1 1) (by simp only [ByteArray.size_append, hps1, hps2]; omega), .k 34 (.string (vbytesF rs)), .k 35 (.int .i64 (((vbytesF rs).size : Int))), .c 36 (.string (putS ((vbytesF rs).size : Int) 2)), tS 37 (((((putS a 1) ++ (putS b 1)) ++ (putS (n1 + 1) 2)) ++ (putS n2 1)) ++ (putS 1 1)) (putS ((vbytesF rs).size : Int) 2) (by simp only [ByteArray.size_append, hps1, hps2]; omega), .k 38 (.string (vbytesF rs)), tS 39 ((((((putS a 1) ++ (putS b 1)) ++ (putS (n1 + 1) 2)) ++ (putS n2 1)) ++ (putS 1 1)) ++ (putS ((vbytesF rs).size : Int) 2)) (vbytesF rs) (by simp only [ByteArray.size_append, hps1, hps2]; omega), .k 2 (.string (((((((putS a 1) ++ (putS b 1)) ++ (putS (n1 + 1) 2)) ++ (putS n2 1)) ++ (putS 1 1)) ++ (putS ((vbytesF rs).size : Int) 2)) ++ (vbytesF rs)))] (fun _ _ _ _ => True) [0] [1, 2, 4, 5, 9, 11, 15, 16, 19, 23] [(2, 27, 1, 3), (10, 0, 27, 37)] hst8 ?_ ?_ ?_
      · exact fun _ _ _ _ _ _ _ _ _ _ h => h
      · refine ⟨?_, ?_, ?_, ?_, ?_, ?_, ?_, ?_, ?_, ?_, trivial⟩
        · exact s4 rfl (fun _ _ _ h => h) fun cx => run_load1 rfl (by kernel_rfl) (cx.anc 0 rfl) ((cx.blk (cx.init 0 _ rfl) rfl).cell 0)
        · exact sv_call rfl rfl rfl rfl rfl (fun _ _ _ h => h) fun ρ β W X cx => ⟨_, _, run_callF (args := #[.int .i64 a, .int .i64 1]) rfl cx.sees rfl (by kernel_rfl) (map2 (cx.anc 1 rfl) (cx.sees.const _)), r04num_any a 1 _ (by omega)⟩
        · exact s4 rfl (fun _ _ _ h => h) fun cx => run_load1 rfl (by kernel_rfl) (cx.anc 3 rfl) ((cx.blk (cx.init 0 _ rfl) rfl).cell 1)
        · exact sv_call rfl rfl rfl rfl rfl (fun _ _ _ h => h) fun ρ β W X cx => ⟨_, _, run_callF (args := #[.int .i64 b, .int .i64 1]) rfl cx.sees rfl (by kernel_rfl) (map2 (cx.anc 4 rfl) (cx.sees.const _)), r04num_any b 1 _ (by omega)⟩
        · exact s4 rfl (fun _ _ _ h => h) fun cx => run_load1 rfl (by kernel_rfl) (cx.anc 8 rfl) ((cx.blk (cx.init 0 _ rfl) rfl).cell 2)
        · exact sv_call rfl rfl rfl rfl rfl (fun _ _ _ h => h) fun ρ β W X cx => ⟨_, _, run_callF (args := #[.int .i64 (n1 + 1), .int .i64 2]) rfl cx.sees rfl (by kernel_rfl) (map2 (cx.anc 10 rfl) (cx.sees.const _)), r04num_any (n1 + 1) 2 _ (by omega)⟩
        · exact s4 rfl (fun _ _ _ h => h) fun cx => run_load1 rfl (by kernel_rfl) (cx.anc 14 rfl) ((cx.blk (cx.init 0 _ rfl) rfl).cell 3)
        · exact sv_call rfl rfl rfl rfl rfl (fun _ _ _ h => h) fun ρ β W X cx => ⟨_, _, run_callF (args := #[.int .i64 n2, .int .i64 1]) rfl cx.sees rfl (by kernel_rfl) (map2 (cx.anc 15 rfl) (cx.sees.const _)), r04num_any n2 1 _ (by omega)⟩
        · exact sv_call rfl rfl rfl rfl rfl (fun _ _ _ h => h) fun ρ β W X cx => ⟨_, _, run_callF (args := #[.int .i64 1, .int .i64 1]) rfl cx.sees rfl (by kernel_rfl) (map2 (cx.anc 18 rfl) (cx.sees.const _)), r04num_any 1 1 _ (by omega)⟩
        · exact sv_call rfl rfl rfl rfl rfl (fun _ _ _ h => h) fun ρ β W X cx => ⟨_, _, run_callF (args := #[.int .i64 (((vbytesF rs).size : Int)), .int .i64 2]) rfl cx.sees rfl (by kernel_rfl) (map2 (cx.anc 22 rfl) (cx.sees.const _)), r04num_any ((vbytesF rs).size : Int) 2 _ (by omega)⟩
      intro σ β X W9 hD hX hst9 fr hfr
      simp only [zM, exq 0 (hX 0 _ rfl)] at hst9
      dsimp only [mgT, vals, List.take, List.drop, List.cons_append, List.nil_append] at hfr
      clear hX hD; subst hfr; clear σ β X
      refine then_normal ?_
      refine wp_ret ?_
      refine bodyPost_ret (v := .string (((((((putS a 1) ++ (putS b 1)) ++ (putS (n1 + 1) 2)) ++ (putS n2 1)) ++ (putS 1 1)) ++ (putS ((vbytesF rs).size : Int) 2)) ++ (vbytesF rs))) (results_tmp Tryd.results20 rfl) rfl ?_
      exact Ret.of (by rw [← tb_cat (by assumption), hotI, show ho = true by assumption]; rfl) hst9.ext
    refine wp_cond_false (show Act.eval _ _ = .bool false from (congrArg Value.bool hs6)) ?_
    refine wp_skip ?_
    refine then_normal ?_
    refine wp_seq ?_
    refine wp_region_T [0, 1, 3, 7] [[], [0]] [] [] [.k 10 (.pointer (some ⟨B1_1, 5, none⟩)), .c 11 (.slice RA rs.length rc), .c 12 (.string (vbytesF rs)), .k 4 (.string (vbytesF rs))] (fun _ _ _ _ => True) [0] [1, 2] [(4, 3, 1, 5), (5, 0, 3, 8)] hst5 ?_ ?_ ?_
    · exact fun _ _ _ _ _ _ _ _ _ _ h => h
    · refine ⟨?_, ?_, trivial⟩
      · exact s4 rfl (fun _ _ _ h => h) fun cx => run_load1 rfl (by kernel_rfl) (cx.anc 0 rfl) ((cx.blk (cx.init 0 _ rfl) rfl).cell 5)
      · exact sv_call rfl rfl rfl rfl rfl (fun _ _ _ h => h) fun ρ β W X cx => ⟨_, _, run_callF (args := #[.slice RA rs.length rc]) rfl cx.sees rfl (by kernel_rfl) (map1 (cx.anc 1 rfl)), r02bytes_any _ _ rs _ (hA.ext cx.upd.to_ext) (by omega)⟩
    intro σ β X W10 hD hX hst10 fr hfr
    simp only [zM, exq 0 (hX 0 _ rfl)] at hst10
    dsimp only [mgT, vals, List.take, List.drop, List.cons_append, List.nil_append] at hfr
    clear hX hD; subst hfr; clear σ β X
    refine then_normal ?_
    refine wp_seq ?_
    have hpt := tright_parts (by assumption : trightF a b n1 n2 rs = true)
    have hvz := vbytes_size rs
    have hps1 : ∀ z : Int, (putS z 1).size = 1 := fun z => putS_size z 1 (by omega)
    have hps2 : ∀ z : Int, (putS z 2).size = 2 := fun z => putS_size z 2 (by omega)
    refine wp_region_T [0, 1, 3, 0, 8, 31, 63, 0, 128, 384, 896, 1983, 4095, 0, 8192, 24576, 61375, 131071, 0, 389055, 1048575, 0, 2097152, 7204799, 16777215, 0, 67108863, 134217727] [[], [0], [], [], [0], [], [], [], [], [0], [], [], [], [], [], [0]] [] [] [.k 13 (.pointer (some ⟨B1_1, 0, none⟩)), .c 14 (.int .i64 a), .c 15 (.string (putS a 1)), .k 16 (.pointer (some ⟨B1_1, 1, none⟩)), .c 17 (.int .i64 b), .c 18 (.string (putS b 1)), tS 19 (putS a 1) (putS b 1) (by simp only [ByteArray.size_append, hps1, hps2]; omega), .k 20 (.pointer (some ⟨B1_1, 2, none⟩)), .k 21 (.pointer (some ⟨B1_1, 2, none⟩)), .c 22 (.int .i64 n1), tI 23 (n1 + 1) (by omega), .c 24 (.string (putS (n1 + 1) 2)), tS 25 ((putS a 1) ++ (putS b 1)) (putS (n1 + 1) 2) (by simp only [ByteArray.size_append, hps1, hps2]; omega), .k 26 (.pointer (some ⟨B1_1, 2, none⟩)), .k 27 (.pointer (some ⟨B1_1, 3, none⟩)), .c 28 (.int .i64 n2), .c 29 (.string (putS n2 1)), tS 30 (((putS a 1) ++ (putS b 1)) ++ (putS (n1 + 1) 2)) (putS n2 1) (by simp only [ByteArray.size_append, hps1, hps2]; omega), .k 31 (.int .i64 0), .c 32 (.string (putS 0 1)), tS 33 ((((putS a 1) ++ (putS b 1)) ++ (putS (n1 + 1) 2)) ++ (putS n2 1)) (putS 0 1) (by simp only [ByteArray.size_append, hps1, hps2]; omega), .k 34 (.string (vbytesF rs)), .k 35 (.int .i64 (((vbytesF rs).size : Int))), .c 36 (.string (putS ((vbytesF rs).size : Int) 2)), tS 37 (((((putS a 1) ++ (putS b 1)) ++ (putS (n1 + 1) 2)) ++ (putS n2 1)) ++ (putS 0 1)) (putS ((vbytesF rs).size : Int) 2) (by simp only [ByteArray.size_append, hps1, hps2]; omega), .k 38 (.string (vbytesF rs)), tS 39 ((((((putS a 1) ++ (putS b 1)) ++ (putS (n1 + 1) 2)) ++ (putS n2 1)) ++ (putS 0 1)) ++ (putS ((vbytesF rs).size : Int) 2)) (vbytesF rs) (by simp only [ByteArray.size_append, hps1, hps2]; omega), .k 2 (.string (((((((putS a 1) ++ (putS b 1)) ++ (putS (n1 + 1) 2)) ++ (putS n2 1)) ++ (putS 0 1)) ++ (putS ((vbytesF rs).size : Int) 2)) ++ (vbytesF rs)))] (fun _ _ _ _ => True) [0] [1, 2, 4, 5, 9, 11, 15, 16, 19, 23] [(2, 27, 1, 3), (10, 0, 27, 37)] hst10 ?_ ?_ ?_
    · exact fun _ _ _ _ _ _ _ _ _ _ h => h
    · refine ⟨?_, ?_, ?_, ?_, ?_, ?_, ?_, ?_, ?_, ?_, trivial⟩
      · exact s4 rfl (fun _ _ _ h => h) fun cx => run_load1 rfl (by kernel_rfl) (cx.anc 0 rfl) ((cx.blk (cx.init 0 _ rfl) rfl).cell 0)
      · exact sv_call rfl rfl rfl rfl rfl (fun _ _ _ h => h) fun ρ β W X cx => ⟨_, _, run_callF (args := #[.int .i64 a, .int .i64 1]) rfl cx.sees rfl (by kernel_rfl) (map2 (cx.anc 1 rfl) (cx.sees.const _)), r04num_any a 1 _ (by omega)⟩
      · exact s4 rfl (fun _ _ _ h => h) fun cx => run_load1 rfl (by kernel_rfl) (cx.anc 3 rfl) ((cx.blk (cx.init 0 _ rfl) rfl).cell 1)
      · exact sv_call rfl rfl rfl rfl rfl (fun _ _ _ h => h) fun ρ β W X cx => ⟨_, _, run_callF (args := #[.int .i64 b, .int .i64 1]) rfl cx.sees rfl (by kernel_rfl) (map2 (cx.anc 4 rfl) (cx.sees.const _)), r04num_any b 1 _ (by omega)⟩
      · exact s4 rfl (fun _ _ _ h => h) fun cx => run_load1 rfl (by kernel_rfl) (cx.anc 8 rfl) ((cx.blk (cx.init 0 _ rfl) rfl).cell 2)
      · exact sv_call rfl rfl rfl rfl rfl (fun _ _ _ h => h) fun ρ β W X cx => ⟨_, _, run_callF (args := #[.int .i64 (n1 + 1), .int .i64 2]) rfl cx.sees rfl (by kernel_rfl) (map2 (cx.anc 10 rfl) (cx.sees.const _)), r04num_any (n1 + 1) 2 _ (by omega)⟩
      · exact s4 rfl (fun _ _ _ h => h) fun cx => run_load1 rfl (by kernel_rfl) (cx.anc 14 rfl) ((cx.blk (cx.init 0 _ rfl) rfl).cell 3)
      · exact sv_call rfl rfl rfl rfl rfl (fun _ _ _ h => h) fun ρ β W X cx => ⟨_, _, run_callF (args := #[.int .i64 n2, .int .i64 1]) rfl cx.sees rfl (by kernel_rfl) (map2 (cx.anc 15 rfl) (cx.sees.const _)), r04num_any n2 1 _ (by omega)⟩
      · exact sv_call rfl rfl rfl rfl rfl (fun _ _ _ h => h) fun ρ β W X cx => ⟨_, _, run_callF (args := #[.int .i64 0, .int .i64 1]) rfl cx.sees rfl (by kernel_rfl) (map2 (cx.anc 18 rfl) (cx.sees.const _)), r04num_any 0 1 _ (by omega)⟩
      · exact sv_call rfl rfl rfl rfl rfl (fun _ _ _ h => h) fun ρ β W X cx => ⟨_, _, run_callF (args := #[.int .i64 (((vbytesF rs).size : Int)), .int .i64 2]) rfl cx.sees rfl (by kernel_rfl) (map2 (cx.anc 22 rfl) (cx.sees.const _)), r04num_any ((vbytesF rs).size : Int) 2 _ (by omega)⟩
    intro σ β X W11 hD hX hst11 fr hfr
    simp only [zM, exq 0 (hX 0 _ rfl)] at hst11
    dsimp only [mgT, vals, List.take, List.drop, List.cons_append, List.nil_append] at hfr
    clear hX hD; subst hfr; clear σ β X
    refine then_normal ?_
    refine wp_ret ?_
    refine bodyPost_ret (v := .string (((((((putS a 1) ++ (putS b 1)) ++ (putS (n1 + 1) 2)) ++ (putS n2 1)) ++ (putS 0 1)) ++ (putS ((vbytesF rs).size : Int) 2)) ++ (vbytesF rs))) (results_tmp Tryd.results20 rfl) rfl ?_
    exact Ret.of (by rw [← tb_cat (by assumption), hotI, show ho = false by assumption]; rfl) hst11.ext
  refine wp_cond_true (show Act.eval _ _ = .bool true from (congrArg Value.bool (by rw [hs3]; rfl))) ?_
  refine wp_seq ?_
  refine wp_region_P [0] [.k 2 (.string ⟨#[]⟩)] [(2, 0, 1, 3)] hst2 fun W12 hst12 => ?_
  refine then_normal ?_
  refine wp_ret ?_
  refine then_ret ?_
  refine bodyPost_ret (v := .string ⟨#[]⟩) (results_tmp Tryd.results20 rfl) rfl ?_
  exact Ret.of (by rw [tbytesF, if_neg (by simp [*])]; rfl) hst12.ext

def PlainPost (rs : List Val) (w : World) (e : Ending) (w' : World) : Prop := ∃ A c, e = .returned (.slice A (plainR rs).length c) ∧ w'.ownsRow w.heap.size 103 3 (.slice A (plainR rs).length c) (plainR rs).length (flatR (plainR rs)) ∧ Ext w w'

set_option maxRecDepth 100000 in
set_option maxHeartbeats 4000000 in
theorem r02plain_any (RA : Option Addr) (rc : Nat) (rs : List Val) (w : World) (hA : At w RA (flatR rs)) (hlr : rs.length ≤ 1000000) :
    Calls Tryd.prog 17 #[.slice RA rs.length rc] w (PlainPost rs w) := by
  go_enter Tryd.func17, Tryd.ntmps17
  have hst0 := St.start w
  refine wp_seq ?_
  refine wp_region_P [0] [.k 2 (.slice none 0 0)] [(2, 0, 1, 3)] hst0 fun W1 hst1 => ?_
  refine then_normal ?_
  refine wp_seq ?_
  refine wp_region_T [0, 1] [] [[0]] [] [.a 6, .a 3] (fun ix σ β X => match ix with | 0 => σ 6 = .slice ((some ⟨(pb' (β 6)), 0, none⟩)) 0 0 ∧ X 0 = eO 103 3 (.slice ((some ⟨(pb' (β 6)), 0, none⟩)) 0 0) 0 (flatR (plainR (rs.take 0))) | 1 => σ 3 = .slice ((some ⟨(pb' (β 6)), 0, none⟩)) 0 0 | _ => True) [0] [0, 1] [(3, 1, 1, 4), (2, 0, 1, 3)] hst1 ?_ ?_ ?_
  · exact fun ix _ _ _ _ _ _ hs hb hx h => match ix, h with
    | 0, h => by dsimp only at h ⊢; rw [← hs 6 rfl, ← hb 6 rfl, ← hx 0 rfl]; exact h
    | 1, h => by dsimp only at h ⊢; rw [← hs 3 rfl, ← hb 6 rfl]; exact h
    | _ + 2, _ => trivial
  · refine ⟨?_, ?_, trivial⟩
    · refine sv_any rfl rfl fun ρ β W X cx => ?_
      exact dv_litN (e := 103) (sz := 3) (xs := []) rfl (by simp [go_sem]) rfl (by decide) rfl rfl (fun σ β' X' hs hb hv hx => ⟨hv, hx⟩)
    · exact sv rfl rfl rfl rfl rfl _ (fun _ _ _ h => h) (fun β β' h => by rw [h 6 (by decide)]) fun ρ β W X cx => run_assign' rfl (dTn (cx.anc 0 rfl)).1
  intro σ β X W2 hD hX hst2 fr hfr
  obtain ⟨B6_2, hu_B6_2⟩ : ∃ z, pb' (β 6) = z := ⟨_, rfl⟩
  simp only [zM, exq 0 ((dTn (hD 0 lq)).2), hu_B6_2] at hst2
  dsimp only [mgT, vals, List.take, List.drop, List.cons_append, List.nil_append] at hfr
  simp only [ed 6 ((dTn (hD 0 lq)).1), ed 3 ((dTn (hD 1 lq))), hu_B6_2] at hfr
  clear hX hD hu_B6_2; subst hfr; clear σ β X
  refine then_normal ?_
  refine wp_seq ?_
  refine wp_seq ?_
  refine wp_region_P [0] [.k 4 (.int .i64 0)] [(4, 0, 1, 5)] hst2 fun W3 hst3 => ?_
  refine then_normal ?_
  refine wp_block ?_
  refine wp_loopN (fun mz az W => ∃ k : Nat, ∃ RB : Option Addr, ∃ RC : Nat, ∃ u4_ : List Value, k ≤ rs.length ∧ mz = rs.length - k ∧ az = ⟨#[.slice RA rs.length rc, undef, .slice none 0 0, .slice RB k RC, .int .i64 ((k : Int)), (u4_.getD 0 undef), .slice ((some ⟨B6_2, 0, none⟩)) 0 0, (u4_.getD 1 undef), (u4_.getD 2 undef), (u4_.getD 3 undef), (u4_.getD 4 undef), (u4_.getD 5 undef), (u4_.getD 6 undef), (u4_.getD 7 undef), (u4_.getD 8 undef), (u4_.getD 9 undef), (u4_.getD 10 undef), (u4_.getD 11 undef), (u4_.getD 12 undef), (u4_.getD 13 undef), (u4_.getD 14 undef), (u4_.getD 15 undef), (u4_.getD 16 undef), (u4_.getD 17 undef), (u4_.getD 18 undef), (u4_.getD 19 undef), (u4_.getD 20 undef), (u4_.getD 21 undef), (u4_.getD 22 undef), (u4_.getD 23 undef), (u4_.getD 24 undef), (u4_.getD 25 undef), (u4_.getD 26 undef), (u4_.getD 27 undef), (u4_.getD 28 undef), (u4_.getD 29 undef), (u4_.getD 30 undef), (u4_.getD 31 undef), (u4_.getD 32 undef), (u4_.getD 33 undef), (u4_.getD 34 undef), undef], []⟩ ∧ St w [] [eO 103 3 (.slice RB k RC) k (flatR (plainR (rs.take k)))] W) (rs.length - 0) ?_ ?_
  · -- the loop begins
    have hp5 := hst3.pick [0] (by decide) rfl
    exact ⟨0, (some ⟨B6_2, 0, none⟩), 0, [undef, undef, undef, undef, undef, undef, undef, undef, undef, undef, undef, undef, undef, undef, undef, undef, undef, undef, undef, undef, undef, undef, undef, undef, undef, undef, undef, undef, undef, undef, undef, undef, undef, undef, undef], by omega, rfl, rfl, hp5⟩
  rintro n4 a4 W4 ⟨k, RB, RC, u4_, hk, rfl, rfl, hst4⟩
  refine wp_seq ?_
  refine wp_seq ?_
  refine wp_region_P [0, 0, 2, 7] [.k 7 (.int .i64 ((k : Int))), .k 8 (.slice RA rs.length rc), .k 9 (.int .i64 ((rs.length : Int))), .k 10 (.bool (decide ((k : Int) < (rs.length : Int))))] [(7, 0, 4, 11)] hst4 fun W6 hst6 => ?_
  refine then_normal ?_
  rcases Bool.eq_false_or_eq_true (decide ((k : Int) < (rs.length : Int))) with hs7 | hs7
  · skip
    have hs7p : (k : Int) < (rs.length : Int) := by simpa using hs7
    refine wp_cond_true (show Act.eval _ _ = .bool true from (congrArg Value.bool hs7)) ?_
    refine wp_skip ?_
    refine then_normal ?_
    refine wp_seq ?_
    refine wp_block ?_
    refine wp_seq ?_
    refine wp_region_T [0, 0, 3, 7, 15, 31, 0, 127] [[], [], [], [], [], [], [], [1]] [[], [], [], [], [], [], [1], [2]] [[], [], [], [], [], [], [], [1]] [.k 13 (.slice RA rs.length rc), .k 14 (.int .i64 ((k : Int))), .c 15 (.pointer (some ((ad RA).add (k * 3)))), .c 16 (.pointer (some ((ad RA).add (k * 3 + 0)))), .c 17 (.int .i64 ((rs.getD k v0).1)), .k 18 (.agg #[.int .i64 ((rs.getD k v0).1), .int .i64 0, .string ByteArray.empty]), .a 5, .n] (fun ix σ β X => match ix with | 0 => True | 1 => True | 2 => True | 3 => True | 4 => True | 5 => True | 6 => σ 5 = .pointer (some ⟨(pb (β 5)), 0, none⟩) ∧ X 1 = eB (pb (β 5)) 103 #[.int .i64 0, .int .i64 0, .string ByteArray.empty] | 7 => X 2 = eB (pb (β 5)) 103 #[.int .i64 ((rs.getD k v0).1), .int .i64 0, .string ByteArray.empty] | _ => True) [0, 2] [2, 3, 4, 6, 7] [(5, 6, 1, 6), (7, 0, 6, 13)] hst6 ?_ ?_ ?_
    · exact fun ix _ _ _ _ _ _ hs hb hx h => match ix, h with
      | 6, h => by dsimp only at h ⊢; rw [← hs 5 rfl, ← hb 5 rfl, ← hx 1 rfl]; exact h
      | 7, h => by dsimp only at h ⊢; rw [← hb 5 rfl, ← hx 2 rfl]; exact h
      | 0, _ | 1, _ | 2, _ | 3, _ | 4, _ | 5, _ | _ + 8, _ => trivial
    · refine ⟨?_, ?_, ?_, ?_, ?_, trivial⟩
      · exact s4 rfl (fun _ _ _ h => h) fun cx => run_indexSlM (e := 103) (m := k) (sz := 3) rfl (by kernel_rfl) (by kernel_rfl) (cx.anc 0 rfl) (cx.anc 1 rfl) (by omega) (by omega) (hA.ext cx.upd.to_ext) (by have h_ := flatLen (f := cellsV) (sz := 3) cellsV_len rs; show 0 < (List.flatMap cellsV rs).length; omega)
      · exact s4 rfl (fun _ _ _ h => h) fun cx => run_fieldAd rfl (by kernel_rfl) (cx.anc 2 rfl)
      · exact s4 rfl (fun _ _ _ h => h) fun cx => run_load1 rfl (by kernel_rfl) (cx.anc 3 rfl) (At.eltc (f := cellsV) (k := 0) cellsV_len (hA.ext cx.upd.to_ext) (getD_some (ts := rs) (m := k) v0 (by omega)) rfl)
      · refine sv_any rfl rfl fun ρ β W X cx => ?_
        exact dv_alloc (cs := #[.int .i64 0, .int .i64 0, .string ByteArray.empty]) rfl (by kernel_rfl) rfl rfl (fun σ β' X' hs hb hv hx => ⟨hv, hx⟩)
      · refine sv_any rfl rfl fun ρ β W X cx => ?_
        exact dv_store (n := 3) rfl (dTn (cx.anc 6 rfl)).1 (cx.anc 5 rfl) (by kernel_rfl) (by kernel_rfl) (by kernel_rfl) cx (dTn (cx.anc 6 rfl)).2 rfl (Nat.le_of_ble_eq_true rfl) (by kernel_rfl) rfl rfl rfl (fun σ β' X' hs hb hx => by rw [hb 5]; exact hx)
    intro σ β X W8 hD hX hst8 fr hfr
    obtain ⟨B5_8, hu_B5_8⟩ : ∃ z, pb (β 5) = z := ⟨_, rfl⟩
    simp only [zM, exq 0 (hX 0 _ rfl), exq 2 ((dTn (hD 7 lq))), hu_B5_8] at hst8
    dsimp only [mgT, vals, List.take, List.drop, List.cons_append, List.nil_append] at hfr
    simp only [ed 5 ((dTn (hD 6 lq)).1), hu_B5_8] at hfr
    clear hX hD hu_B5_8; subst hfr; clear σ β X
    refine then_normal ?_
    refine wp_seq ?_
    refine wp_seq ?_
    refine wp_region_T [0, 1, 3] [[], [1]] [] [] [.k 19 (.pointer (some ⟨B5_8, 0, none⟩)), .c 20 (.int .i64 ((rs.getD k v0).1)), .k 21 (.bool (((rs.getD k v0).1) == 1))] (fun _ _ _ _ => True) [0, 1] [1] [(19, 0, 3, 22)] hst8 ?_ ?_ ?_
    · exact fun _ _ _ _ _ _ _ _ _ _ h => h
    · refine ⟨?_, trivial⟩
      · exact s4 rfl (fun _ _ _ h => h) fun cx => run_load1 rfl (by kernel_rfl) (cx.anc 0 rfl) ((cx.blk (cx.init 1 _ rfl) rfl).cell 0)
    intro σ β X W9 hD hX hst9 fr hfr
    simp only [zM, exq 0 (hX 0 _ rfl), exq 1 (hX 1 _ rfl)] at hst9
    dsimp only [mgT, vals, List.take, List.drop, List.cons_append, List.nil_append] at hfr
    clear hX hD; subst hfr; clear σ β X
    refine then_normal ?_
    rcases Bool.eq_false_or_eq_true (((rs.getD k v0).1) == 1) with hs10 | hs10
    · skip
      have hs10p : ((rs.getD k v0).1) = 1 := by simpa using hs10
      refine wp_cond_true (show Act.eval _ _ = .bool true from (congrArg Value.bool hs10)) ?_
      refine wp_region_T [0, 0, 3, 7, 15, 31, 63] [[], [], [], [], [], [], [1]] [[], [], [], [], [], [], [2]] [[], [], [], [], [], [], [1]] [.k 22 (.slice RA rs.length rc), .k 23 (.int .i64 ((k : Int))), .c 24 (.pointer (some ((ad RA).add (k * 3)))), .c 25 (.pointer (some ((ad RA).add (k * 3 + 1)))), .c 26 (.int .i64 ((rs.getD k v0).2.1)), .k 27 (.pointer (some ⟨B5_8, 1, none⟩)), .n] (fun ix σ β X => match ix with | 0 => True | 1 => True | 2 => True | 3 => True | 4 => True | 5 => True | 6 => X 2 = eB B5_8 103 #[.int .i64 ((rs.getD k v0).1), .int .i64 ((rs.getD k v0).2.1), .string ByteArray.empty] | _ => True) [0, 2] [2, 3, 4, 6] [(22, 0, 6, 28)] hst9 ?_ ?_ ?_
      · exact fun ix _ _ _ _ _ _ hs hb hx h => match ix, h with
        | 6, h => by dsimp only at h ⊢; rw [← hx 2 rfl]; exact h
        | 0, _ | 1, _ | 2, _ | 3, _ | 4, _ | 5, _ | _ + 7, _ => trivial
      · refine ⟨?_, ?_, ?_, ?_, trivial⟩
        · exact s4 rfl (fun _ _ _ h => h) fun cx => run_indexSlM (e := 103) (m := k) (sz := 3) rfl (by kernel_rfl) (by kernel_rfl) (cx.anc 0 rfl) (cx.anc 1 rfl) (by omega) (by omega) (hA.ext cx.upd.to_ext) (by have h_ := flatLen (f := cellsV) (sz := 3) cellsV_len rs; show 0 < (List.flatMap cellsV rs).length; omega)
        · exact s4 rfl (fun _ _ _ h => h) fun cx => run_fieldAd rfl (by kernel_rfl) (cx.anc 2 rfl)
        · exact s4 rfl (fun _ _ _ h => h) fun cx => run_load1 rfl (by kernel_rfl) (cx.anc 3 rfl) (At.eltc (f := cellsV) (k := 1) cellsV_len (hA.ext cx.upd.to_ext) (getD_some (ts := rs) (m := k) v0 (by omega)) rfl)
        · refine sv_any rfl rfl fun ρ β W X cx => ?_
          exact dv_store (n := 1) rfl (cx.anc 5 rfl) (cx.anc 4 rfl) (by kernel_rfl) (by kernel_rfl) (by kernel_rfl) cx (cx.init 1 _ rfl) rfl (Nat.le_of_ble_eq_true rfl) (by kernel_rfl) rfl rfl rfl (fun σ β' X' hs hb hx => hx)
      intro σ β X W11 hD hX hst11 fr hfr
      simp only [zM, exq 0 (hX 0 _ rfl), exq 2 ((dTn (hD 6 lq)))] at hst11
      dsimp only [mgT, vals, List.take, List.drop, List.cons_append, List.nil_append] at hfr
      clear hX hD; subst hfr; clear σ β X
      refine then_normal ?_
      refine wp_seq ?_
      refine wp_seq ?_
      refine wp_region_T [0, 1, 3] [[], [1]] [] [] [.k 28 (.pointer (some ⟨B5_8, 0, none⟩)), .c 29 (.int .i64 ((rs.getD k v0).1)), .k 30 (.bool (((rs.getD k v0).1) == 2))] (fun _ _ _ _ => True) [0, 1] [1] [(28, 0, 3, 31)] hst11 ?_ ?_ ?_
      · exact fun _ _ _ _ _ _ _ _ _ _ h => h
      · refine ⟨?_, trivial⟩
        · exact s4 rfl (fun _ _ _ h => h) fun cx => run_load1 rfl (by kernel_rfl) (cx.anc 0 rfl) ((cx.blk (cx.init 1 _ rfl) rfl).cell 0)
      intro σ β X W12 hD hX hst12 fr hfr
      simp only [zM, exq 0 (hX 0 _ rfl), exq 1 (hX 1 _ rfl)] at hst12
      dsimp only [mgT, vals, List.take, List.drop, List.cons_append, List.nil_append] at hfr
      clear hX hD; subst hfr; clear σ β X
      refine then_normal ?_
      rcases Bool.eq_false_or_eq_true (((rs.getD k v0).1) == 2) with hs13 | hs13
      · skip
        have hs13p : ((rs.getD k v0).1) = 2 := by simpa using hs13
        exfalso; omega
      have hs13p : ((rs.getD k v0).1) ≠ 2 := by simpa using hs13
      refine wp_cond_false (show Act.eval _ _ = .bool false from (congrArg Value.bool hs13)) ?_
      refine wp_skip ?_
      refine then_normal ?_
      refine wp_region_T [0, 0, 2, 7, 15] [[], [1], [], [2, 0]] [[], [], [2], [3]] [[], [], [], [0]] [.k 37 (.slice RB k RC), .c 38 (.agg #[.int .i64 ((rs.getD k v0).1), .int .i64 ((rs.getD k v0).2.1), .string ByteArray.empty]), .a 39, .a 40, .a 3] (fun ix σ β X => match ix with | 0 => True | 1 => True | 2 => σ 39 = .slice ((some ⟨(pb' (β 39)), 0, none⟩)) 1 1 ∧ X 2 = eO 103 3 (.slice ((some ⟨(pb' (β 39)), 0, none⟩)) 1 1) 1 ([.int .i64 ((rs.getD k v0).1), .int .i64 ((rs.getD k v0).2.1), .string ByteArray.empty]) | 3 => σ 40 = .slice (sA (β 40)) (k + 1) (sC (β 40)) ∧ X 3 = eO 103 3 (.slice (sA (β 40)) (k + 1) (sC (β 40))) (k + 1) (flatR (plainR (rs.take (k + 1)))) | 4 => σ 3 = .slice (sA (β 40)) (k + 1) (sC (β 40)) | _ => True) [1, 2, 3] [1, 2, 3, 4] [(3, 4, 1, 4), (33, 0, 4, 37)] hst12 ?_ ?_ ?_
      · exact fun ix _ _ _ _ _ _ hs hb hx h => match ix, h with
        | 2, h => by dsimp only at h ⊢; rw [← hs 39 rfl, ← hb 39 rfl, ← hx 2 rfl]; exact h
        | 3, h => by dsimp only at h ⊢; rw [← hs 40 rfl, ← hb 40 rfl, ← hx 3 rfl]; exact h
        | 4, h => by dsimp only at h ⊢; rw [← hs 3 rfl, ← hb 40 rfl]; exact h
        | 0, _ | 1, _ | _ + 5, _ => trivial
      · refine ⟨?_, ?_, ?_, ?_, trivial⟩
        · exact s4 rfl (fun _ _ _ h => h) fun cx => run_loadB (n := 3) rfl (by kernel_rfl) (by kernel_rfl) (cx.out 5 rfl) (cx.blk (cx.init 1 _ rfl) rfl) (Nat.le_of_ble_eq_true rfl) rfl
        · refine sv_any rfl rfl fun ρ β W X cx => ?_
          have fF38 : ρ (.tmp 38) = .agg #[.int .i64 ((rs.getD k v0).1), .int .i64 ((rs.getD k v0).2.1), .string ByteArray.empty] := (cx.anc 1 rfl)
          exact dv_litN (e := 103) (sz := 3) (xs := [.int .i64 ((rs.getD k v0).1), .int .i64 ((rs.getD k v0).2.1), .string ByteArray.empty]) rfl (by simp [go_sem, fF38]) rfl (by decide) rfl rfl (fun σ β' X' hs hb hv hx => ⟨hv, hx⟩)
        · refine sv_any rfl rfl fun ρ β W X cx => ?_
          obtain ⟨i0, hi0, hz0, hz1, hz2⟩ := info_parts Tryd.infoVal
          refine dv_appendN (n := k) (m := 1) (nm := k + 1) (sz := 3) (xs := flatR (plainR (rs.take k))) (news := [.int .i64 ((rs.getD k v0).1), .int .i64 ((rs.getD k v0).2.1), .string ByteArray.empty]) (xs' := flatR (plainR (rs.take (k + 1)))) rfl (ty := 25) rfl (by kernel_rfl) hi0 hz0 hz1 hz2 rfl (by decide) (cx.anc 0 rfl) cx (cx.init 0 _ rfl) rfl (dTn (cx.anc 2 rfl)).1 (by rfl) (At.of_ownN (cx.row (dTn (cx.anc 2 rfl)).2 rfl)) (by simp [Value.oneCell']) (by simp only [maxLen]; omega) (by omega) rfl rfl rfl (by omega) (plain_snoc (by omega) (by simp only [cellsV, plainV]; rw [if_pos (by assumption), if_neg (by assumption)])) (fun σ β' X' hs hb hv hx => ?_)
          exact ⟨hv, hx⟩
        · exact sv rfl rfl rfl rfl rfl _ (fun _ _ _ h => h) (fun β β' h => by rw [h 40 (by decide)]) fun ρ β W X cx => run_assign' rfl (dTn (cx.anc 3 rfl)).1
      intro σ β X W14 hD hX hst14 fr hfr
      obtain ⟨B39_14, hu_B39_14⟩ : ∃ z, pb' (β 39) = z := ⟨_, rfl⟩
      obtain ⟨A40_14, hu_A40_14⟩ : ∃ z, sA (β 40) = z := ⟨_, rfl⟩
      obtain ⟨c40_14, hu_c40_14⟩ : ∃ z, sC (β 40) = z := ⟨_, rfl⟩
      simp only [zM, exq 1 (hX 1 _ rfl), exq 2 ((dTn (hD 2 lq)).2), exq 3 ((dTn (hD 3 lq)).2), hu_B39_14, hu_A40_14, hu_c40_14] at hst14
      dsimp only [mgT, vals, List.take, List.drop, List.cons_append, List.nil_append] at hfr
      simp only [ed 39 ((dTn (hD 2 lq)).1), ed 40 ((dTn (hD 3 lq)).1), ed 3 ((dTn (hD 4 lq))), hu_B39_14, hu_A40_14, hu_c40_14] at hfr
      clear hX hD hu_B39_14 hu_A40_14 hu_c40_14; subst hfr; clear σ β X
      refine blk_normal ?_
      refine then_normal ?_
      refine wp_region_P [0, 1, 3] [.k 11 (.int .i64 ((k : Int))), tI 12 ((k : Int) + 1) (by omega), .k 4 (.int .i64 ((k : Int) + 1))] [(4, 2, 1, 5), (6, 0, 2, 8)] hst14 fun W15 hst15 => ?_
      refine then_normal ?_
      refine ⟨rs.length - ((k + 1)), by omega, ?_⟩
      have hp16 := hst15.pick [2] (by decide) rfl
      exact ⟨(k + 1), A40_14, c40_14, [.pointer (some ⟨B5_8, 0, none⟩), .int .i64 ((k : Int)), .slice RA rs.length rc, .int .i64 ((rs.length : Int)), .bool (decide ((k : Int) < (rs.length : Int))), .int .i64 ((k : Int)), .int .i64 ((k : Int) + 1), .slice RA rs.length rc, .int .i64 ((k : Int)), .pointer (some ((ad RA).add (k * 3))), .pointer (some ((ad RA).add (k * 3 + 0))), .int .i64 ((rs.getD k v0).1), .agg #[.int .i64 ((rs.getD k v0).1), .int .i64 0, .string ByteArray.empty], .pointer (some ⟨B5_8, 0, none⟩), .int .i64 ((rs.getD k v0).1), .bool (((rs.getD k v0).1) == 1), .slice RA rs.length rc, .int .i64 ((k : Int)), .pointer (some ((ad RA).add (k * 3))), .pointer (some ((ad RA).add (k * 3 + 1))), .int .i64 ((rs.getD k v0).2.1), .pointer (some ⟨B5_8, 1, none⟩), .pointer (some ⟨B5_8, 0, none⟩), .int .i64 ((rs.getD k v0).1), .bool (((rs.getD k v0).1) == 2), (u4_.getD 25 undef), (u4_.getD 26 undef), (u4_.getD 27 undef), (u4_.getD 28 undef), (u4_.getD 29 undef), (u4_.getD 30 undef), .slice RB k RC, .agg #[.int .i64 ((rs.getD k v0).1), .int .i64 ((rs.getD k v0).2.1), .string ByteArray.empty], .slice ((some ⟨B39_14, 0, none⟩)) 1 1, .slice A40_14 (k + 1) c40_14], by omega, rfl, rfl, hp16⟩
    have hs10p : ((rs.getD k v0).1) ≠ 1 := by simpa using hs10
    refine wp_cond_false (show Act.eval _ _ = .bool false from (congrArg Value.bool hs10)) ?_
    refine wp_skip ?_
    refine then_normal ?_
    refine wp_seq ?_
    refine wp_seq ?_
    refine wp_region_T [0, 1, 3] [[], [1]] [] [] [.k 28 (.pointer (some ⟨B5_8, 0, none⟩)), .c 29 (.int .i64 ((rs.getD k v0).1)), .k 30 (.bool (((rs.getD k v0).1) == 2))] (fun _ _ _ _ => True) [0, 1] [1] [(28, 0, 3, 31)] hst9 ?_ ?_ ?_
    · exact fun _ _ _ _ _ _ _ _ _ _ h => h
    · refine ⟨?_, trivial⟩
      · exact s4 rfl (fun _ _ _ h => h) fun cx => run_load1 rfl (by kernel_rfl) (cx.anc 0 rfl) ((cx.blk (cx.init 1 _ rfl) rfl).cell 0)
    intro σ β X W17 hD hX hst17 fr hfr
    simp only [zM, exq 0 (hX 0 _ rfl), exq 1 (hX 1 _ rfl)] at hst17
    dsimp only [mgT, vals, List.take, List.drop, List.cons_append, List.nil_append] at hfr
    clear hX hD; subst hfr; clear σ β X
    refine then_normal ?_
    rcases Bool.eq_false_or_eq_true (((rs.getD k v0).1) == 2) with hs18 | hs18
    · skip
      have hs18p : ((rs.getD k v0).1) = 2 := by simpa using hs18
      refine wp_cond_true (show Act.eval _ _ = .bool true from (congrArg Value.bool hs18)) ?_
      refine wp_region_T [0, 0, 3, 7, 15, 31, 63] [[], [], [], [], [], [], [1]] [[], [], [], [], [], [], [2]] [[], [], [], [], [], [], [1]] [.k 31 (.slice RA rs.length rc), .k 32 (.int .i64 ((k : Int))), .c 33 (.pointer (some ((ad RA).add (k * 3)))), .c 34 (.pointer (some ((ad RA).add (k * 3 + 2)))), .c 35 (.string ((rs.getD k v0).2.2)), .k 36 (.pointer (some ⟨B5_8, 2, none⟩)), .n] (fun ix σ β X => match ix with | 0 => True | 1 => True | 2 => True | 3 => True | 4 => True | 5 => True | 6 => X 2 = eB B5_8 103 #[.int .i64 ((rs.getD k v0).1), .int .i64 0, .string ((rs.getD k v0).2.2)] | _ => True) [0, 2] [2, 3, 4, 6] [(31, 0, 6, 37)] hst17 ?_ ?_ ?_
      · exact fun ix _ _ _ _ _ _ hs hb hx h => match ix, h with
        | 6, h => by dsimp only at h ⊢; rw [← hx 2 rfl]; exact h
        | 0, _ | 1, _ | 2, _ | 3, _ | 4, _ | 5, _ | _ + 7, _ => trivial
      · refine ⟨?_, ?_, ?_, ?_, trivial⟩
        · exact s4 rfl (fun _ _ _ h => h) fun cx => run_indexSlM (e := 103) (m := k) (sz := 3) rfl (by kernel_rfl) (by kernel_rfl) (cx.anc 0 rfl) (cx.anc 1 rfl) (by omega) (by omega) (hA.ext cx.upd.to_ext) (by have h_ := flatLen (f := cellsV) (sz := 3) cellsV_len rs; show 0 < (List.flatMap cellsV rs).length; omega)
        · exact s4 rfl (fun _ _ _ h => h) fun cx => run_fieldAd rfl (by kernel_rfl) (cx.anc 2 rfl)
        · exact s4 rfl (fun _ _ _ h => h) fun cx => run_load1 rfl (by kernel_rfl) (cx.anc 3 rfl) (At.eltc (f := cellsV) (k := 2) cellsV_len (hA.ext cx.upd.to_ext) (getD_some (ts := rs) (m := k) v0 (by omega)) rfl)
        · refine sv_any rfl rfl fun ρ β W X cx => ?_
          exact dv_store (n := 1) rfl (cx.anc 5 rfl) (cx.anc 4 rfl) (by kernel_rfl) (by kernel_rfl) (by kernel_rfl) cx (cx.init 1 _ rfl) rfl (Nat.le_of_ble_eq_true rfl) (by kernel_rfl) rfl rfl rfl (fun σ β' X' hs hb hx => hx)
      intro σ β X W19 hD hX hst19 fr hfr
      simp only [zM, exq 0 (hX 0 _ rfl), exq 2 ((dTn (hD 6 lq)))] at hst19
      dsimp only [mgT, vals, List.take, List.drop, List.cons_append, List.nil_append] at hfr
      clear hX hD; subst hfr; clear σ β X
      refine then_normal ?_
      refine wp_region_T [0, 0, 2, 7, 15] [[], [1], [], [2, 0]] [[], [], [2], [3]] [[], [], [], [0]] [.k 37 (.slice RB k RC), .c 38 (.agg #[.int .i64 ((rs.getD k v0).1), .int .i64 0, .string ((rs.getD k v0).2.2)]), .a 39, .a 40, .a 3] (fun ix σ β X => match ix with | 0 => True | 1 => True | 2 => σ 39 = .slice ((some ⟨(pb' (β 39)), 0, none⟩)) 1 1 ∧ X 2 = eO 103 3 (.slice ((some ⟨(pb' (β 39)), 0, none⟩)) 1 1) 1 ([.int .i64 ((rs.getD k v0).1), .int .i64 0, .string ((rs.getD k v0).2.2)]) | 3 => σ 40 = .slice (sA (β 40)) (k + 1) (sC (β 40)) ∧ X 3 = eO 103 3 (.slice (sA (β 40)) (k + 1) (sC (β 40))) (k + 1) (flatR (plainR (rs.take (k + 1)))) | 4 => σ 3 = .slice (sA (β 40)) (k + 1) (sC (β 40)) | _ => True) [1, 2, 3] [1, 2, 3, 4] [(3, 4, 1, 4), (33, 0, 4, 37)] hst19 ?_ ?_ ?_
      · exact fun ix _ _ _ _ _ _ hs hb hx h => match ix, h with
        | 2, h => by dsimp only at h ⊢; rw [← hs 39 rfl, ← hb 39 rfl, ← hx 2 rfl]; exact h
        | 3, h => by dsimp only at h ⊢; rw [← hs 40 rfl, ← hb 40 rfl, ← hx 3 rfl]; exact h
        | 4, h => by dsimp only at h ⊢; rw [← hs 3 rfl, ← hb 40 rfl]; exact h
        | 0, _ | 1, _ | _ + 5, _ => trivial
      · refine ⟨?_, ?_, ?_, ?_, trivial⟩
        · exact s4 rfl (fun _ _ _ h => h) fun cx => run_loadB (n := 3) rfl (by kernel_rfl) (by kernel_rfl) (cx.out 5 rfl) (cx.blk (cx.init 1 _ rfl) rfl) (Nat.le_of_ble_eq_true rfl) rfl
        · refine sv_any rfl rfl fun ρ β W X cx => ?_
          have fF38 : ρ (.tmp 38) = .agg #[.int .i64 ((rs.getD k v0).1), .int .i64 0, .string ((rs.getD k v0).2.2)] := (cx.anc 1 rfl)
          exact dv_litN (e := 103) (sz := 3) (xs := [.int .i64 ((rs.getD k v0).1), .int .i64 0, .string ((rs.getD k v0).2.2)]) rfl (by simp [go_sem, fF38]) rfl (by decide) rfl rfl (fun σ β' X' hs hb hv hx => ⟨hv, hx⟩)
        · refine sv_any rfl rfl fun ρ β W X cx => ?_
          obtain ⟨i0, hi0, hz0, hz1, hz2⟩ := info_parts Tryd.infoVal
          refine dv_appendN (n := k) (m := 1) (nm := k + 1) (sz := 3) (xs := flatR (plainR (rs.take k))) (news := [.int .i64 ((rs.getD k v0).1), .int .i64 0, .string ((rs.getD k v0).2.2)]) (xs' := flatR (plainR (rs.take (k + 1)))) rfl (ty := 25) rfl (by kernel_rfl) hi0 hz0 hz1 hz2 rfl (by decide) (cx.anc 0 rfl) cx (cx.init 0 _ rfl) rfl (dTn (cx.anc 2 rfl)).1 (by rfl) (At.of_ownN (cx.row (dTn (cx.anc 2 rfl)).2 rfl)) (by simp [Value.oneCell']) (by simp only [maxLen]; omega) (by omega) rfl rfl rfl (by omega) (plain_snoc (by omega) (by simp only [cellsV, plainV]; rw [if_neg (by assumption), if_pos (by assumption)])) (fun σ β' X' hs hb hv hx => ?_)
          exact ⟨hv, hx⟩
        · exact sv rfl rfl rfl rfl rfl _ (fun _ _ _ h => h) (fun β β' h => by rw [h 40 (by decide)]) fun ρ β W X cx => run_assign' rfl (dTn (cx.anc 3 rfl)).1
      intro σ β X W20 hD hX hst20 fr hfr
      obtain ⟨B39_20, hu_B39_20⟩ : ∃ z, pb' (β 39) = z := ⟨_, rfl⟩
      obtain ⟨A40_20, hu_A40_20⟩ : ∃ z, sA (β 40) = z := ⟨_, rfl⟩
      obtain ⟨c40_20, hu_c40_20⟩ : ∃ z, sC (β 40) = z := ⟨_, rfl⟩
      simp only [zM, exq 1 (hX 1 _ rfl), exq 2 ((dTn (hD 2 lq)).2), exq 3 ((dTn (hD 3 lq)).2), hu_B39_20, hu_A40_20, hu_c40_20] at hst20
      dsimp only [mgT, vals, List.take, List.drop, List.cons_append, List.nil_append] at hfr
      simp only [ed 39 ((dTn (hD 2 lq)).1), ed 40 ((dTn (hD 3 lq)).1), ed 3 ((dTn (hD 4 lq))), hu_B39_20, hu_A40_20, hu_c40_20] at hfr
      clear hX hD hu_B39_20 hu_A40_20 hu_c40_20; subst hfr; clear σ β X
      refine blk_normal ?_
      refine then_normal ?_
      refine wp_region_P [0, 1, 3] [.k 11 (.int .i64 ((k : Int))), tI 12 ((k : Int) + 1) (by omega), .k 4 (.int .i64 ((k : Int) + 1))] [(4, 2, 1, 5), (6, 0, 2, 8)] hst20 fun W21 hst21 => ?_
      refine then_normal ?_
      refine ⟨rs.length - ((k + 1)), by omega, ?_⟩
      have hp22 := hst21.pick [2] (by decide) rfl
      exact ⟨(k + 1), A40_20, c40_20, [.pointer (some ⟨B5_8, 0, none⟩), .int .i64 ((k : Int)), .slice RA rs.length rc, .int .i64 ((rs.length : Int)), .bool (decide ((k : Int) < (rs.length : Int))), .int .i64 ((k : Int)), .int .i64 ((k : Int) + 1), .slice RA rs.length rc, .int .i64 ((k : Int)), .pointer (some ((ad RA).add (k * 3))), .pointer (some ((ad RA).add (k * 3 + 0))), .int .i64 ((rs.getD k v0).1), .agg #[.int .i64 ((rs.getD k v0).1), .int .i64 0, .string ByteArray.empty], .pointer (some ⟨B5_8, 0, none⟩), .int .i64 ((rs.getD k v0).1), .bool (((rs.getD k v0).1) == 1), (u4_.getD 16 undef), (u4_.getD 17 undef), (u4_.getD 18 undef), (u4_.getD 19 undef), (u4_.getD 20 undef), (u4_.getD 21 undef), .pointer (some ⟨B5_8, 0, none⟩), .int .i64 ((rs.getD k v0).1), .bool (((rs.getD k v0).1) == 2), .slice RA rs.length rc, .int .i64 ((k : Int)), .pointer (some ((ad RA).add (k * 3))), .pointer (some ((ad RA).add (k * 3 + 2))), .string ((rs.getD k v0).2.2), .pointer (some ⟨B5_8, 2, none⟩), .slice RB k RC, .agg #[.int .i64 ((rs.getD k v0).1), .int .i64 0, .string ((rs.getD k v0).2.2)], .slice ((some ⟨B39_20, 0, none⟩)) 1 1, .slice A40_20 (k + 1) c40_20], by omega, rfl, rfl, hp22⟩
    have hs18p : ((rs.getD k v0).1) ≠ 2 := by simpa using hs18
    refine wp_cond_false (show Act.eval _ _ = .bool false from (congrArg Value.bool hs18)) ?_
    refine wp_skip ?_
    refine then_normal ?_
    refine wp_region_T [0, 0, 2, 7, 15] [[], [1], [], [2, 0]] [[], [], [2], [3]] [[], [], [], [0]] [.k 37 (.slice RB k RC), .c 38 (.agg #[.int .i64 ((rs.getD k v0).1), .int .i64 0, .string ByteArray.empty]), .a 39, .a 40, .a 3] (fun ix σ β X => match ix with | 0 => True | 1 => True | 2 => σ 39 = .slice ((some ⟨(pb' (β 39)), 0, none⟩)) 1 1 ∧ X 2 = eO 103 3 (.slice ((some ⟨(pb' (β 39)), 0, none⟩)) 1 1) 1 ([.int .i64 ((rs.getD k v0).1), .int .i64 0, .string ByteArray.empty]) | 3 => σ 40 = .slice (sA (β 40)) (k + 1) (sC (β 40)) ∧ X 3 = eO 103 3 (.slice (sA (β 40)) (k + 1) (sC (β 40))) (k + 1) (flatR (plainR (rs.take (k + 1)))) | 4 => σ 3 = .slice (sA (β 40)) (k + 1) (sC (β 40)) | _ => True) [1, 2, 3] [1, 2, 3, 4] [(3, 4, 1, 4), (33, 0, 4, 37)] hst17 ?_ ?_ ?_
    · exact fun ix _ _ _ _ _ _ hs hb hx h => match ix, h with
      | 2, h => by dsimp only at h ⊢; rw [← hs 39 rfl, ← hb 39 rfl, ← hx 2 rfl]; exact h
      | 3, h => by dsimp only at h ⊢; rw [← hs 40 rfl, ← hb 40 rfl, ← hx 3 rfl]; exact h
      | 4, h => by dsimp only at h ⊢; rw [← hs 3 rfl, ← hb 40 rfl]; exact h
      | 0, _ | 1, _ | _ + 5, _ => trivial
    · refine ⟨?_, ?_, ?_, ?_, trivial⟩
      · exact s4 rfl (fun _ _ _ h => h) fun cx => run_loadB (n := 3) rfl (by kernel_rfl) (by kernel_rfl) (cx.out 5 rfl) (cx.blk (cx.init 1 _ rfl) rfl) (Nat.le_of_ble_eq_true rfl) rfl
      · refine sv_any rfl rfl fun ρ β W X cx => ?_
        have fF38 : ρ (.tmp 38) = .agg #[.int .i64 ((rs.getD k v0).1), .int .i64 0, .string ByteArray.empty] := (cx.anc 1 rfl)
        exact dv_litN (e := 103) (sz := 3) (xs := [.int .i64 ((rs.getD k v0).1), .int .i64 0, .string ByteArray.empty]) rfl (by simp [go_sem, fF38]) rfl (by decide) rfl rfl (fun σ β' X' hs hb hv hx => ⟨hv, hx⟩)
      · refine sv_any rfl rfl fun ρ β W X cx => ?_
        obtain ⟨i0, hi0, hz0, hz1, hz2⟩ := info_parts Tryd.infoVal
        refine dv_appendN (n := k) (m := 1) (nm := k + 1) (sz := 3) (xs := flatR (plainR (rs.take k))) (news := [.int .i64 ((rs.getD k v0).1), .int .i64 0, .string ByteArray.empty]) (xs' := flatR (plainR (rs.take (k + 1)))) rfl (ty := 25) rfl (by kernel_rfl) hi0 hz0 hz1 hz2 rfl (by decide) (cx.anc 0 rfl) cx (cx.init 0 _ rfl) rfl (dTn (cx.anc 2 rfl)).1 (by rfl) (At.of_ownN (cx.row (dTn (cx.anc 2 rfl)).2 rfl)) (by simp [Value.oneCell']) (by simp only [maxLen]; omega) (by omega) rfl rfl rfl (by omega) (plain_snoc (by omega) (by simp only [cellsV, plainV]; rw [if_neg (by assumption), if_neg (by assumption)])) (fun σ β' X' hs hb hv hx => ?_)
        exact ⟨hv, hx⟩
      · exact sv rfl rfl rfl rfl rfl _ (fun _ _ _ h => h) (fun β β' h => by rw [h 40 (by decide)]) fun ρ β W X cx => run_assign' rfl (dTn (cx.anc 3 rfl)).1
    intro σ β X W23 hD hX hst23 fr hfr
    obtain ⟨B39_23, hu_B39_23⟩ : ∃ z, pb' (β 39) = z := ⟨_, rfl⟩
    obtain ⟨A40_23, hu_A40_23⟩ : ∃ z, sA (β 40) = z := ⟨_, rfl⟩
    obtain ⟨c40_23, hu_c40_23⟩ : ∃ z, sC (β 40) = z := ⟨_, rfl⟩
    simp only [zM, exq 1 (hX 1 _ rfl), exq 2 ((dTn (hD 2 lq)).2), exq 3 ((dTn (hD 3 lq)).2), hu_B39_23, hu_A40_23, hu_c40_23] at hst23
    dsimp only [mgT, vals, List.take, List.drop, List.cons_append, List.nil_append] at hfr
    simp only [ed 39 ((dTn (hD 2 lq)).1), ed 40 ((dTn (hD 3 lq)).1), ed 3 ((dTn (hD 4 lq))), hu_B39_23, hu_A40_23, hu_c40_23] at hfr
    clear hX hD hu_B39_23 hu_A40_23 hu_c40_23; subst hfr; clear σ β X
    refine blk_normal ?_
    refine then_normal ?_
    refine wp_region_P [0, 1, 3] [.k 11 (.int .i64 ((k : Int))), tI 12 ((k : Int) + 1) (by omega), .k 4 (.int .i64 ((k : Int) + 1))] [(4, 2, 1, 5), (6, 0, 2, 8)] hst23 fun W24 hst24 => ?_
    refine then_normal ?_
    refine ⟨rs.length - ((k + 1)), by omega, ?_⟩
    have hp25 := hst24.pick [2] (by decide) rfl
    exact ⟨(k + 1), A40_23, c40_23, [.pointer (some ⟨B5_8, 0, none⟩), .int .i64 ((k : Int)), .slice RA rs.length rc, .int .i64 ((rs.length : Int)), .bool (decide ((k : Int) < (rs.length : Int))), .int .i64 ((k : Int)), .int .i64 ((k : Int) + 1), .slice RA rs.length rc, .int .i64 ((k : Int)), .pointer (some ((ad RA).add (k * 3))), .pointer (some ((ad RA).add (k * 3 + 0))), .int .i64 ((rs.getD k v0).1), .agg #[.int .i64 ((rs.getD k v0).1), .int .i64 0, .string ByteArray.empty], .pointer (some ⟨B5_8, 0, none⟩), .int .i64 ((rs.getD k v0).1), .bool (((rs.getD k v0).1) == 1), (u4_.getD 16 undef), (u4_.getD 17 undef), (u4_.getD 18 undef), (u4_.getD 19 undef), (u4_.getD 20 undef), (u4_.getD 21 undef), .pointer (some ⟨B5_8, 0, none⟩), .int .i64 ((rs.getD k v0).1), .bool (((rs.getD k v0).1) == 2), (u4_.getD 25 undef), (u4_.getD 26 undef), (u4_.getD 27 undef), (u4_.getD 28 undef), (u4_.getD 29 undef), (u4_.getD 30 undef), .slice RB k RC, .agg #[.int .i64 ((rs.getD k v0).1), .int .i64 0, .string ByteArray.empty], .slice ((some ⟨B39_23, 0, none⟩)) 1 1, .slice A40_23 (k + 1) c40_23], by omega, rfl, rfl, hp25⟩
  have hs7p : ¬ ((k : Int) < (rs.length : Int)) := by simpa using hs7
  refine wp_cond_false (show Act.eval _ _ = .bool false from (congrArg Value.bool hs7)) ?_
  refine wp_exit ?_
  refine then_exit ?_
  refine then_exit ?_
  refine blk_eq ?_
  refine then_normal ?_
  refine wp_seq ?_
  refine wp_region_P [0, 1] [.k 41 (.slice RB k RC), .k 2 (.slice RB k RC)] [(2, 1, 1, 3), (38, 0, 1, 39)] hst6 fun W26 hst26 => ?_
  refine then_normal ?_
  refine wp_ret ?_
  refine bodyPost_ret (v := .slice RB k RC) (results_tmp Tryd.results17 rfl) rfl ?_
  have hk_ : k = rs.length := by omega
  have ho_ := hst26.own' 0 rfl
  have hpl_ : (plainR rs).length = rs.length := by simp [plainR]
  rw [hk_, List.take_length, ← hpl_] at ho_
  rw [hk_, ← hpl_]
  exact ⟨_, _, rfl, ho_, hst26.ext⟩

end Go.Proofs.YtfjpglohcppjeaaDoor

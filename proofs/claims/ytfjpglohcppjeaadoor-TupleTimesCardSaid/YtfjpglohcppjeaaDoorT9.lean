/- value: known, Right, right, whole, Bytes. -/
import Derived.Test.YtfjpglohcppjeaaDoorT7
import Derived.Test.YtfjpglohcppjeaaDoorSby
namespace Go.Proofs.YtfjpglohcppjeaaDoor
open Go.RowKit
set_option linter.unusedVariables false
set_option linter.unusedSimpArgs false

theorem cellsV_len (v : Val) : (cellsV v).length = 3 := rfl
abbrev v0 : Val := (0, 0, ByteArray.empty)
def knownF (k : Int) : Bool := decide (0 ≤ k) && decide (k ≤ 2)
def vrightF (v : Val) : Bool := knownF v.1 && (v.1 != 2 || decide (v.2.2.size ≤ 40))
def rrightF (r : List Val) : Bool := r.all vrightF && decide (r.length ≤ 6)
theorem vright_parts {v : Val} (h : vrightF v = true) : 0 ≤ v.1 ∧ v.1 ≤ 2 ∧ (v.1 = 2 → v.2.2.size ≤ 40) := by
  simp only [vrightF, knownF, Bool.and_eq_true, Bool.or_eq_true, decide_eq_true_eq, bne_iff_ne, ne_eq] at h
  refine ⟨h.1.1, h.1.2, fun e => ?_⟩
  rcases h.2 with h2 | h2
  · exact absurd e h2
  · exact h2
theorem rright_bad {r : List Val} {k : Nat} (hk : k < r.length) (h : vrightF (r.getD k v0) = false) : rrightF r = false := by
  rw [rrightF, Bool.and_eq_false_iff]
  left
  rw [List.all_eq_false]
  refine ⟨r[k], List.getElem_mem hk, ?_⟩
  rw [List.getD_eq_getElem?_getD, List.getElem?_eq_getElem hk] at h
  simpa using h
theorem rright_step {r : List Val} {k : Nat} (hk : k < r.length) (h : (r.take k).all vrightF = true) (h2 : vrightF (r.getD k v0) = true) : (r.take (k + 1)).all vrightF = true := by
  rw [List.getD_eq_getElem?_getD, List.getElem?_eq_getElem hk] at h2
  rw [List.take_add_one, List.getElem?_eq_getElem hk, List.all_append, h]
  simpa using h2
theorem rright_end {r : List Val} {k : Nat} (hk : r.length ≤ k) (h : (r.take k).all vrightF = true) : rrightF r = decide (r.length ≤ 6) := by
  rw [List.take_of_length_le hk] at h
  rw [rrightF, h, Bool.true_and]
theorem rright_at {r : List Val} (h : rrightF r = true) {k : Nat} (hk : k < r.length) : vrightF (r.getD k v0) = true := by
  rw [rrightF, Bool.and_eq_true, List.all_eq_true] at h
  rw [List.getD_eq_getElem?_getD, List.getElem?_eq_getElem hk]
  exact h.1 _ (List.getElem_mem hk)
theorem rright_len {r : List Val} (h : rrightF r = true) : r.length ≤ 6 := by
  rw [rrightF, Bool.and_eq_true, decide_eq_true_eq] at h
  exact h.2
/-- a value's bytes, a row's bytes -/
def valB (v : Val) : List UInt8 := UInt8.ofNat v.1.toNat :: (if v.1 = 1 then (putS v.2.1 8).data.toList else if v.1 = 2 then UInt8.ofNat ((v.2.2.size : Nat) : Int).toNat :: v.2.2.data.toList else [])
def bytesTo (r : List Val) (k : Nat) : List UInt8 := UInt8.ofNat ((r.length : Nat) : Int).toNat :: (r.take k).flatMap valB
def strL (l : List UInt8) : ByteArray := ⟨l.toArray⟩
def vbytesF (r : List Val) : ByteArray := if rrightF r = true then strL (bytesTo r r.length) else ByteArray.empty
theorem bt_succ {r : List Val} {k : Nat} (hk : k < r.length) : bytesTo r (k + 1) = bytesTo r k ++ valB (r.getD k v0) := by
  rw [List.getD_eq_getElem?_getD, List.getElem?_eq_getElem hk, bytesTo, List.take_add_one, List.getElem?_eq_getElem hk, bytesTo, List.cons_append, List.flatMap_append]
  simp
theorem bt_0 (r : List Val) : bytesTo r 0 = [UInt8.ofNat ((r.length : Nat) : Int).toNat] := rfl
theorem bt_int {r : List Val} {k : Nat} (hk : k < r.length) (h1 : (r.getD k v0).1 = 1) : (bytesTo r k ++ [UInt8.ofNat (r.getD k v0).1.toNat]) ++ (putS (r.getD k v0).2.1 8).data.toList = bytesTo r (k + 1) := by
  rw [bt_succ hk, valB, if_pos h1, List.append_assoc]; rfl
theorem bt_text {r : List Val} {k : Nat} (hk : k < r.length) (h1 : (r.getD k v0).1 ≠ 1) (h2 : (r.getD k v0).1 = 2) : ((bytesTo r k ++ [UInt8.ofNat (r.getD k v0).1.toNat]) ++ [UInt8.ofNat ((((r.getD k v0).2.2.size : Nat) : Int)).toNat]) ++ (r.getD k v0).2.2.data.toList = bytesTo r (k + 1) := by
  rw [bt_succ hk, valB, if_neg h1, if_pos h2, List.append_assoc, List.append_assoc]; rfl
theorem bt_none {r : List Val} {k : Nat} (hk : k < r.length) (h1 : (r.getD k v0).1 ≠ 1) (h2 : (r.getD k v0).1 ≠ 2) : bytesTo r k ++ [UInt8.ofNat (r.getD k v0).1.toNat] = bytesTo r (k + 1) := by
  rw [bt_succ hk, valB, if_neg h1, if_neg h2]
theorem valB_len {v : Val} (h : vrightF v = true) : (valB v).length ≤ 50 := by
  have hp := vright_parts h
  rw [valB, List.length_cons]
  split
  · have := putS_size v.2.1 8 (by omega)
    have h2 : (putS v.2.1 8).data.toList.length = 8 := by rw [Array.length_toList]; exact this
    omega
  · split
    · rename_i h2
      have h3 := hp.2.2 h2
      have h4 : v.2.2.data.toList.length = v.2.2.size := by rw [Array.length_toList]; rfl
      rw [List.length_cons, h4]; omega
    · simp
theorem flat_le {l : List Val} (h : l.all vrightF = true) : (l.flatMap valB).length ≤ l.length * 50 := by
  induction l with
  | nil => simp
  | cons v l ih =>
    rw [List.all_cons, Bool.and_eq_true] at h
    have h1 := ih h.2
    have h2 := valB_len h.1
    rw [List.flatMap_cons, List.length_append, List.length_cons, Nat.add_mul]
    omega
theorem bt_len {r : List Val} (h : rrightF r = true) (k : Nat) : (bytesTo r k).length ≤ 301 := by
  have hl := rright_len h
  rw [rrightF, Bool.and_eq_true] at h
  have h1 : (r.take k).all vrightF = true := by
    rw [List.all_eq_true] at h ⊢
    exact fun x hx => h.1 x (List.mem_of_mem_take hx)
  have h2 := flat_le h1
  have h3 : (r.take k).length ≤ 6 := by rw [List.length_take]; omega
  rw [bytesTo, List.length_cons]
  have h4 : (r.take k).length * 50 ≤ 6 * 50 := Nat.mul_le_mul_right _ h3
  omega
theorem bt_ne (r : List Val) (k : Nat) : bytesTo r k ≠ [] := by rw [bytesTo]; exact List.cons_ne_nil _ _
set_option maxRecDepth 100000 in
set_option maxHeartbeats 4000000 in
theorem vwhole_any (n : Int) (w : World) : Calls Tryd.prog 109 #[.int .u64 (IntKind.u64.wrap n)] w (Ret1 (.string (putS n 8)) w) := by
  have hcv := run_cv_oct n 8 (by omega) 0 rfl w w.heap.size rfl _ 163 rfl
  simp only [oct8, List.map_cons, List.map_nil] at hcv
  go_enter Tryd.func109, Tryd.ntmps109
  go_wp2_with fail
  refine wp_loop_rounds 9 ?_
  rw [rounds_succ]; go_wp2_with fail
  rw [rounds_succ]; go_wp2_with fail
  rw [rounds_succ]; go_wp2_with fail
  rw [rounds_succ]; go_wp2_with fail
  rw [rounds_succ]; go_wp2_with fail
  rw [rounds_succ]; go_wp2_with fail
  rw [rounds_succ]; go_wp2_with fail
  rw [rounds_succ]; go_wp2_with fail
  rw [rounds_succ]; go_wp2_with fail
  go_ret
  exact ⟨rfl, (Ext.refl w).alloc _⟩
set_option maxRecDepth 100000 in
set_option maxHeartbeats 2000000 in
theorem vknown_any (k : Int) (w : World) :
    Calls Tryd.prog 101 #[.int .i64 k] w (Ret (.bool (knownF k)) w) := by
  go_enter Tryd.func101, Tryd.ntmps101
  have hst0 := St.start w
  refine wp_seq ?_
  refine wp_region_P [0] [.k 2 (.bool false)] [(2, 0, 1, 3)] hst0 fun W1 hst1 => ?_
  refine then_normal ?_
  refine wp_seq ?_
  refine wp_region_P [0, 1, 3, 7, 15, 31, 63] [.k 3 (.int .i64 k), .k 4 (.bool (decide (0 ≤ k))), .k 5 (.bool (decide (0 ≤ k))), .z 6 (decide (0 ≤ k)) (.int .i64 k), .z 7 (decide (0 ≤ k)) (.bool (decide (k ≤ 2))), tA 8 (decide (0 ≤ k)) (decide (k ≤ 2)), .k 2 (.bool ((decide (0 ≤ k)) && (decide (k ≤ 2))))] [(2, 6, 1, 3), (0, 0, 6, 6)] hst1 fun W2 hst2 => ?_
  refine then_normal ?_
  refine wp_ret ?_
  refine bodyPost_ret (v := .bool ((decide (0 ≤ k)) && (decide (k ≤ 2)))) (results_tmp Tryd.results101 rfl) rfl ?_
  exact Ret.bool (by simp_all [knownF] <;> omega) hst2.ext

set_option maxRecDepth 100000 in
set_option maxHeartbeats 2000000 in
theorem vright_any (v : Val) (w : World) :
    Calls Tryd.prog 104 #[.agg #[.int .i64 v.1, .int .i64 v.2.1, .string v.2.2]] w (Ret (.bool (vrightF v)) w) := by
  go_enter Tryd.func104, Tryd.ntmps104
  have hst0 := St.start w
  refine wp_seq ?_
  refine wp_region_T [0, 0] [] [[0]] [] [.a 1, .k 2 (.bool false)] (fun ix σ β X => match ix with | 0 => σ 1 = .pointer (some ⟨(pb (β 1)), 0, none⟩) ∧ X 0 = eB (pb (β 1)) 103 #[.int .i64 v.1, .int .i64 v.2.1, .string v.2.2] | _ => True) [0] [0] [(1, 0, 2, 3)] hst0 ?_ ?_ ?_
  · exact fun ix _ _ _ _ _ _ hs hb hx h => match ix, h with
    | 0, h => by dsimp only at h ⊢; rw [← hs 1 rfl, ← hb 1 rfl, ← hx 0 rfl]; exact h
    | _ + 1, _ => trivial
  · refine ⟨?_, trivial⟩
    · refine sv_any rfl rfl fun ρ β W X cx => ?_
      exact dv_box (cs := #[.int .i64 v.1, .int .i64 v.2.1, .string v.2.2]) rfl (cx.out 0 rfl) rfl rfl rfl (fun σ β' X' hs hb hv hx => ⟨hv, hx⟩)
  intro σ β X W1 hD hX hst1 fr hfr
  obtain ⟨B1_1, hu_B1_1⟩ : ∃ z, pb (β 1) = z := ⟨_, rfl⟩
  simp only [zM, exq 0 ((dTn (hD 0 lq)).2), hu_B1_1] at hst1
  dsimp only [mgT, vals, List.take, List.drop, List.cons_append, List.nil_append] at hfr
  simp only [ed 1 ((dTn (hD 0 lq)).1), hu_B1_1] at hfr
  clear hX hD hu_B1_1; subst hfr; clear σ β X
  refine then_normal ?_
  refine wp_seq ?_
  refine wp_region_T [0, 1, 3, 7, 15, 31, 63, 127, 255, 511, 1023, 2047, 4095, 8191, 16383] [[], [0], [], [], [], [0], [], [], [], [0]] [] [] [.k 3 (.pointer (some ⟨B1_1, 0, none⟩)), .c 4 (.int .i64 v.1), .c 5 (.bool (knownF v.1)), .k 6 (.bool (knownF v.1)), .z 7 (knownF v.1) (.pointer (some ⟨B1_1, 0, none⟩)), .y 8 (knownF v.1) (.int .i64 v.1), .z 9 (knownF v.1) (.bool (v.1 != 2)), .z 10 (knownF v.1) (.bool (v.1 != 2)), .z 11 ((knownF v.1) && (!(v.1 != 2))) (.pointer (some ⟨B1_1, 2, none⟩)), .y 12 ((knownF v.1) && (!(v.1 != 2))) (.string v.2.2), .z 13 ((knownF v.1) && (!(v.1 != 2))) (.int .i64 ((v.2.2.size : Int))), .z 14 ((knownF v.1) && (!(v.1 != 2))) (.bool (decide ((v.2.2.size : Int) ≤ 40))), .y 15 (knownF v.1) (.bool ((v.1 != 2) || (decide ((v.2.2.size : Int) ≤ 40)))), tA 16 (knownF v.1) ((v.1 != 2) || (decide ((v.2.2.size : Int) ≤ 40))), .k 2 (.bool ((knownF v.1) && ((v.1 != 2) || (decide ((v.2.2.size : Int) ≤ 40)))))] (fun _ _ _ _ => True) [0] [1, 2, 5, 9, 12] [(2, 14, 1, 3), (0, 0, 14, 14)] hst1 ?_ ?_ ?_
  · exact fun _ _ _ _ _ _ _ _ _ _ h => h
  · refine ⟨?_, ?_, ?_, ?_, ?_, trivial⟩
    · exact s4 rfl (fun _ _ _ h => h) fun cx => run_load1 rfl (by kernel_rfl) (cx.anc 0 rfl) ((cx.blk (cx.init 0 _ rfl) rfl).cell 0)
    · exact sv_call rfl rfl rfl rfl rfl (fun _ _ _ h => h) fun ρ β W X cx => ⟨_, _, run_callF (args := #[.int .i64 v.1]) rfl cx.sees rfl (by kernel_rfl) (map1 (cx.anc 1 rfl)), vknown_any v.1 _⟩
    · exact m2 rfl (fun _ _ _ h => h) (fun cx => (cx.anc 3 rfl)) fun cx hq => run_load1 rfl (by kernel_rfl) (mbv (cx.anc 4 rfl) hq) ((cx.blk (cx.init 0 _ rfl) rfl).cell 0)
    · exact m0 rfl (fun _ _ _ h => h) (fun cx => (cx.anc 7 rfl)) fun cx hq => run_load1 rfl (by kernel_rfl) (mbv (cx.anc 8 rfl) hq) ((cx.blk (cx.init 0 _ rfl) rfl).cell 2)
    · exact m2 rfl (fun _ _ _ h => h) (fun cx => (cx.anc 3 rfl)) fun cx hq => run_pick_or rfl (mbv (cx.anc 7 rfl) hq) (cx.sees.const _) (cx.anc 11 rfl) (fun e_ => by rw [hq, e_]; rfl)
  intro σ β X W2 hD hX hst2 fr hfr
  simp only [zM, exq 0 (hX 0 _ rfl)] at hst2
  dsimp only [mgT, vals, List.take, List.drop, List.cons_append, List.nil_append] at hfr
  clear hX hD; subst hfr; clear σ β X
  refine then_normal ?_
  refine wp_ret ?_
  refine bodyPost_ret (v := .bool ((knownF v.1) && ((v.1 != 2) || (decide ((v.2.2.size : Int) ≤ 40))))) (results_tmp Tryd.results104 rfl) rfl ?_
  exact Ret.bool (by simp only [vrightF]; congr 2; exact decide_eq_decide.2 (by omega)) hst2.ext

set_option maxRecDepth 100000 in
set_option maxHeartbeats 2000000 in
theorem vrow_any (RA : Option Addr) (rc : Nat) (r : List Val) (w : World) (hA : At w RA (flatR r)) (hlr : r.length ≤ 9223372036854775807) :
    Calls Tryd.prog 107 #[.slice RA r.length rc] w (Ret (.bool (rrightF r)) w) := by
  go_enter Tryd.func107, Tryd.ntmps107
  have hst0 := St.start w
  refine wp_seq ?_
  refine wp_region_P [0] [.k 2 (.bool false)] [(2, 0, 1, 3)] hst0 fun W1 hst1 => ?_
  refine then_normal ?_
  refine wp_seq ?_
  refine wp_seq ?_
  refine wp_region_P [0, 1, 0] [.k 5 (.slice RA r.length rc), .k 6 (.int .i64 ((r.length : Int))), .k 7 (.int .i64 0)] [(5, 0, 3, 8)] hst1 fun W2 hst2 => ?_
  refine then_normal ?_
  refine wp_block ?_
  refine wp_loopN (fun mz az W => ∃ k : Nat, ∃ u3_ : List Value, k ≤ r.length ∧ (r.take k).all vrightF = true ∧ mz = r.length - k ∧ az = ⟨#[.slice RA r.length rc, undef, (u3_.getD 0 undef), undef, (u3_.getD 1 undef), .slice RA r.length rc, .int .i64 ((r.length : Int)), .int .i64 ((k : Int)), (u3_.getD 2 undef), (u3_.getD 3 undef), (u3_.getD 4 undef), (u3_.getD 5 undef), (u3_.getD 6 undef), (u3_.getD 7 undef), (u3_.getD 8 undef), undef, undef, undef], []⟩ ∧ St w [] [] W) (r.length - 0) ?_ ?_
  · -- the loop begins
    have hp4 := hst2.pick [] (by decide) rfl
    exact ⟨0, [.bool false, undef, undef, undef, undef, undef, undef, undef, undef], by omega, rfl, rfl, rfl, hp4⟩
  rintro n3 a3 W3 ⟨k, u3_, hkl, hka, rfl, rfl, hst3⟩
  refine wp_seq ?_
  refine wp_region_P [0] [.k 8 (.bool (decide ((k : Int) < (r.length : Int))))] [(8, 0, 1, 9)] hst3 fun W5 hst5 => ?_
  refine then_normal ?_
  refine wp_seq ?_
  rcases Bool.eq_false_or_eq_true (decide ((k : Int) < (r.length : Int))) with hs6 | hs6
  · skip
    have hs6p : (k : Int) < (r.length : Int) := by simpa using hs6
    refine wp_cond_true (show Act.eval _ _ = .bool true from (congrArg Value.bool hs6)) ?_
    refine wp_skip ?_
    refine then_normal ?_
    refine wp_seq ?_
    refine wp_block ?_
    refine wp_seq ?_
    refine wp_region_T [0, 1, 0, 7] [[], [], [], [0]] [[], [], [0], [1]] [[], [], [], [0]] [.c 9 (.pointer (some ((ad RA).add (k * 3)))), .c 10 (.agg #[.int .i64 ((r.getD k v0).1), .int .i64 ((r.getD k v0).2.1), .string ((r.getD k v0).2.2)]), .a 4, .n] (fun ix σ β X => match ix with | 0 => True | 1 => True | 2 => σ 4 = .pointer (some ⟨(pb (β 4)), 0, none⟩) ∧ X 0 = eB (pb (β 4)) 103 #[.int .i64 0, .int .i64 0, .string ByteArray.empty] | 3 => X 1 = eB (pb (β 4)) 103 #[.int .i64 ((r.getD k v0).1), .int .i64 ((r.getD k v0).2.1), .string ((r.getD k v0).2.2)] | _ => True) [1] [0, 1, 2, 3] [(4, 2, 1, 5), (4, 0, 2, 6)] hst5 ?_ ?_ ?_
    · exact fun ix _ _ _ _ _ _ hs hb hx h => match ix, h with
      | 2, h => by dsimp only at h ⊢; rw [← hs 4 rfl, ← hb 4 rfl, ← hx 0 rfl]; exact h
      | 3, h => by dsimp only at h ⊢; rw [← hb 4 rfl, ← hx 1 rfl]; exact h
      | 0, _ | 1, _ | _ + 4, _ => trivial
    · refine ⟨?_, ?_, ?_, ?_, trivial⟩
      · exact s4 rfl (fun _ _ _ h => h) fun cx => run_indexSlM (e := 103) (m := k) (sz := 3) rfl (by kernel_rfl) (by kernel_rfl) (cx.out 5 rfl) (cx.out 7 rfl) (by omega) (by omega) (hA.ext cx.upd.to_ext) (by have h_ := flatLen (f := cellsV) (sz := 3) cellsV_len r; show 0 < (List.flatMap cellsV r).length; omega)
      · exact s4 rfl (fun _ _ _ h => h) fun cx => run_loadElt (f := cellsV) (m := k) (sz := 3) (off := 0) (n := 3) rfl (by kernel_rfl) (by kernel_rfl) (cx.anc 0 rfl) rfl cellsV_len (hA.ext cx.upd.to_ext) (getD_some (ts := r) (m := k) v0 (by omega)) (fun k hk => match k, hk with | 0, _ => rfl | 1, _ => rfl | 2, _ => rfl | k + 3, hk => absurd hk (by omega))
      · refine sv_any rfl rfl fun ρ β W X cx => ?_
        exact dv_alloc (cs := #[.int .i64 0, .int .i64 0, .string ByteArray.empty]) rfl (by kernel_rfl) rfl rfl (fun σ β' X' hs hb hv hx => ⟨hv, hx⟩)
      · refine sv_any rfl rfl fun ρ β W X cx => ?_
        exact dv_store (n := 3) rfl (dTn (cx.anc 2 rfl)).1 (cx.anc 1 rfl) (by kernel_rfl) (by kernel_rfl) (by kernel_rfl) cx (dTn (cx.anc 2 rfl)).2 rfl (Nat.le_of_ble_eq_true rfl) (by kernel_rfl) rfl rfl rfl (fun σ β' X' hs hb hx => by rw [hb 4]; exact hx)
    intro σ β X W7 hD hX hst7 fr hfr
    obtain ⟨B4_7, hu_B4_7⟩ : ∃ z, pb (β 4) = z := ⟨_, rfl⟩
    simp only [zM, exq 1 ((dTn (hD 3 lq))), hu_B4_7] at hst7
    dsimp only [mgT, vals, List.take, List.drop, List.cons_append, List.nil_append] at hfr
    simp only [ed 4 ((dTn (hD 2 lq)).1), hu_B4_7] at hfr
    clear hX hD hu_B4_7; subst hfr; clear σ β X
    refine then_normal ?_
    refine wp_seq ?_
    refine wp_region_T [0, 1, 3] [[0]] [] [] [.c 11 (.agg #[.int .i64 ((r.getD k v0).1), .int .i64 ((r.getD k v0).2.1), .string ((r.getD k v0).2.2)]), .c 12 (.bool (vrightF (r.getD k v0))), .k 13 (.bool (!(vrightF (r.getD k v0))))] (fun _ _ _ _ => True) [0] [0, 1] [(11, 0, 3, 14)] hst7 ?_ ?_ ?_
    · exact fun _ _ _ _ _ _ _ _ _ _ h => h
    · refine ⟨?_, ?_, trivial⟩
      · exact s4 rfl (fun _ _ _ h => h) fun cx => run_loadB (n := 3) rfl (by kernel_rfl) (by kernel_rfl) (cx.out 4 rfl) (cx.blk (cx.init 0 _ rfl) rfl) (Nat.le_of_ble_eq_true rfl) rfl
      · exact sv_call rfl rfl rfl rfl rfl (fun _ _ _ h => h) fun ρ β W X cx => ⟨_, _, run_callF (args := #[.agg #[.int .i64 ((r.getD k v0).1), .int .i64 ((r.getD k v0).2.1), .string ((r.getD k v0).2.2)]]) rfl cx.sees rfl (by kernel_rfl) (map1 (cx.anc 0 rfl)), vright_any (r.getD k v0) _⟩
    intro σ β X W8 hD hX hst8 fr hfr
    simp only [zM, exq 0 (hX 0 _ rfl)] at hst8
    dsimp only [mgT, vals, List.take, List.drop, List.cons_append, List.nil_append] at hfr
    clear hX hD; subst hfr; clear σ β X
    refine then_normal ?_
    rcases Bool.eq_false_or_eq_true (vrightF (r.getD k v0)) with hs9 | hs9
    · skip
      refine wp_cond_false (show Act.eval _ _ = .bool false from (congrArg Value.bool (by rw [hs9]; rfl))) ?_
      refine wp_skip ?_
      refine blk_normal ?_
      refine then_normal ?_
      refine wp_region_P [0, 1] [tI 14 ((k : Int) + 1) (by omega), .k 7 (.int .i64 ((k : Int) + 1))] [(7, 1, 1, 8), (6, 0, 1, 7)] hst8 fun W10 hst10 => ?_
      refine then_normal ?_
      refine ⟨r.length - ((k + 1)), by omega, ?_⟩
      have hp11 := hst10.pick [] (by decide) rfl
      exact ⟨(k + 1), [(u3_.getD 0 undef), .pointer (some ⟨B4_7, 0, none⟩), .bool (decide ((k : Int) < (r.length : Int))), .pointer (some ((ad RA).add (k * 3))), .agg #[.int .i64 ((r.getD k v0).1), .int .i64 ((r.getD k v0).2.1), .string ((r.getD k v0).2.2)], .agg #[.int .i64 ((r.getD k v0).1), .int .i64 ((r.getD k v0).2.1), .string ((r.getD k v0).2.2)], .bool (vrightF (r.getD k v0)), .bool (!(vrightF (r.getD k v0))), .int .i64 ((k : Int) + 1)], by omega, rright_step (by omega) hka hs9, rfl, rfl, hp11⟩
    refine wp_cond_true (show Act.eval _ _ = .bool true from (congrArg Value.bool (by rw [hs9]; rfl))) ?_
    refine wp_seq ?_
    refine wp_region_P [0] [.k 2 (.bool false)] [(2, 0, 1, 3)] hst8 fun W12 hst12 => ?_
    refine then_normal ?_
    refine wp_ret ?_
    refine blk_ret ?_
    refine then_ret ?_
    refine then_ret ?_
    refine blk_ret ?_
    refine then_ret ?_
    refine bodyPost_ret (v := .bool false) (results_tmp Tryd.results107 rfl) rfl ?_
    exact Ret.bool (rright_bad (by omega) hs9).symm hst12.ext
  have hs6p : ¬ ((k : Int) < (r.length : Int)) := by simpa using hs6
  refine wp_cond_false (show Act.eval _ _ = .bool false from (congrArg Value.bool hs6)) ?_
  refine wp_exit ?_
  refine then_exit ?_
  refine then_exit ?_
  refine blk_eq ?_
  refine then_normal ?_
  refine wp_seq ?_
  refine wp_region_P [0, 1, 3, 7] [.k 15 (.slice RA r.length rc), .k 16 (.int .i64 ((r.length : Int))), .k 17 (.bool (decide ((r.length : Int) ≤ 6))), .k 2 (.bool (decide ((r.length : Int) ≤ 6)))] [(2, 3, 1, 3), (12, 0, 3, 15)] hst5 fun W13 hst13 => ?_
  refine then_normal ?_
  refine wp_ret ?_
  refine bodyPost_ret (v := .bool (decide ((r.length : Int) ≤ 6))) (results_tmp Tryd.results107 rfl) rfl ?_
  exact Ret.bool ((rright_end (by omega) hka).trans (by simp only [decide_eq_decide]; omega)).symm hst13.ext

end Go.Proofs.YtfjpglohcppjeaaDoor

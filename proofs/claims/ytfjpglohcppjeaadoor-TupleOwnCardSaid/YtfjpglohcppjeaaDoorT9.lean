/- value: known, Right, right, whole, Bytes. -/
import Derived.Test.YtfjpglohcppjeaaDoorT7
import Derived.Test.YtfjpglohcppjeaaDoorSby
import Derived.Test.YtfjpglohcppjeaaDoorVn
namespace Go.Proofs.YtfjpglohcppjeaaDoor
open Go.RowKit
set_option linter.unusedVariables false

theorem cellsV_len (v : Val) : (cellsV v).length = 3 := rfl
abbrev v0 : Val := (0, 0, ByteArray.empty)
def knownF (k : Int) : Bool := decide (0 ≤ k) && decide (k ≤ 2)
def vrightF (v : Val) : Bool := knownF v.1 && (v.1 != 2 || decide (v.2.2.size ≤ 40))
def rrightF (r : List Val) : Bool := r.all vrightF && decide (r.length ≤ 6)
theorem vright_parts {v : Val} (h : vrightF v = true) : 0 ≤ v.1 ∧ v.1 ≤ 2 ∧ (v.1 = 2 → v.2.2.size ≤ 40) := by
  simp only [vrightF, knownF, Bool.and_eq_true, Bool.or_eq_true, decide_eq_true_eq, bne_iff_ne, ne_eq] at h
  refine ⟨h.1.1, h.1.2, fun e => ?_⟩
  rcases h.2 with h2 | h2
  · exact absurd e h2
  · exact h2
theorem rright_bad {r : List Val} {k : Nat} (hk : k < r.length) (h : vrightF (r.getD k v0) = false) : rrightF r = false := by
  rw [rrightF, Bool.and_eq_false_iff]
  left
  rw [List.all_eq_false]
  refine ⟨r[k], List.getElem_mem hk, ?_⟩
  rw [List.getD_eq_getElem?_getD, List.getElem?_eq_getElem hk] at h
  simpa using h
theorem rright_step {r : List Val} {k : Nat} (hk : k < r.length) (h : (r.take k).all vrightF = true) (h2 : vrightF (r.getD k v0) = true) : (r.take (k + 1)).all vrightF = true := by
  rw [List.getD_eq_getElem?_getD, List.getElem?_eq_getElem hk] at h2
  rw [List.take_add_one, List.getElem?_eq_getElem hk, List.all_append, h]
  simpa using h2
theorem rright_end {r : List Val} {k : Nat} (hk : r.length ≤ k) (h : (r.take k).all vrightF = true) : rrightF r = decide (r.length ≤ 6) := by
  rw [List.take_of_length_le hk] at h
  rw [rrightF, h, Bool.true_and]
theorem rright_at {r : List Val} (h : rrightF r = true) {k : Nat} (hk : k < r.length) : vrightF (r.getD k v0) = true := by
  rw [rrightF, Bool.and_eq_true, List.all_eq_true] at h
  rw [List.getD_eq_getElem?_getD, List.getElem?_eq_getElem hk]
  exact h.1 _ (List.getElem_mem hk)
theorem rright_len {r : List Val} (h : rrightF r = true) : r.length ≤ 6 := by
  rw [rrightF, Bool.and_eq_true, decide_eq_true_eq] at h
  exact h.2
/-- a value's bytes, a row's bytes -/
def valB (v : Val) : List UInt8 := UInt8.ofNat v.1.toNat :: (if v.1 = 1 then (putS v.2.1 8).data.toList else if v.1 = 2 then UInt8.ofNat ((v.2.2.size : Nat) : Int).toNat :: v.2.2.data.toList else [])
def bytesTo (r : List Val) (k : Nat) : List UInt8 := UInt8.ofNat ((r.length : Nat) : Int).toNat :: (r.take k).flatMap valB
def strL (l : List UInt8) : ByteArray := ⟨l.toArray⟩
def vbytesF (r : List Val) : ByteArray := if rrightF r = true then strL (bytesTo r r.length) else ByteArray.empty
theorem bt_succ {r : List Val} {k : Nat} (hk : k < r.length) : bytesTo r (k + 1) = bytesTo r k ++ valB (r.getD k v0) := by
  rw [List.getD_eq_getElem?_getD, List.getElem?_eq_getElem hk, bytesTo, List.take_add_one, List.getElem?_eq_getElem hk, bytesTo, List.cons_append, List.flatMap_append]
  simp
theorem bt_0 (r : List Val) : bytesTo r 0 = [UInt8.ofNat ((r.length : Nat) : Int).toNat] := rfl
theorem bt_int {r : List Val} {k : Nat} (hk : k < r.length) (h1 : (r.getD k v0).1 = 1) : (bytesTo r k ++ [UInt8.ofNat (r.getD k v0).1.toNat]) ++ (putS (r.getD k v0).2.1 8).data.toList = bytesTo r (k + 1) := by
  rw [bt_succ hk, valB, if_pos h1, List.append_assoc]; rfl
theorem bt_text {r : List Val} {k : Nat} (hk : k < r.length) (h1 : (r.getD k v0).1 ≠ 1) (h2 : (r.getD k v0).1 = 2) : ((bytesTo r k ++ [UInt8.ofNat (r.getD k v0).1.toNat]) ++ [UInt8.ofNat ((((r.getD k v0).2.2.size : Nat) : Int)).toNat]) ++ (r.getD k v0).2.2.data.toList = bytesTo r (k + 1) := by
  rw [bt_succ hk, valB, if_neg h1, if_pos h2, List.append_assoc, List.append_assoc]; rfl
theorem bt_none {r : List Val} {k : Nat} (hk : k < r.length) (h1 : (r.getD k v0).1 ≠ 1) (h2 : (r.getD k v0).1 ≠ 2) : bytesTo r k ++ [UInt8.ofNat (r.getD k v0).1.toNat] = bytesTo r (k + 1) := by
  rw [bt_succ hk, valB, if_neg h1, if_neg h2]
theorem valB_len {v : Val} (h : vrightF v = true) : (valB v).length ≤ 50 := by
  have hp := vright_parts h
  rw [valB, List.length_cons]
  split
  · have := putS_size v.2.1 8 (by omega)
    have h2 : (putS v.2.1 8).data.toList.length = 8 := by rw [Array.length_toList]; exact this
    omega
  · split
    · rename_i h2
      have h3 := hp.2.2 h2
      have h4 : v.2.2.data.toList.length = v.2.2.size := by rw [Array.length_toList]; rfl
      rw [List.length_cons, h4]; omega
    · simp
theorem flat_le {l : List Val} (h : l.all vrightF = true) : (l.flatMap valB).length ≤ l.length * 50 := by
  induction l with
  | nil => simp
  | cons v l ih =>
    rw [List.all_cons, Bool.and_eq_true] at h
    have h1 := ih h.2
    have h2 := valB_len h.1
    rw [List.flatMap_cons, List.length_append, List.length_cons, Nat.add_mul]
    omega
theorem bt_len {r : List Val} (h : rrightF r = true) (k : Nat) : (bytesTo r k).length ≤ 301 := by
  have hl := rright_len h
  rw [rrightF, Bool.and_eq_true] at h
  have h1 : (r.take k).all vrightF = true := by
    rw [List.all_eq_true] at h ⊢
    exact fun x hx => h.1 x (List.mem_of_mem_take hx)
  have h2 := flat_le h1
  have h3 : (r.take k).length ≤ 6 := by rw [List.length_take]; omega
  rw [bytesTo, List.length_cons]
  have h4 : (r.take k).length * 50 ≤ 6 * 50 := Nat.mul_le_mul_right _ h3
  omega
theorem bt_ne (r : List Val) (k : Nat) : bytesTo r k ≠ [] := by rw [bytesTo]; exact List.cons_ne_nil _ _
set_option maxRecDepth 100000 in
set_option maxHeartbeats 4000000 in
theorem vwhole_any (n : Int) (w : World) : Calls Tryd.prog 109 #[.int .u64 (IntKind.u64.wrap n)] w (Ret1 (.string (putS n 8)) w) := by
  have hcv := run_cv_oct n 8 (by omega) 0 rfl w w.heap.size rfl _ 163 rfl
  simp only [oct8, List.map_cons, List.map_nil] at hcv
  go_enter Tryd.func109, Tryd.ntmps109
  go_wp2_with fail
  refine wp_loop_rounds 9 ?_
  rw [rounds_succ]; go_wp2_with fail
  rw [rounds_succ]; go_wp2_with fail
  rw [rounds_succ]; go_wp2_with fail
  rw [rounds_succ]; go_wp2_with fail
  rw [rounds_succ]; go_wp2_with fail
  rw [rounds_succ]; go_wp2_with fail
  rw [rounds_succ]; go_wp2_with fail
  rw [rounds_succ]; go_wp2_with fail
  rw [rounds_succ]; go_wp2_with fail
  go_ret
  exact ⟨rfl, (Ext.refl w).alloc _⟩
set_option maxRecDepth 100000 in
set_option maxHeartbeats 2000000 in
theorem vknown_any (k : Int) (w : World) :
    Calls Tryd.prog 101 #[.int .i64 k] w (Ret (.bool (knownF k)) w) := by
  go_enter Tryd.func101, Tryd.ntmps101
  have hst0 := St.start w
  refine wp_seq ?_
  refine wp_region_X [0] [] [] [] (fun ix σ β X => match ix with | 0 => σ 2 = .bool false | _ => True) [] [2] hst0 ?_ ?_ ?_
  · exact fun ix _ _ _ _ _ _ hs hb hx h => match ix, h with
    | 0, h => (hs _ rfl).symm.trans h
    | _ + 1, _ => trivial
  · refine ⟨trivial, ?_⟩
    · exact s0 rfl fun cx => run_assign' rfl (cx.sees.const _)
  intro σ β X W1 hD hX hst1 fr hfr
  simp only [zM] at hst1
  simp only [zP, ed 2 (hD 0 lq)] at hfr
  clear hX hD; subst hfr; clear σ β X
  refine then_normal ?_
  refine wp_seq ?_
  rcases Bool.eq_false_or_eq_true (decide (0 ≤ k)) with hs3 | hs3
  · skip
    have hs3p : 0 ≤ k := by simpa using hs3
    refine wp_region_X [0, 1, 3, 7, 15, 31, 63] [] [] [] (fun ix σ β X => match ix with | 0 => σ 3 = .int .i64 k | 1 => σ 4 = .bool (decide (0 ≤ k)) | 2 => σ 5 = .bool true | 3 => σ 6 = .int .i64 k | 4 => σ 7 = .bool (decide (k ≤ 2)) | 5 => σ 8 = .bool (decide (k ≤ 2)) | 6 => σ 2 = .bool (decide (k ≤ 2)) | _ => True) [] [3, 4, 5, 6, 7, 8, 2] hst1 ?_ ?_ ?_
    · exact fun ix _ _ _ _ _ _ hs hb hx h => match ix, h with
      | 0, h | 1, h | 2, h | 3, h | 4, h | 5, h | 6, h => (hs _ rfl).symm.trans h
      | _ + 7, _ => trivial
    · refine ⟨⟨⟨⟨⟨⟨⟨trivial, ?_⟩, ?_⟩, ?_⟩, ?_⟩, ?_⟩, ?_⟩, ?_⟩
      · exact mo rfl
      · exact s0 rfl fun cx => run_bin rfl (cx.anc 0 rfl) (cx.sees.const _) rfl
      · exact s0 rfl fun cx => run_move' rfl (Eq.trans (cx.anc 1 rfl) (congrArg Value.bool hs3))
      · exact s1 rfl (fun cx => (cx.anc 2 rfl)) fun cx => run_move' rfl (cx.out 0 rfl)
      · exact s1 rfl (fun cx => (cx.anc 2 rfl)) fun cx => run_bin rfl (cx.anc 3 rfl) (cx.sees.const _) rfl
      · exact s0 rfl fun cx => run_pick_t rfl (cx.anc 2 rfl) (cx.anc 4 rfl)
      · exact s0 rfl fun cx => run_assign' rfl (cx.anc 5 rfl)
    intro σ β X W4 hD hX hst4 fr hfr
    simp only [zM] at hst4
    simp only [zP, ed 3 (hD 0 lq), ed 4 (hD 1 lq), ed 5 (hD 2 lq), ed 6 (hD 3 lq), ed 7 (hD 4 lq), ed 8 (hD 5 lq), ed 2 (hD 6 lq)] at hfr
    clear hX hD; subst hfr; clear σ β X
    refine then_normal ?_
    refine wp_ret ?_
    refine bodyPost_ret (v := .bool (decide (k ≤ 2))) (by simp [results, Tryd.results101, go_sem]) rfl ?_
    exact Ret.bool (by simp_all [knownF] <;> omega) hst4.ext
  have hs3p : ¬ (0 ≤ k) := by simpa using hs3
  refine wp_region_X [0, 1, 3, 7, 15, 31, 63] [] [] [] (fun ix σ β X => match ix with | 0 => σ 3 = .int .i64 k | 1 => σ 4 = .bool (decide (0 ≤ k)) | 2 => σ 5 = .bool false | 3 => σ 6 = undef | 4 => σ 7 = undef | 5 => σ 8 = .bool false | 6 => σ 2 = .bool false | _ => True) [] [3, 4, 5, 6, 7, 8, 2] hst1 ?_ ?_ ?_
  · exact fun ix _ _ _ _ _ _ hs hb hx h => match ix, h with
    | 0, h | 1, h | 2, h | 3, h | 4, h | 5, h | 6, h => (hs _ rfl).symm.trans h
    | _ + 7, _ => trivial
  · refine ⟨⟨⟨⟨⟨⟨⟨trivial, ?_⟩, ?_⟩, ?_⟩, ?_⟩, ?_⟩, ?_⟩, ?_⟩
    · exact mo rfl
    · exact s0 rfl fun cx => run_bin rfl (cx.anc 0 rfl) (cx.sees.const _) rfl
    · exact s0 rfl fun cx => run_move' rfl (Eq.trans (cx.anc 1 rfl) (congrArg Value.bool hs3))
    · exact s2 rfl fun cx => (cx.anc 2 rfl)
    · exact s2 rfl fun cx => (cx.anc 2 rfl)
    · exact s0 rfl fun cx => run_pick_f rfl (cx.anc 2 rfl) (cx.sees.const _)
    · exact s0 rfl fun cx => run_assign' rfl (cx.anc 5 rfl)
  intro σ β X W5 hD hX hst5 fr hfr
  simp only [zM] at hst5
  simp only [zP, ed 3 (hD 0 lq), ed 4 (hD 1 lq), ed 5 (hD 2 lq), ed 6 (hD 3 lq), ed 7 (hD 4 lq), ed 8 (hD 5 lq), ed 2 (hD 6 lq)] at hfr
  clear hX hD; subst hfr; clear σ β X
  refine then_normal ?_
  refine wp_ret ?_
  refine bodyPost_ret (v := .bool false) (by simp [results, Tryd.results101, go_sem]) rfl ?_
  exact Ret.bool (by simp_all [knownF] <;> omega) hst5.ext

set_option maxRecDepth 100000 in
set_option maxHeartbeats 2000000 in
theorem vright_any (v : Val) (w : World) :
    Calls Tryd.prog 104 #[.agg #[.int .i64 v.1, .int .i64 v.2.1, .string v.2.2]] w (Ret (.bool (vrightF v)) w) := by
  go_enter Tryd.func104, Tryd.ntmps104
  have hst0 := St.start w
  refine wp_seq ?_
  refine wp_region_X [0, 0] [] [[0]] [] (fun ix σ β X => match ix with | 0 => σ 1 = .pointer (some ⟨(pb (β 1)), 0, none⟩) ∧ X 0 = eB (pb (β 1)) 103 #[.int .i64 v.1, .int .i64 v.2.1, .string v.2.2] | 1 => σ 2 = .bool false | _ => True) [0] [1, 2] hst0 ?_ ?_ ?_
  · exact fun ix _ _ _ _ _ _ hs hb hx h => match ix, h with
    | 1, h => (hs _ rfl).symm.trans h
    | 0, h => by dsimp only at h ⊢; rw [← hs 1 rfl, ← hb 1 rfl, ← hx 0 rfl]; exact h
    | _ + 2, _ => trivial
  · refine ⟨⟨trivial, ?_⟩, ?_⟩
    · refine sv_any rfl rfl fun ρ β W X cx => ?_
      exact dv_box (cs := #[.int .i64 v.1, .int .i64 v.2.1, .string v.2.2]) rfl (cx.out 0 rfl) rfl rfl rfl (fun σ β' X' hs hb hv hx => ⟨hv, hx⟩)
    · exact s0 rfl fun cx => run_assign' rfl (cx.sees.const _)
  intro σ β X W1 hD hX hst1 fr hfr
  obtain ⟨B1_1, hu_B1_1⟩ : ∃ z, pb (β 1) = z := ⟨_, rfl⟩
  simp only [zM, exq 0 ((hD 0 lq).2), hu_B1_1] at hst1
  simp only [zP, ed 1 ((hD 0 lq).1), ed 2 (hD 1 lq), hu_B1_1] at hfr
  clear hX hD hu_B1_1; subst hfr; clear σ β X
  refine then_normal ?_
  refine wp_seq ?_
  rcases Bool.eq_false_or_eq_true (knownF v.1) with hs3 | hs3
  · skip
    rcases Bool.eq_false_or_eq_true (v.1 != 2) with hs5 | hs5
    · skip
      have hs5p : v.1 ≠ 2 := by simpa using hs5
      refine wp_region_X [0, 1, 3, 7, 15, 31, 63, 127, 255, 511, 1023, 2047, 4095, 8191, 16383] [[], [0], [], [], [], [0]] [] [] (fun ix σ β X => match ix with | 0 => σ 3 = .pointer (some ⟨B1_1, 0, none⟩) | 1 => σ 4 = .int .i64 v.1 | 2 => σ 5 = .bool (knownF v.1) | 3 => σ 6 = .bool true | 4 => σ 7 = .pointer (some ⟨B1_1, 0, none⟩) | 5 => σ 8 = .int .i64 v.1 | 6 => σ 9 = .bool (v.1 != 2) | 7 => σ 10 = .bool true | 8 => σ 11 = undef | 9 => σ 12 = undef | 10 => σ 13 = undef | 11 => σ 14 = undef | 12 => σ 15 = .bool true | 13 => σ 16 = .bool true | 14 => σ 2 = .bool true | _ => True) [0] [3, 4, 5, 6, 7, 8, 9, 10, 11, 12, 13, 14, 15, 16, 2] hst1 ?_ ?_ ?_
      · exact fun ix _ _ _ _ _ _ hs hb hx h => match ix, h with
        | 0, h | 1, h | 2, h | 3, h | 4, h | 5, h | 6, h | 7, h | 8, h | 9, h | 10, h | 11, h | 12, h | 13, h | 14, h => (hs _ rfl).symm.trans h
        | _ + 15, _ => trivial
      · refine ⟨⟨⟨⟨⟨⟨⟨⟨⟨⟨⟨⟨⟨⟨⟨trivial, ?_⟩, ?_⟩, ?_⟩, ?_⟩, ?_⟩, ?_⟩, ?_⟩, ?_⟩, ?_⟩, ?_⟩, ?_⟩, ?_⟩, ?_⟩, ?_⟩, ?_⟩
        · exact s0 rfl fun cx => run_fieldAddr' (k := 0) (n := 0) rfl (by kernel_rfl) (cx.out 1 rfl) rfl
        · exact s0 rfl fun cx => run_load1 rfl (by kernel_rfl) (cx.anc 0 rfl) ((cx.blk (cx.init 0 _ rfl) rfl).cell 0)
        · exact sv_call rfl rfl rfl rfl rfl (fun _ _ _ h => h) fun ρ β W X cx => ⟨_, _, run_callF (args := #[.int .i64 v.1]) rfl cx.sees rfl (by kernel_rfl) (map1 (cx.anc 1 rfl)), vknown_any v.1 _⟩
        · exact s0 rfl fun cx => run_move' rfl (Eq.trans (cx.anc 2 rfl) (congrArg Value.bool hs3))
        · exact s1 rfl (fun cx => (cx.anc 3 rfl)) fun cx => run_fieldAddr' (k := 0) (n := 0) rfl (by kernel_rfl) (cx.out 1 rfl) rfl
        · exact s1 rfl (fun cx => (cx.anc 3 rfl)) fun cx => run_load1 rfl (by kernel_rfl) (cx.anc 4 rfl) ((cx.blk (cx.init 0 _ rfl) rfl).cell 0)
        · exact s1 rfl (fun cx => (cx.anc 3 rfl)) fun cx => run_bin rfl (cx.anc 5 rfl) (cx.sees.const _) rfl
        · exact s1 rfl (fun cx => (cx.anc 3 rfl)) fun cx => run_move' rfl (Eq.trans (cx.anc 6 rfl) (congrArg Value.bool hs5))
        · exact s2 rfl fun cx => (cx.anc 7 rfl)
        · exact s2 rfl fun cx => (cx.anc 7 rfl)
        · exact s2 rfl fun cx => (cx.anc 7 rfl)
        · exact s2 rfl fun cx => (cx.anc 7 rfl)
        · exact s1 rfl (fun cx => (cx.anc 3 rfl)) fun cx => run_pick_t rfl (cx.anc 7 rfl) (cx.sees.const _)
        · exact s0 rfl fun cx => run_pick_t rfl (cx.anc 3 rfl) (cx.anc 12 rfl)
        · exact s0 rfl fun cx => run_assign' rfl (cx.anc 13 rfl)
      intro σ β X W6 hD hX hst6 fr hfr
      simp only [zM, exq 0 (hX 0 _ rfl)] at hst6
      simp only [zP, ed 3 (hD 0 lq), ed 4 (hD 1 lq), ed 5 (hD 2 lq), ed 6 (hD 3 lq), ed 7 (hD 4 lq), ed 8 (hD 5 lq), ed 9 (hD 6 lq), ed 10 (hD 7 lq), ed 11 (hD 8 lq), ed 12 (hD 9 lq), ed 13 (hD 10 lq), ed 14 (hD 11 lq), ed 15 (hD 12 lq), ed 16 (hD 13 lq), ed 2 (hD 14 lq)] at hfr
      clear hX hD; subst hfr; clear σ β X
      refine then_normal ?_
      refine wp_ret ?_
      refine bodyPost_ret (v := .bool true) (by simp [results, Tryd.results104, go_sem]) rfl ?_
      exact Ret.bool (by simp_all [vrightF] <;> omega) hst6.ext
    have hs5p : v.1 = 2 := by simpa using hs5
    refine wp_region_X [0, 1, 3, 7, 15, 31, 63, 127, 255, 511, 1023, 2047, 4095, 8191, 16383] [[], [0], [], [], [], [0], [], [], [], [0]] [] [] (fun ix σ β X => match ix with | 0 => σ 3 = .pointer (some ⟨B1_1, 0, none⟩) | 1 => σ 4 = .int .i64 v.1 | 2 => σ 5 = .bool (knownF v.1) | 3 => σ 6 = .bool true | 4 => σ 7 = .pointer (some ⟨B1_1, 0, none⟩) | 5 => σ 8 = .int .i64 v.1 | 6 => σ 9 = .bool (v.1 != 2) | 7 => σ 10 = .bool false | 8 => σ 11 = .pointer (some ⟨B1_1, 2, none⟩) | 9 => σ 12 = .string v.2.2 | 10 => σ 13 = .int .i64 ((v.2.2.size : Int)) | 11 => σ 14 = .bool (decide ((v.2.2.size : Int) ≤ 40)) | 12 => σ 15 = .bool (decide ((v.2.2.size : Int) ≤ 40)) | 13 => σ 16 = .bool (decide ((v.2.2.size : Int) ≤ 40)) | 14 => σ 2 = .bool (decide ((v.2.2.size : Int) ≤ 40)) | _ => True) [0] [3, 4, 5, 6, 7, 8, 9, 10, 11, 12, 13, 14, 15, 16, 2] hst1 ?_ ?_ ?_
    · exact fun ix _ _ _ _ _ _ hs hb hx h => match ix, h with
      | 0, h | 1, h | 2, h | 3, h | 4, h | 5, h | 6, h | 7, h | 8, h | 9, h | 10, h | 11, h | 12, h | 13, h | 14, h => (hs _ rfl).symm.trans h
      | _ + 15, _ => trivial
    · refine ⟨⟨⟨⟨⟨⟨⟨⟨⟨⟨⟨⟨⟨⟨⟨trivial, ?_⟩, ?_⟩, ?_⟩, ?_⟩, ?_⟩, ?_⟩, ?_⟩, ?_⟩, ?_⟩, ?_⟩, ?_⟩, ?_⟩, ?_⟩, ?_⟩, ?_⟩
      · exact s0 rfl fun cx => run_fieldAddr' (k := 0) (n := 0) rfl (by kernel_rfl) (cx.out 1 rfl) rfl
      · exact s0 rfl fun cx => run_load1 rfl (by kernel_rfl) (cx.anc 0 rfl) ((cx.blk (cx.init 0 _ rfl) rfl).cell 0)
      · exact sv_call rfl rfl rfl rfl rfl (fun _ _ _ h => h) fun ρ β W X cx => ⟨_, _, run_callF (args := #[.int .i64 v.1]) rfl cx.sees rfl (by kernel_rfl) (map1 (cx.anc 1 rfl)), vknown_any v.1 _⟩
      · exact s0 rfl fun cx => run_move' rfl (Eq.trans (cx.anc 2 rfl) (congrArg Value.bool hs3))
      · exact s1 rfl (fun cx => (cx.anc 3 rfl)) fun cx => run_fieldAddr' (k := 0) (n := 0) rfl (by kernel_rfl) (cx.out 1 rfl) rfl
      · exact s1 rfl (fun cx => (cx.anc 3 rfl)) fun cx => run_load1 rfl (by kernel_rfl) (cx.anc 4 rfl) ((cx.blk (cx.init 0 _ rfl) rfl).cell 0)
      · exact s1 rfl (fun cx => (cx.anc 3 rfl)) fun cx => run_bin rfl (cx.anc 5 rfl) (cx.sees.const _) rfl
      · exact s1 rfl (fun cx => (cx.anc 3 rfl)) fun cx => run_move' rfl (Eq.trans (cx.anc 6 rfl) (congrArg Value.bool hs5))
      · exact s1 rfl (fun cx => (cx.anc 7 rfl)) fun cx => run_fieldAddr' (k := 2) (n := 2) rfl (by kernel_rfl) (cx.out 1 rfl) rfl
      · exact s1 rfl (fun cx => (cx.anc 7 rfl)) fun cx => run_load1 rfl (by kernel_rfl) (cx.anc 8 rfl) ((cx.blk (cx.init 0 _ rfl) rfl).cell 2)
      · exact s1 rfl (fun cx => (cx.anc 7 rfl)) fun cx => run_len_s rfl (by kernel_rfl) (cx.anc 9 rfl)
      · exact s1 rfl (fun cx => (cx.anc 7 rfl)) fun cx => run_bin rfl (cx.anc 10 rfl) (cx.sees.const _) rfl
      · exact s1 rfl (fun cx => (cx.anc 3 rfl)) fun cx => run_pick_f rfl (cx.anc 7 rfl) (cx.anc 11 rfl)
      · exact s0 rfl fun cx => run_pick_t rfl (cx.anc 3 rfl) (cx.anc 12 rfl)
      · exact s0 rfl fun cx => run_assign' rfl (cx.anc 13 rfl)
    intro σ β X W7 hD hX hst7 fr hfr
    simp only [zM, exq 0 (hX 0 _ rfl)] at hst7
    simp only [zP, ed 3 (hD 0 lq), ed 4 (hD 1 lq), ed 5 (hD 2 lq), ed 6 (hD 3 lq), ed 7 (hD 4 lq), ed 8 (hD 5 lq), ed 9 (hD 6 lq), ed 10 (hD 7 lq), ed 11 (hD 8 lq), ed 12 (hD 9 lq), ed 13 (hD 10 lq), ed 14 (hD 11 lq), ed 15 (hD 12 lq), ed 16 (hD 13 lq), ed 2 (hD 14 lq)] at hfr
    clear hX hD; subst hfr; clear σ β X
    refine then_normal ?_
    refine wp_ret ?_
    refine bodyPost_ret (v := .bool (decide ((v.2.2.size : Int) ≤ 40))) (by simp [results, Tryd.results104, go_sem]) rfl ?_
    exact Ret.bool (by simp_all [vrightF] <;> omega) hst7.ext
  refine wp_region_X [0, 1, 3, 7, 15, 31, 63, 127, 255, 511, 1023, 2047, 4095, 8191, 16383] [[], [0]] [] [] (fun ix σ β X => match ix with | 0 => σ 3 = .pointer (some ⟨B1_1, 0, none⟩) | 1 => σ 4 = .int .i64 v.1 | 2 => σ 5 = .bool (knownF v.1) | 3 => σ 6 = .bool false | 4 => σ 7 = undef | 5 => σ 8 = undef | 6 => σ 9 = undef | 7 => σ 10 = undef | 8 => σ 11 = undef | 9 => σ 12 = undef | 10 => σ 13 = undef | 11 => σ 14 = undef | 12 => σ 15 = undef | 13 => σ 16 = .bool false | 14 => σ 2 = .bool false | _ => True) [0] [3, 4, 5, 6, 7, 8, 9, 10, 11, 12, 13, 14, 15, 16, 2] hst1 ?_ ?_ ?_
  · exact fun ix _ _ _ _ _ _ hs hb hx h => match ix, h with
    | 0, h | 1, h | 2, h | 3, h | 4, h | 5, h | 6, h | 7, h | 8, h | 9, h | 10, h | 11, h | 12, h | 13, h | 14, h => (hs _ rfl).symm.trans h
    | _ + 15, _ => trivial
  · refine ⟨⟨⟨⟨⟨⟨⟨⟨⟨⟨⟨⟨⟨⟨⟨trivial, ?_⟩, ?_⟩, ?_⟩, ?_⟩, ?_⟩, ?_⟩, ?_⟩, ?_⟩, ?_⟩, ?_⟩, ?_⟩, ?_⟩, ?_⟩, ?_⟩, ?_⟩
    · exact s0 rfl fun cx => run_fieldAddr' (k := 0) (n := 0) rfl (by kernel_rfl) (cx.out 1 rfl) rfl
    · exact s0 rfl fun cx => run_load1 rfl (by kernel_rfl) (cx.anc 0 rfl) ((cx.blk (cx.init 0 _ rfl) rfl).cell 0)
    · exact sv_call rfl rfl rfl rfl rfl (fun _ _ _ h => h) fun ρ β W X cx => ⟨_, _, run_callF (args := #[.int .i64 v.1]) rfl cx.sees rfl (by kernel_rfl) (map1 (cx.anc 1 rfl)), vknown_any v.1 _⟩
    · exact s0 rfl fun cx => run_move' rfl (Eq.trans (cx.anc 2 rfl) (congrArg Value.bool hs3))
    · exact s2 rfl fun cx => (cx.anc 3 rfl)
    · exact s2 rfl fun cx => (cx.anc 3 rfl)
    · exact s2 rfl fun cx => (cx.anc 3 rfl)
    · exact s2 rfl fun cx => (cx.anc 3 rfl)
    · exact s3 rfl fun cx => cx.anc 7 rfl
    · exact s3 rfl fun cx => cx.anc 7 rfl
    · exact s3 rfl fun cx => cx.anc 7 rfl
    · exact s3 rfl fun cx => cx.anc 7 rfl
    · exact s2 rfl fun cx => (cx.anc 3 rfl)
    · exact s0 rfl fun cx => run_pick_f rfl (cx.anc 3 rfl) (cx.sees.const _)
    · exact s0 rfl fun cx => run_assign' rfl (cx.anc 13 rfl)
  intro σ β X W8 hD hX hst8 fr hfr
  simp only [zM, exq 0 (hX 0 _ rfl)] at hst8
  simp only [zP, ed 3 (hD 0 lq), ed 4 (hD 1 lq), ed 5 (hD 2 lq), ed 6 (hD 3 lq), ed 7 (hD 4 lq), ed 8 (hD 5 lq), ed 9 (hD 6 lq), ed 10 (hD 7 lq), ed 11 (hD 8 lq), ed 12 (hD 9 lq), ed 13 (hD 10 lq), ed 14 (hD 11 lq), ed 15 (hD 12 lq), ed 16 (hD 13 lq), ed 2 (hD 14 lq)] at hfr
  clear hX hD; subst hfr; clear σ β X
  refine then_normal ?_
  refine wp_ret ?_
  refine bodyPost_ret (v := .bool false) (by simp [results, Tryd.results104, go_sem]) rfl ?_
  exact Ret.bool (by simp_all [vrightF] <;> omega) hst8.ext

set_option maxRecDepth 100000 in
set_option maxHeartbeats 2000000 in
theorem vrow_any (RA : Option Addr) (rc : Nat) (r : List Val) (w : World) (hA : At w RA (flatR r)) (hlr : r.length ≤ 9223372036854775807) :
    Calls Tryd.prog 107 #[.slice RA r.length rc] w (Ret (.bool (rrightF r)) w) := by
  go_enter Tryd.func107, Tryd.ntmps107
  have hst0 := St.start w
  refine wp_seq ?_
  refine wp_region_X [0] [] [] [] (fun ix σ β X => match ix with | 0 => σ 2 = .bool false | _ => True) [] [2] hst0 ?_ ?_ ?_
  · exact fun ix _ _ _ _ _ _ hs hb hx h => match ix, h with
    | 0, h => (hs _ rfl).symm.trans h
    | _ + 1, _ => trivial
  · refine ⟨trivial, ?_⟩
    · exact s0 rfl fun cx => run_assign' rfl (cx.sees.const _)
  intro σ β X W1 hD hX hst1 fr hfr
  simp only [zM] at hst1
  simp only [zP, ed 2 (hD 0 lq)] at hfr
  clear hX hD; subst hfr; clear σ β X
  refine then_normal ?_
  refine wp_seq ?_
  refine wp_seq ?_
  refine wp_region_X [0, 1, 0] [] [] [] (fun ix σ β X => match ix with | 0 => σ 5 = .slice RA r.length rc | 1 => σ 6 = .int .i64 ((r.length : Int)) | 2 => σ 7 = .int .i64 0 | _ => True) [] [5, 6, 7] hst1 ?_ ?_ ?_
  · exact fun ix _ _ _ _ _ _ hs hb hx h => match ix, h with
    | 0, h | 1, h | 2, h => (hs _ rfl).symm.trans h
    | _ + 3, _ => trivial
  · refine ⟨⟨⟨trivial, ?_⟩, ?_⟩, ?_⟩
    · exact mo rfl
    · exact s0 rfl fun cx => run_len_l (e := 103) rfl (by kernel_rfl) (cx.anc 0 rfl)
    · exact s0 rfl fun cx => run_move' rfl (cx.sees.const _)
  intro σ β X W2 hD hX hst2 fr hfr
  simp only [zM] at hst2
  simp only [zP, ed 5 (hD 0 lq), ed 6 (hD 1 lq), ed 7 (hD 2 lq)] at hfr
  clear hX hD; subst hfr; clear σ β X
  refine then_normal ?_
  refine wp_block ?_
  refine wp_loopN (fun mz az W => ∃ k : Nat, ∃ u3_ : List Value, k ≤ r.length ∧ (r.take k).all vrightF = true ∧ mz = r.length - k ∧ az = ⟨#[.slice RA r.length rc, undef, (u3_.getD 0 undef), undef, (u3_.getD 1 undef), .slice RA r.length rc, .int .i64 ((r.length : Int)), .int .i64 ((k : Int)), (u3_.getD 2 undef), (u3_.getD 3 undef), (u3_.getD 4 undef), (u3_.getD 5 undef), (u3_.getD 6 undef), (u3_.getD 7 undef), (u3_.getD 8 undef), undef, undef, undef], []⟩ ∧ St w [] [] W) (r.length - 0) ?_ ?_
  · -- the loop begins
    have hp4 := hst2.pick [] (by decide) rfl
    exact ⟨0, [.bool false, undef, undef, undef, undef, undef, undef, undef, undef], by omega, rfl, rfl, rfl, hp4⟩
  rintro n3 a3 W3 ⟨k, u3_, hkl, hka, rfl, rfl, hst3⟩
  refine wp_seq ?_
  refine wp_region_X [0] [] [] [] (fun ix σ β X => match ix with | 0 => σ 8 = .bool (decide ((k : Int) < (r.length : Int))) | _ => True) [] [8] hst3 ?_ ?_ ?_
  · exact fun ix _ _ _ _ _ _ hs hb hx h => match ix, h with
    | 0, h => (hs _ rfl).symm.trans h
    | _ + 1, _ => trivial
  · refine ⟨trivial, ?_⟩
    · exact s0 rfl fun cx => run_bin rfl (cx.out 7 rfl) (cx.out 6 rfl) rfl
  intro σ β X W5 hD hX hst5 fr hfr
  simp only [zM] at hst5
  simp only [zP, ed 8 (hD 0 lq)] at hfr
  clear hX hD; subst hfr; clear σ β X
  refine then_normal ?_
  refine wp_seq ?_
  rcases Bool.eq_false_or_eq_true (decide ((k : Int) < (r.length : Int))) with hs6 | hs6
  · skip
    have hs6p : (k : Int) < (r.length : Int) := by simpa using hs6
    refine wp_cond_true (show Act.eval _ _ = .bool true from (congrArg Value.bool hs6)) ?_
    refine wp_skip ?_
    refine then_normal ?_
    refine wp_seq ?_
    refine wp_block ?_
    refine wp_seq ?_
    refine wp_region_X [0, 1, 0, 7] [[], [], [], [0]] [[], [], [0], [1]] [[], [], [], [0]] (fun ix σ β X => match ix with | 0 => σ 9 = .pointer (some ((ad RA).add (k * 3))) | 1 => σ 10 = .agg #[.int .i64 ((r.getD k v0).1), .int .i64 ((r.getD k v0).2.1), .string ((r.getD k v0).2.2)] | 2 => σ 4 = .pointer (some ⟨(pb (β 4)), 0, none⟩) ∧ X 0 = eB (pb (β 4)) 103 #[.int .i64 0, .int .i64 0, .string ByteArray.empty] | 3 => X 1 = eB (pb (β 4)) 103 #[.int .i64 ((r.getD k v0).1), .int .i64 ((r.getD k v0).2.1), .string ((r.getD k v0).2.2)] | _ => True) [1] [9, 10, 4] hst5 ?_ ?_ ?_
    · exact fun ix _ _ _ _ _ _ hs hb hx h => match ix, h with
      | 0, h | 1, h => (hs _ rfl).symm.trans h
      | 2, h => by dsimp only at h ⊢; rw [← hs 4 rfl, ← hb 4 rfl, ← hx 0 rfl]; exact h
      | 3, h => by dsimp only at h ⊢; rw [← hb 4 rfl, ← hx 1 rfl]; exact h
      | _ + 4, _ => trivial
    · refine ⟨⟨⟨⟨trivial, ?_⟩, ?_⟩, ?_⟩, ?_⟩
      · exact s4 rfl (fun _ _ _ h => h) fun cx => run_indexSlM (e := 103) (m := k) (sz := 3) rfl (by kernel_rfl) (by kernel_rfl) (cx.out 5 rfl) (cx.out 7 rfl) (by omega) (by omega) (hA.ext cx.upd.to_ext) (by have h_ := flatLen (f := cellsV) (sz := 3) cellsV_len r; show 0 < (List.flatMap cellsV r).length; omega)
      · exact s4 rfl (fun _ _ _ h => h) fun cx => run_loadElt (f := cellsV) (m := k) (sz := 3) (off := 0) (n := 3) rfl (by kernel_rfl) (by kernel_rfl) (cx.anc 0 rfl) rfl cellsV_len (hA.ext cx.upd.to_ext) (getD_some (ts := r) (m := k) v0 (by omega)) (fun k hk => match k, hk with | 0, _ => rfl | 1, _ => rfl | 2, _ => rfl | k + 3, hk => absurd hk (by omega))
      · refine sv_any rfl rfl fun ρ β W X cx => ?_
        exact dv_alloc (cs := #[.int .i64 0, .int .i64 0, .string ByteArray.empty]) rfl (by kernel_rfl) rfl rfl (fun σ β' X' hs hb hv hx => ⟨hv, hx⟩)
      · refine sv_any rfl rfl fun ρ β W X cx => ?_
        exact dv_store (n := 3) rfl (cx.anc 2 rfl).1 (cx.anc 1 rfl) (by kernel_rfl) rfl rfl cx (cx.anc 2 rfl).2 rfl (Nat.le_of_ble_eq_true rfl) rfl rfl rfl rfl (fun σ β' X' hs hb hx => by rw [hb 4]; exact hx)
    intro σ β X W7 hD hX hst7 fr hfr
    obtain ⟨B4_7, hu_B4_7⟩ : ∃ z, pb (β 4) = z := ⟨_, rfl⟩
    simp only [zM, exq 1 ((hD 3 lq)), hu_B4_7] at hst7
    simp only [zP, ed 9 (hD 0 lq), ed 10 (hD 1 lq), ed 4 ((hD 2 lq).1), hu_B4_7] at hfr
    clear hX hD hu_B4_7; subst hfr; clear σ β X
    refine then_normal ?_
    refine wp_seq ?_
    refine wp_region_X [0, 1, 3] [[0]] [] [] (fun ix σ β X => match ix with | 0 => σ 11 = .agg #[.int .i64 ((r.getD k v0).1), .int .i64 ((r.getD k v0).2.1), .string ((r.getD k v0).2.2)] | 1 => σ 12 = .bool (vrightF (r.getD k v0)) | 2 => σ 13 = .bool (!(vrightF (r.getD k v0))) | _ => True) [0] [11, 12, 13] hst7 ?_ ?_ ?_
    · exact fun ix _ _ _ _ _ _ hs hb hx h => match ix, h with
      | 0, h | 1, h | 2, h => (hs _ rfl).symm.trans h
      | _ + 3, _ => trivial
    · refine ⟨⟨⟨trivial, ?_⟩, ?_⟩, ?_⟩
      · exact s0 rfl fun cx => run_loadB (n := 3) rfl (by kernel_rfl) (by kernel_rfl) (cx.out 4 rfl) (cx.blk (cx.init 0 _ rfl) rfl) (Nat.le_of_ble_eq_true rfl) rfl
      · exact sv_call rfl rfl rfl rfl rfl (fun _ _ _ h => h) fun ρ β W X cx => ⟨_, _, run_callF (args := #[.agg #[.int .i64 ((r.getD k v0).1), .int .i64 ((r.getD k v0).2.1), .string ((r.getD k v0).2.2)]]) rfl cx.sees rfl (by kernel_rfl) (map1 (cx.anc 0 rfl)), vright_any (r.getD k v0) _⟩
      · exact s0 rfl fun cx => run_not rfl (cx.anc 1 rfl) rfl
    intro σ β X W8 hD hX hst8 fr hfr
    simp only [zM, exq 0 (hX 0 _ rfl)] at hst8
    simp only [zP, ed 11 (hD 0 lq), ed 12 (hD 1 lq), ed 13 (hD 2 lq)] at hfr
    clear hX hD; subst hfr; clear σ β X
    refine then_normal ?_
    rcases Bool.eq_false_or_eq_true (vrightF (r.getD k v0)) with hs9 | hs9
    · skip
      refine wp_cond_false (show Act.eval _ _ = .bool false from (congrArg Value.bool (by rw [hs9]; rfl))) ?_
      refine wp_skip ?_
      refine blk_normal ?_
      refine then_normal ?_
      refine wp_region_X [0, 1] [] [] [] (fun ix σ β X => match ix with | 0 => σ 14 = .int .i64 ((k : Int) + 1) | 1 => σ 7 = .int .i64 ((k : Int) + 1) | _ => True) [0] [14, 7] hst8 ?_ ?_ ?_
      · exact fun ix _ _ _ _ _ _ hs hb hx h => match ix, h with
        | 0, h | 1, h => (hs _ rfl).symm.trans h
        | _ + 2, _ => trivial
      · refine ⟨⟨trivial, ?_⟩, ?_⟩
        · exact s4 rfl (fun _ _ _ h => h) fun cx => run_bin rfl (cx.out 7 rfl) (cx.sees.const _) (congrArg (fun z => some (Value.int .i64 z)) ((IntWalk.i64_in _ (by omega)).trans (by omega)))
        · exact s0 rfl fun cx => run_move' rfl (cx.anc 0 rfl)
      intro σ β X W10 hD hX hst10 fr hfr
      simp only [zM, exq 0 (hX 0 _ rfl)] at hst10
      simp only [zP, ed 14 (hD 0 lq), ed 7 (hD 1 lq)] at hfr
      clear hX hD; subst hfr; clear σ β X
      refine then_normal ?_
      refine ⟨r.length - ((k + 1)), by omega, ?_⟩
      have hp11 := hst10.pick [] (by decide) rfl
      exact ⟨(k + 1), [(u3_.getD 0 undef), .pointer (some ⟨B4_7, 0, none⟩), .bool (decide ((k : Int) < (r.length : Int))), .pointer (some ((ad RA).add (k * 3))), .agg #[.int .i64 ((r.getD k v0).1), .int .i64 ((r.getD k v0).2.1), .string ((r.getD k v0).2.2)], .agg #[.int .i64 ((r.getD k v0).1), .int .i64 ((r.getD k v0).2.1), .string ((r.getD k v0).2.2)], .bool (vrightF (r.getD k v0)), .bool (!(vrightF (r.getD k v0))), .int .i64 ((k : Int) + 1)], by omega, rright_step (by omega) hka hs9, rfl, rfl, hp11⟩
    refine wp_cond_true (show Act.eval _ _ = .bool true from (congrArg Value.bool (by rw [hs9]; rfl))) ?_
    refine wp_seq ?_
    refine wp_region_X [0] [] [] [] (fun ix σ β X => match ix with | 0 => σ 2 = .bool false | _ => True) [0] [2] hst8 ?_ ?_ ?_
    · exact fun ix _ _ _ _ _ _ hs hb hx h => match ix, h with
      | 0, h => (hs _ rfl).symm.trans h
      | _ + 1, _ => trivial
    · refine ⟨trivial, ?_⟩
      · exact s0 rfl fun cx => run_assign' rfl (cx.sees.const _)
    intro σ β X W12 hD hX hst12 fr hfr
    simp only [zM, exq 0 (hX 0 _ rfl)] at hst12
    simp only [zP, ed 2 (hD 0 lq)] at hfr
    clear hX hD; subst hfr; clear σ β X
    refine then_normal ?_
    refine wp_ret ?_
    refine blk_ret ?_
    refine then_ret ?_
    refine then_ret ?_
    refine blk_ret ?_
    refine then_ret ?_
    refine bodyPost_ret (v := .bool false) (by simp [results, Tryd.results107, go_sem]) rfl ?_
    exact Ret.bool (rright_bad (by omega) hs9).symm hst12.ext
  have hs6p : ¬ ((k : Int) < (r.length : Int)) := by simpa using hs6
  refine wp_cond_false (show Act.eval _ _ = .bool false from (congrArg Value.bool hs6)) ?_
  refine wp_exit ?_
  refine then_exit ?_
  refine then_exit ?_
  refine blk_eq ?_
  refine then_normal ?_
  refine wp_seq ?_
  refine wp_region_X [0, 1, 3, 7] [] [] [] (fun ix σ β X => match ix with | 0 => σ 15 = .slice RA r.length rc | 1 => σ 16 = .int .i64 ((r.length : Int)) | 2 => σ 17 = .bool (decide ((r.length : Int) ≤ 6)) | 3 => σ 2 = .bool (decide ((r.length : Int) ≤ 6)) | _ => True) [] [15, 16, 17, 2] hst5 ?_ ?_ ?_
  · exact fun ix _ _ _ _ _ _ hs hb hx h => match ix, h with
    | 0, h | 1, h | 2, h | 3, h => (hs _ rfl).symm.trans h
    | _ + 4, _ => trivial
  · refine ⟨⟨⟨⟨trivial, ?_⟩, ?_⟩, ?_⟩, ?_⟩
    · exact mo rfl
    · exact s0 rfl fun cx => run_len_l (e := 103) rfl (by kernel_rfl) (cx.anc 0 rfl)
    · exact s0 rfl fun cx => run_bin rfl (cx.anc 1 rfl) (cx.sees.const _) rfl
    · exact s0 rfl fun cx => run_assign' rfl (cx.anc 2 rfl)
  intro σ β X W13 hD hX hst13 fr hfr
  simp only [zM] at hst13
  simp only [zP, ed 15 (hD 0 lq), ed 16 (hD 1 lq), ed 17 (hD 2 lq), ed 2 (hD 3 lq)] at hfr
  clear hX hD; subst hfr; clear σ β X
  refine then_normal ?_
  refine wp_ret ?_
  refine bodyPost_ret (v := .bool (decide ((r.length : Int) ≤ 6))) (by simp [results, Tryd.results107, go_sem]) rfl ?_
  exact Ret.bool ((rright_end (by omega) hka).trans (by simp only [decide_eq_decide]; omega)).symm hst13.ext

end Go.Proofs.YtfjpglohcppjeaaDoor

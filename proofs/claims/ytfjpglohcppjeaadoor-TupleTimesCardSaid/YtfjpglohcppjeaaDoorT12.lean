/- tuple.Read. -/
import Derived.Test.YtfjpglohcppjeaaDoorT11b
namespace Go.Proofs.YtfjpglohcppjeaaDoor
open Go.RowKit
set_option linter.unusedVariables false
set_option linter.unusedSimpArgs false

/-- what value.Read hands back -/
def RdRow (rs : List Val) (w : World) (e : Ending) (w' : World) : Prop := ∃ A c, e = .returned (.tuple #[.slice A rs.length c, .int .i64 0]) ∧ w'.ownsRow w.heap.size 103 3 (.slice A rs.length c) rs.length (flatR rs) ∧ Ext w w'
theorem vread_nil' (w : World) : Calls Tryd.prog 54 #[.string (strL [0])] w (RdRow [] w) :=
  (vread_nil w).mono fun e w' ⟨he, hx⟩ => ⟨none, 0, he, ⟨by simp [flatR], .inl ⟨rfl, rfl⟩⟩, hx⟩
def VerRd (a b n1 n2 : Int) (ho : Bool) (rs : List Val) (er : Int) (w : World) (e : Ending) (w' : World) : Prop := ∃ A c, e = .returned (.tuple #[.agg #[.int .i64 a, .int .i64 b, .int .i64 n1, .int .i64 n2, .bool ho, .slice A rs.length c], .int .i64 er]) ∧
  w'.ownsRow w.heap.size 103 3 (.slice A rs.length c) rs.length (flatR rs) ∧ Ext w w'
theorem numS_lt2 (s : ByteArray) (p : Nat) : numS s p 2 < 65536 := by
  have h := numL_lt (s.extract p (p + 2)).data.toList
  have hl : (s.extract p (p + 2)).data.toList.length ≤ 2 := by
    rw [Array.length_toList]
    show (s.extract p (p + 2)).size ≤ 2
    rw [ByteArray.size_extract]; omega
  have h2 : 256 ^ (s.extract p (p + 2)).data.toList.length ≤ 256 ^ 2 := Nat.pow_le_pow_right (by decide) hl
  exact Nat.lt_of_lt_of_le h h2
set_option maxRecDepth 100000 in
theorem oread_b (s : ByteArray) (w : World) : Calls Tryd.prog 50 #[.string s] w fun e w' => ∃ B, e = .returned (.pointer (some ⟨B, 0, none⟩)) ∧ (Blk w' B 154 #[.string s, .int .i64 0, .bool false] ∧ w.heap.size ≤ B) ∧ Ext w w' := by
  go_enter Tryd.func50, Tryd.ntmps50
  have hst0 := St.start w
  refine wp_seq ?_
  refine wp_region_P [0] [.k 2 (.pointer none)] [(2, 0, 1, 3)] hst0 fun W1 hst1 => ?_
  refine then_normal ?_
  refine wp_seq ?_
  refine wp_region_T [0, 1, 3, 7] [] [[], [], [0]] [] [.k 3 (.string s), .k 4 (.agg #[.string s, .int .i64 0, .bool false]), .a 5, .a 2] (fun ix σ β X => match ix with | 0 => True | 1 => True | 2 => σ 5 = .pointer (some ⟨(pb (β 5)), 0, none⟩) ∧ X 0 = eB (pb (β 5)) 154 #[.string s, .int .i64 0, .bool false] | 3 => σ 2 = .pointer (some ⟨(pb (β 5)), 0, none⟩) | _ => True) [0] [2, 3] [(2, 3, 1, 3), (0, 0, 3, 3)] hst1 ?_ ?_ ?_
  · exact fun ix _ _ _ _ _ _ hs hb hx h => match ix, h with
    | 2, h => by dsimp only at h ⊢; rw [← hs 5 rfl, ← hb 5 rfl, ← hx 0 rfl]; exact h
    | 3, h => by dsimp only at h ⊢; rw [← hs 2 rfl, ← hb 5 rfl]; exact h
    | 0, _ | 1, _ | _ + 4, _ => trivial
  · refine ⟨?_, ?_, trivial⟩
    · refine sv_any rfl rfl fun ρ β W X cx => ?_
      exact dv_box (cs := #[.string s, .int .i64 0, .bool false]) rfl (cx.anc 1 rfl) rfl rfl rfl (fun σ β' X' hs hb hv hx => ⟨hv, hx⟩)
    · exact sv rfl rfl rfl rfl rfl _ (fun _ _ _ h => h) (fun β β' h => by rw [h 5 (by decide)]) fun ρ β W X cx => run_assign' rfl (dTn (cx.anc 2 rfl)).1
  intro σ β X W2 hD hX hst2 fr hfr
  obtain ⟨B5_2, hu_B5_2⟩ : ∃ z, pb (β 5) = z := ⟨_, rfl⟩
  simp only [zM, exq 0 ((dTn (hD 2 lq)).2), hu_B5_2] at hst2
  dsimp only [mgT, vals, List.take, List.drop, List.cons_append, List.nil_append] at hfr
  simp only [ed 5 ((dTn (hD 2 lq)).1), ed 2 ((dTn (hD 3 lq))), hu_B5_2] at hfr
  clear hX hD hu_B5_2; subst hfr; clear σ β X
  refine then_normal ?_
  refine wp_ret ?_
  refine bodyPost_ret (v := .pointer (some ⟨B5_2, 0, none⟩)) (results_tmp Tryd.results50 rfl) rfl ?_
  exact ⟨_, rfl, ⟨hst2.blk 0 rfl, ((hst2.get 0 rfl).own _ (by simp [eB])).1.resolve_left (by simp)⟩, hst2.ext⟩

set_option maxRecDepth 100000 in
set_option maxHeartbeats 2000000 in
theorem tread_good (s : ByteArray) (rs : List Val) (w : World) (hs : s.size ≤ 1000000) (h8 : 8 ≤ s.size) (ht : 8 + numS s 6 2 ≤ s.size) (hlr : rs.length ≤ 1000) (hN : NoneAt w) (HV : ∀ w, Calls Tryd.prog 54 #[.string (textS s 6)] w (RdRow rs w)) (hB : tbytesF (numS s 0 1) (numS s 1 1) ((numS s 2 2 : Int) - 1) (numS s 4 1) ((numS s 5 1 : Int) == 1) rs = s) :
    Calls Tryd.prog 15 #[.string s] w (VerRd (numS s 0 1) (numS s 1 1) ((numS s 2 2 : Int) - 1) (numS s 4 1) ((numS s 5 1 : Int) == 1) rs 0 w) := by
  have hq2 := numS_lt2 s 2
  go_enter Tryd.func15, Tryd.ntmps15
  have hst0 := St.start w
  refine wp_seq ?_
  refine wp_region_T [0, 0] [] [[0]] [] [.a 2, .k 3 (.int .i64 0)] (fun ix σ β X => match ix with | 0 => σ 2 = .pointer (some ⟨(pb (β 2)), 0, none⟩) ∧ X 0 = eB (pb (β 2)) 27 #[.int .i64 0, .int .i64 0, .int .i64 0, .int .i64 0, .bool false, .slice none 0 0] | _ => True) [0] [0] [(2, 0, 2, 4)] hst0 ?_ ?_ ?_
  · exact fun ix _ _ _ _ _ _ hs hb hx h => match ix, h with
    | 0, h => by dsimp only at h ⊢; rw [← hs 2 rfl, ← hb 2 rfl, ← hx 0 rfl]; exact h
    | _ + 1, _ => trivial
  · refine ⟨?_, trivial⟩
    · refine sv_any rfl rfl fun ρ β W X cx => ?_
      exact dv_alloc (cs := #[.int .i64 0, .int .i64 0, .int .i64 0, .int .i64 0, .bool false, .slice none 0 0]) rfl (by kernel_rfl) rfl rfl (fun σ β' X' hs hb hv hx => ⟨hv, hx⟩)
  intro σ β X W1 hD hX hst1 fr hfr
  obtain ⟨B2_1, hu_B2_1⟩ : ∃ z, pb (β 2) = z := ⟨_, rfl⟩
  simp only [zM, exq 0 ((dTn (hD 0 lq)).2), hu_B2_1] at hst1
  dsimp only [mgT, vals, List.take, List.drop, List.cons_append, List.nil_append] at hfr
  simp only [ed 2 ((dTn (hD 0 lq)).1), hu_B2_1] at hfr
  clear hX hD hu_B2_1; subst hfr; clear σ β X
  refine then_normal ?_
  refine wp_seq ?_
  refine wp_region_T [0, 1, 3] [] [[], [1]] [] [.k 9 (.string s), .a 10, .a 4] (fun ix σ β X => match ix with | 0 => True | 1 => σ 10 = .pointer (some ⟨(pb (β 10)), 0, none⟩) ∧ X 1 = eB (pb (β 10)) 154 #[.string s, .int .i64 0, .bool false] | 2 => σ 4 = .pointer (some ⟨(pb (β 10)), 0, none⟩) | _ => True) [0, 1] [1, 2] [(4, 2, 1, 5), (4, 0, 2, 6)] hst1 ?_ ?_ ?_
  · exact fun ix _ _ _ _ _ _ hs hb hx h => match ix, h with
    | 1, h => by dsimp only at h ⊢; rw [← hs 10 rfl, ← hb 10 rfl, ← hx 1 rfl]; exact h
    | 2, h => by dsimp only at h ⊢; rw [← hs 4 rfl, ← hb 10 rfl]; exact h
    | 0, _ | _ + 3, _ => trivial
  · refine ⟨?_, ?_, trivial⟩
    · refine sv_any rfl rfl fun ρ β W X cx => ?_
      refine DoesU.call (run_callF (args := #[.string s]) rfl cx.sees rfl (by kernel_rfl) (map1 (cx.anc 0 rfl))) ?_
      refine (oread_b s _).mono ?_
      rintro e W1 ⟨B4, rfl, ⟨hb4, hw4⟩, hx⟩
      refine ⟨_, rfl, post_call [eB B4 154 #[.string s, .int .i64 0, .bool false]] rfl rfl hx (one_new ⟨hb4, eB_loc _ _ _, fun k hk => by simp [eB] at hk; subst hk; exact ⟨hw4, hb4.lt⟩⟩) (List.pairwise_singleton _ _) (fun σ β' X' hs hb hv hN => ?_)⟩
      have hv1 := (hv 10 rfl).1; have hv2 := (hv 10 rfl).2
      exact ⟨hv1.trans (by rw [hv2]; rfl), (by rw [hv2]; exact (List.cons.inj hN).1)⟩
    · exact sv rfl rfl rfl rfl rfl _ (fun _ _ _ h => h) (fun β β' h => by rw [h 10 (by decide)]) fun ρ β W X cx => run_assign' rfl (dTn (cx.anc 1 rfl)).1
  intro σ β X W2 hD hX hst2 fr hfr
  obtain ⟨B10_2, hu_B10_2⟩ : ∃ z, pb (β 10) = z := ⟨_, rfl⟩
  simp only [zM, exq 0 (hX 0 _ rfl), exq 1 ((dTn (hD 1 lq)).2), hu_B10_2] at hst2
  dsimp only [mgT, vals, List.take, List.drop, List.cons_append, List.nil_append] at hfr
  simp only [ed 10 ((dTn (hD 1 lq)).1), ed 4 ((dTn (hD 2 lq))), hu_B10_2] at hfr
  clear hX hD hu_B10_2; subst hfr; clear σ β X
  refine then_normal ?_
  refine wp_seq ?_
  refine wp_region_T [0, 1, 0, 7, 15, 0, 63] [[], [1], [], [2], [], [], [4]] [[], [2], [], [3], [], [4], [5]] [[], [1], [], [2], [], [], [4]] [.k 11 (.pointer (some ⟨B10_2, 0, none⟩)), .a 12, .k 13 (.pointer (some ⟨B10_2, 0, none⟩)), .a 14, .c 15 (.agg #[.int .i64 ((numS s 0 1 : Int)), .int .i64 ((numS s 1 1 : Int)), .int .i64 0, .int .i64 0, .bool false, .slice none 0 0]), .a 5, .n] (fun ix σ β X => match ix with | 0 => True | 1 => σ 12 = .int .i64 ((numS s 0 1 : Int)) ∧ X 2 = eB B10_2 154 #[.string s, .int .i64 1, .bool false] | 2 => True | 3 => σ 14 = .int .i64 ((numS s 1 1 : Int)) ∧ X 3 = eB B10_2 154 #[.string s, .int .i64 2, .bool false] | 4 => True | 5 => σ 5 = .pointer (some ⟨(pb (β 5)), 0, none⟩) ∧ X 4 = eB (pb (β 5)) 27 #[.int .i64 0, .int .i64 0, .int .i64 0, .int .i64 0, .bool false, .slice none 0 0] | 6 => X 5 = eB (pb (β 5)) 27 #[.int .i64 ((numS s 0 1 : Int)), .int .i64 ((numS s 1 1 : Int)), .int .i64 0, .int .i64 0, .bool false, .slice none 0 0] | _ => True) [0, 3, 5] [1, 3, 4, 5, 6] [(5, 5, 1, 6), (5, 0, 5, 10)] hst2 ?_ ?_ ?_
  · exact fun ix _ _ _ _ _ _ hs hb hx h => match ix, h with
    | 1, h => by dsimp only at h ⊢; rw [← hs 12 rfl, ← hx 2 rfl]; exact h
    | 3, h => by dsimp only at h ⊢; rw [← hs 14 rfl, ← hx 3 rfl]; exact h
    | 5, h => by dsimp only at h ⊢; rw [← hs 5 rfl, ← hb 5 rfl, ← hx 4 rfl]; exact h
    | 6, h => by dsimp only at h ⊢; rw [← hb 5 rfl, ← hx 5 rfl]; exact h
    | 0, _ | 2, _ | 4, _ | _ + 7, _ => trivial
  · refine ⟨?_, ?_, ?_, ?_, ?_, trivial⟩
    · refine sv_any rfl rfl fun ρ β W X cx => ?_
      refine DoesU.call (run_callF (args := #[.pointer (some ⟨B10_2, 0, none⟩), .int .i64 1]) rfl cx.sees rfl (by kernel_rfl) (map2 (cx.anc 0 rfl) (cx.sees.const _))) ?_
      refine (num_ok _ s 0 1 _ ⟨(cx.blk (cx.init 1 _ rfl) rfl), by omega, by omega⟩ (by omega) (by omega)).mono ?_
      rintro e W1 ⟨rfl, hrd, hu⟩
      refine ⟨_, rfl, post_mut (cx.init 1 _ rfl) rfl rfl hu hrd.1 (fun σ β' X' hs hb hv hx => ?_)⟩
      exact ⟨(hv 12 rfl).1.trans rfl, hx⟩
    · refine sv_any rfl rfl fun ρ β W X cx => ?_
      refine DoesU.call (run_callF (args := #[.pointer (some ⟨B10_2, 0, none⟩), .int .i64 1]) rfl cx.sees rfl (by kernel_rfl) (map2 (cx.anc 2 rfl) (cx.sees.const _))) ?_
      refine (num_ok _ s 1 1 _ ⟨(cx.blk (dTn (cx.anc 1 rfl)).2 rfl), by omega, by omega⟩ (by omega) (by omega)).mono ?_
      rintro e W1 ⟨rfl, hrd, hu⟩
      refine ⟨_, rfl, post_mut (dTn (cx.anc 1 rfl)).2 rfl rfl hu hrd.1 (fun σ β' X' hs hb hv hx => ?_)⟩
      exact ⟨(hv 14 rfl).1.trans rfl, hx⟩
    · exact s4 rfl (fun _ _ _ h => h) fun cx => run_buildL rfl (pmc (dTn (cx.anc 1 rfl)).1 (pmc (dTn (cx.anc 3 rfl)).1 pmn)) (by kernel_rfl)
    · refine sv_any rfl rfl fun ρ β W X cx => ?_
      exact dv_alloc (cs := #[.int .i64 0, .int .i64 0, .int .i64 0, .int .i64 0, .bool false, .slice none 0 0]) rfl (by kernel_rfl) rfl rfl (fun σ β' X' hs hb hv hx => ⟨hv, hx⟩)
    · refine sv_any rfl rfl fun ρ β W X cx => ?_
      exact dv_store (n := 6) rfl (dTn (cx.anc 5 rfl)).1 (cx.anc 4 rfl) (by kernel_rfl) (by kernel_rfl) (by kernel_rfl) cx (dTn (cx.anc 5 rfl)).2 rfl (Nat.le_of_ble_eq_true rfl) (by kernel_rfl) rfl rfl rfl (fun σ β' X' hs hb hx => by rw [hb 5]; exact hx)
  intro σ β X W3 hD hX hst3 fr hfr
  obtain ⟨B5_3, hu_B5_3⟩ : ∃ z, pb (β 5) = z := ⟨_, rfl⟩
  simp only [zM, exq 0 (hX 0 _ rfl), exq 3 ((dTn (hD 3 lq)).2), exq 5 ((dTn (hD 6 lq))), hu_B5_3] at hst3
  dsimp only [mgT, vals, List.take, List.drop, List.cons_append, List.nil_append] at hfr
  simp only [ed 12 ((dTn (hD 1 lq)).1), ed 14 ((dTn (hD 3 lq)).1), ed 5 ((dTn (hD 5 lq)).1), hu_B5_3] at hfr
  clear hX hD hu_B5_3; subst hfr; clear σ β X
  refine then_normal ?_
  refine wp_seq ?_
  refine wp_region_T [0, 1, 3, 0, 11, 31, 63, 127] [[], [1], [], [], [3], [], [], [2]] [[], [3], [], [], [4], [], [], [5]] [[], [1], [], [], [3], [], [], [2]] [.k 16 (.pointer (some ⟨B10_2, 0, none⟩)), .a 17, .c 18 (.int .i64 ((numS s 2 2 : Int) - 1)), .k 19 (.pointer (some ⟨B10_2, 0, none⟩)), .a 20, .c 21 (.agg #[.int .i64 ((numS s 2 2 : Int) - 1), .int .i64 ((numS s 4 1 : Int))]), .k 22 (.pointer (some ⟨B5_3, 2, none⟩)), .n] (fun ix σ β X => match ix with | 0 => True | 1 => σ 17 = .int .i64 ((numS s 2 2 : Int)) ∧ X 3 = eB B10_2 154 #[.string s, .int .i64 4, .bool false] | 2 => True | 3 => True | 4 => σ 20 = .int .i64 ((numS s 4 1 : Int)) ∧ X 4 = eB B10_2 154 #[.string s, .int .i64 5, .bool false] | 5 => True | 6 => True | 7 => X 5 = eB B5_3 27 #[.int .i64 ((numS s 0 1 : Int)), .int .i64 ((numS s 1 1 : Int)), .int .i64 ((numS s 2 2 : Int) - 1), .int .i64 ((numS s 4 1 : Int)), .bool false, .slice none 0 0] | _ => True) [0, 4, 5] [1, 2, 4, 5, 7] [(16, 0, 7, 23)] hst3 ?_ ?_ ?_
  · exact fun ix _ _ _ _ _ _ hs hb hx h => match ix, h with
    | 1, h => by dsimp only at h ⊢; rw [← hs 17 rfl, ← hx 3 rfl]; exact h
    | 4, h => by dsimp only at h ⊢; rw [← hs 20 rfl, ← hx 4 rfl]; exact h
    | 7, h => by dsimp only at h ⊢; rw [← hx 5 rfl]; exact h
    | 0, _ | 2, _ | 3, _ | 5, _ | 6, _ | _ + 8, _ => trivial
  · refine ⟨?_, ?_, ?_, ?_, ?_, trivial⟩
    · refine sv_any rfl rfl fun ρ β W X cx => ?_
      refine DoesU.call (run_callF (args := #[.pointer (some ⟨B10_2, 0, none⟩), .int .i64 2]) rfl cx.sees rfl (by kernel_rfl) (map2 (cx.anc 0 rfl) (cx.sees.const _))) ?_
      refine (num_ok _ s 2 2 _ ⟨(cx.blk (cx.init 1 _ rfl) rfl), by omega, by omega⟩ (by omega) (by omega)).mono ?_
      rintro e W1 ⟨rfl, hrd, hu⟩
      refine ⟨_, rfl, post_mut (cx.init 1 _ rfl) rfl rfl hu hrd.1 (fun σ β' X' hs hb hv hx => ?_)⟩
      exact ⟨(hv 17 rfl).1.trans rfl, hx⟩
    · exact s4 rfl (fun _ _ _ h => h) fun cx => run_bin rfl (dTn (cx.anc 1 rfl)).1 (cx.sees.const _) (congrArg (fun z => some (Value.int .i64 z)) ((IntWalk.i64_in _ (by omega)).trans (by omega)))
    · refine sv_any rfl rfl fun ρ β W X cx => ?_
      refine DoesU.call (run_callF (args := #[.pointer (some ⟨B10_2, 0, none⟩), .int .i64 1]) rfl cx.sees rfl (by kernel_rfl) (map2 (cx.anc 3 rfl) (cx.sees.const _))) ?_
      refine (num_ok _ s 4 1 _ ⟨(cx.blk (dTn (cx.anc 1 rfl)).2 rfl), by omega, by omega⟩ (by omega) (by omega)).mono ?_
      rintro e W1 ⟨rfl, hrd, hu⟩
      refine ⟨_, rfl, post_mut (dTn (cx.anc 1 rfl)).2 rfl rfl hu hrd.1 (fun σ β' X' hs hb hv hx => ?_)⟩
      exact ⟨(hv 20 rfl).1.trans rfl, hx⟩
    · exact s4 rfl (fun _ _ _ h => h) fun cx => run_buildL rfl (pmc (cx.anc 2 rfl) (pmc (dTn (cx.anc 4 rfl)).1 pmn)) (by kernel_rfl)
    · refine sv_any rfl rfl fun ρ β W X cx => ?_
      exact dv_store (n := 2) rfl (cx.anc 6 rfl) (cx.anc 5 rfl) (by kernel_rfl) (by kernel_rfl) (by kernel_rfl) cx (cx.init 2 _ rfl) rfl (Nat.le_of_ble_eq_true rfl) (by kernel_rfl) rfl rfl rfl (fun σ β' X' hs hb hx => hx)
  intro σ β X W4 hD hX hst4 fr hfr
  simp only [zM, exq 0 (hX 0 _ rfl), exq 4 ((dTn (hD 4 lq)).2), exq 5 ((dTn (hD 7 lq)))] at hst4
  dsimp only [mgT, vals, List.take, List.drop, List.cons_append, List.nil_append] at hfr
  simp only [ed 17 ((dTn (hD 1 lq)).1), ed 20 ((dTn (hD 4 lq)).1)] at hfr
  clear hX hD; subst hfr; clear σ β X
  refine then_normal ?_
  refine wp_seq ?_
  refine wp_region_T [0, 1, 3, 7, 15] [[], [1], [], [], [2]] [[], [3], [], [], [4]] [[], [1], [], [], [2]] [.k 23 (.pointer (some ⟨B10_2, 0, none⟩)), .a 24, .c 25 (.bool ((numS s 5 1 : Int) == 1)), .k 26 (.pointer (some ⟨B5_3, 4, none⟩)), .n] (fun ix σ β X => match ix with | 0 => True | 1 => σ 24 = .int .i64 ((numS s 5 1 : Int)) ∧ X 3 = eB B10_2 154 #[.string s, .int .i64 6, .bool false] | 2 => True | 3 => True | 4 => X 4 = eB B5_3 27 #[.int .i64 ((numS s 0 1 : Int)), .int .i64 ((numS s 1 1 : Int)), .int .i64 ((numS s 2 2 : Int) - 1), .int .i64 ((numS s 4 1 : Int)), .bool ((numS s 5 1 : Int) == 1), .slice none 0 0] | _ => True) [0, 3, 4] [1, 2, 4] [(23, 0, 4, 27)] hst4 ?_ ?_ ?_
  · exact fun ix _ _ _ _ _ _ hs hb hx h => match ix, h with
    | 1, h => by dsimp only at h ⊢; rw [← hs 24 rfl, ← hx 3 rfl]; exact h
    | 4, h => by dsimp only at h ⊢; rw [← hx 4 rfl]; exact h
    | 0, _ | 2, _ | 3, _ | _ + 5, _ => trivial
  · refine ⟨?_, ?_, ?_, trivial⟩
    · refine sv_any rfl rfl fun ρ β W X cx => ?_
      refine DoesU.call (run_callF (args := #[.pointer (some ⟨B10_2, 0, none⟩), .int .i64 1]) rfl cx.sees rfl (by kernel_rfl) (map2 (cx.anc 0 rfl) (cx.sees.const _))) ?_
      refine (num_ok _ s 5 1 _ ⟨(cx.blk (cx.init 1 _ rfl) rfl), by omega, by omega⟩ (by omega) (by omega)).mono ?_
      rintro e W1 ⟨rfl, hrd, hu⟩
      refine ⟨_, rfl, post_mut (cx.init 1 _ rfl) rfl rfl hu hrd.1 (fun σ β' X' hs hb hv hx => ?_)⟩
      exact ⟨(hv 24 rfl).1.trans rfl, hx⟩
    · exact s4 rfl (fun _ _ _ h => h) fun cx => run_bin rfl (dTn (cx.anc 1 rfl)).1 (cx.sees.const _) rfl
    · refine sv_any rfl rfl fun ρ β W X cx => ?_
      exact dv_store (n := 1) rfl (cx.anc 3 rfl) (cx.anc 2 rfl) (by kernel_rfl) (by kernel_rfl) (by kernel_rfl) cx (cx.init 2 _ rfl) rfl (Nat.le_of_ble_eq_true rfl) (by kernel_rfl) rfl rfl rfl (fun σ β' X' hs hb hx => hx)
  intro σ β X W5 hD hX hst5 fr hfr
  simp only [zM, exq 0 (hX 0 _ rfl), exq 3 ((dTn (hD 1 lq)).2), exq 4 ((dTn (hD 4 lq)))] at hst5
  dsimp only [mgT, vals, List.take, List.drop, List.cons_append, List.nil_append] at hfr
  simp only [ed 24 ((dTn (hD 1 lq)).1)] at hfr
  clear hX hD; subst hfr; clear σ β X
  refine then_normal ?_
  refine wp_seq ?_
  refine wp_region_T [0, 1, 3] [[], [1]] [[], [3]] [[], [1]] [.k 27 (.pointer (some ⟨B10_2, 0, none⟩)), .a 28, .c 6 (.string (textS s 6))] (fun ix σ β X => match ix with | 0 => True | 1 => σ 28 = .string (textS s 6) ∧ X 3 = eB B10_2 154 #[.string s, .int .i64 (((6 + 2 + numS s 6 2 : Nat) : Int)), .bool false] | _ => True) [0, 2, 3] [1, 2] [(6, 2, 1, 7), (20, 0, 2, 22)] hst5 ?_ ?_ ?_
  · exact fun ix _ _ _ _ _ _ hs hb hx h => match ix, h with
    | 1, h => by dsimp only at h ⊢; rw [← hs 28 rfl, ← hx 3 rfl]; exact h
    | 0, _ | _ + 2, _ => trivial
  · refine ⟨?_, ?_, trivial⟩
    · refine sv_any rfl rfl fun ρ β W X cx => ?_
      refine DoesU.call (run_callF (args := #[.pointer (some ⟨B10_2, 0, none⟩)]) rfl cx.sees rfl (by kernel_rfl) (map1 (cx.anc 0 rfl))) ?_
      refine (text_ok _ s 6 _ ⟨(cx.blk (cx.init 1 _ rfl) rfl), by omega, by omega⟩ (by omega) (by omega)).mono ?_
      rintro e W1 ⟨rfl, hrd, hu⟩
      refine ⟨_, rfl, post_mut (cx.init 1 _ rfl) rfl rfl hu hrd.1 (fun σ β' X' hs hb hv hx => ?_)⟩
      exact ⟨(hv 28 rfl).1.trans rfl, hx⟩
    · exact s4 rfl (fun _ _ _ h => h) fun cx => run_assign' rfl (dTn (cx.anc 1 rfl)).1
  intro σ β X W6 hD hX hst6 fr hfr
  simp only [zM, exq 0 (hX 0 _ rfl), exq 2 (hX 2 _ rfl), exq 3 ((dTn (hD 1 lq)).2)] at hst6
  dsimp only [mgT, vals, List.take, List.drop, List.cons_append, List.nil_append] at hfr
  simp only [ed 28 ((dTn (hD 1 lq)).1)] at hfr
  clear hX hD; subst hfr; clear σ β X
  refine then_normal ?_
  refine wp_seq ?_
  refine wp_seq ?_
  refine wp_region_T [0, 1] [[], [2]] [] [] [.k 29 (.pointer (some ⟨B10_2, 0, none⟩)), .a 30] (fun ix σ β X => match ix with | 0 => True | 1 => σ 30 = .bool false | _ => True) [0, 1, 2] [1] [(29, 0, 2, 31)] hst6 ?_ ?_ ?_
  · exact fun ix _ _ _ _ _ _ hs hb hx h => match ix, h with
    | 1, h => (hs _ rfl).symm.trans h
    | 0, _ | _ + 2, _ => trivial
  · refine ⟨?_, trivial⟩
    · refine sv_any rfl rfl fun ρ β W X cx => ?_
      refine DoesU.call (run_callF (args := #[.pointer (some ⟨B10_2, 0, none⟩)]) rfl cx.sees rfl (by kernel_rfl) (map1 (cx.anc 0 rfl))) ?_
      refine (failed_any _ s (((6 + 2 + numS s 6 2 : Nat))) false _ ⟨(cx.blk (cx.init 2 _ rfl) rfl), by omega, by omega⟩).mono ?_
      rintro e W1 ⟨rfl, rfl⟩
      refine ⟨_, rfl, post_call [] rfl rfl (Ext.refl _) (by simp) List.Pairwise.nil (fun σ β' X' hs hb hv hN => ?_)⟩
      have hv1 := (hv 30 rfl).1; have hv2 := (hv 30 rfl).2
      exact hv1.trans rfl
  intro σ β X W7 hD hX hst7 fr hfr
  simp only [zM, exq 0 (hX 0 _ rfl), exq 1 (hX 1 _ rfl), exq 2 (hX 2 _ rfl)] at hst7
  dsimp only [mgT, vals, List.take, List.drop, List.cons_append, List.nil_append] at hfr
  simp only [ed 30 ((dTn (hD 1 lq)))] at hfr
  clear hX hD; subst hfr; clear σ β X
  refine then_normal ?_
  refine wp_cond_false (show Act.eval _ _ = .bool false from rfl) ?_
  refine wp_skip ?_
  refine then_normal ?_
  refine wp_seq ?_
  refine wp_region_T [0, 1, 3, 7, 7, 15, 63] [] [[], [3]] [] [.k 33 (.string (textS s 6)), .a 34, .a 32, .a 35, .c 36 (.int .i64 0), .a 7, .k 8 (.int .i64 0)] (fun ix σ β X => match ix with | 0 => True | 1 => σ 34 = .tuple #[.slice (sA (tg (β 34) 0)) rs.length (sC (tg (β 34) 0)), .int .i64 0] ∧ X 3 = eO 103 3 (.slice (sA (tg (β 34) 0)) rs.length (sC (tg (β 34) 0))) rs.length (flatR rs) | 2 => σ 32 = .tuple #[.slice (sA (tg (β 34) 0)) rs.length (sC (tg (β 34) 0)), .int .i64 0] | 3 => σ 35 = .slice (sA (tg (β 34) 0)) rs.length (sC (tg (β 34) 0)) | 4 => True | 5 => σ 7 = .slice (sA (tg (β 34) 0)) rs.length (sC (tg (β 34) 0)) | _ => True) [0, 1, 2, 3] [1, 2, 3, 4, 5] [(7, 5, 2, 9), (23, 2, 1, 24), (0, 0, 2, 2), (0, 3, 2, 2)] hst7 ?_ ?_ ?_
  · exact fun ix _ _ _ _ _ _ hs hb hx h => match ix, h with
    | 1, h => by dsimp only at h ⊢; rw [← hs 34 rfl, ← hb 34 rfl, ← hx 3 rfl]; exact h
    | 2, h => by dsimp only at h ⊢; rw [← hs 32 rfl, ← hb 34 rfl]; exact h
    | 3, h => by dsimp only at h ⊢; rw [← hs 35 rfl, ← hb 34 rfl]; exact h
    | 5, h => by dsimp only at h ⊢; rw [← hs 7 rfl, ← hb 34 rfl]; exact h
    | 0, _ | 4, _ | _ + 6, _ => trivial
  · refine ⟨?_, ?_, ?_, ?_, ?_, trivial⟩
    · refine sv_any rfl rfl fun ρ β W X cx => ?_
      refine DoesU.call (run_callF (args := #[.string (textS s 6)]) rfl cx.sees rfl (by kernel_rfl) (map1 (cx.anc 0 rfl))) ?_
      refine (HV _).mono ?_
      rintro e W1 ⟨A4, c4, rfl, ho, hx⟩
      refine ⟨_, rfl, post_call [eO 103 3 (.slice A4 rs.length c4) rs.length (flatR rs)] rfl rfl hx (one_new (eO_new ho)) (List.pairwise_singleton _ _) (fun σ β' X' hs hb hv hN => ?_)⟩
      have hv1 := (hv 34 rfl).1; have hv2 := (hv 34 rfl).2
      exact ⟨hv1.trans (by rw [hv2]; rfl), (by rw [hv2]; exact (List.cons.inj hN).1)⟩
    · exact sv rfl rfl rfl rfl rfl _ (fun _ _ _ h => h) (fun β β' h => by rw [h 34 (by decide)]) fun ρ β W X cx => run_move' rfl (dTn (cx.anc 1 rfl)).1
    · exact sv rfl rfl rfl rfl rfl _ (fun _ _ _ h => h) (fun β β' h => by rw [h 34 (by decide)]) fun ρ β W X cx => run_extract' rfl (dTn (cx.anc 2 rfl)) rfl
    · exact s4 rfl (fun _ _ _ h => h) fun cx => run_extract' rfl (dTn (cx.anc 2 rfl)) rfl
    · exact sv rfl rfl rfl rfl rfl _ (fun _ _ _ h => h) (fun β β' h => by rw [h 34 (by decide)]) fun ρ β W X cx => run_assign' rfl (dTn (cx.anc 3 rfl))
  intro σ β X W8 hD hX hst8 fr hfr
  obtain ⟨A34_8, hu_A34_8⟩ : ∃ z, sA (tg (β 34) 0) = z := ⟨_, rfl⟩
  obtain ⟨c34_8, hu_c34_8⟩ : ∃ z, sC (tg (β 34) 0) = z := ⟨_, rfl⟩
  simp only [zM, exq 0 (hX 0 _ rfl), exq 1 (hX 1 _ rfl), exq 2 (hX 2 _ rfl), exq 3 ((dTn (hD 1 lq)).2), hu_A34_8, hu_c34_8] at hst8
  dsimp only [mgT, vals, List.take, List.drop, List.cons_append, List.nil_append] at hfr
  simp only [ed 34 ((dTn (hD 1 lq)).1), ed 32 ((dTn (hD 2 lq))), ed 35 ((dTn (hD 3 lq))), ed 7 ((dTn (hD 5 lq))), hu_A34_8, hu_c34_8] at hfr
  clear hX hD hu_A34_8 hu_c34_8; subst hfr; clear σ β X
  refine then_normal ?_
  refine wp_seq ?_
  refine wp_region_T [0, 1, 3] [[], [], [1]] [[], [], [4]] [[], [], [1]] [.k 37 (.slice A34_8 rs.length c34_8), .k 38 (.pointer (some ⟨B5_3, 5, none⟩)), .n] (fun ix σ β X => match ix with | 0 => True | 1 => True | 2 => X 4 = eB B5_3 27 #[.int .i64 ((numS s 0 1 : Int)), .int .i64 ((numS s 1 1 : Int)), .int .i64 ((numS s 2 2 : Int) - 1), .int .i64 ((numS s 4 1 : Int)), .bool ((numS s 5 1 : Int) == 1), .slice A34_8 rs.length c34_8] | _ => True) [0, 2, 3, 4] [2] [(37, 0, 2, 39)] hst8 ?_ ?_ ?_
  · exact fun ix _ _ _ _ _ _ hs hb hx h => match ix, h with
    | 2, h => by dsimp only at h ⊢; rw [← hx 4 rfl]; exact h
    | 0, _ | 1, _ | _ + 3, _ => trivial
  · refine ⟨?_, trivial⟩
    · refine sv_any rfl rfl fun ρ β W X cx => ?_
      exact dv_store (n := 1) rfl (cx.anc 1 rfl) (cx.anc 0 rfl) (by kernel_rfl) (by kernel_rfl) (by kernel_rfl) cx (cx.init 1 _ rfl) rfl (Nat.le_of_ble_eq_true rfl) (by kernel_rfl) rfl rfl rfl (fun σ β' X' hs hb hx => hx)
  intro σ β X W9 hD hX hst9 fr hfr
  simp only [zM, exq 0 (hX 0 _ rfl), exq 2 (hX 2 _ rfl), exq 3 (hX 3 _ rfl), exq 4 ((dTn (hD 2 lq)))] at hst9
  dsimp only [mgT, vals, List.take, List.drop, List.cons_append, List.nil_append] at hfr
  clear hX hD; subst hfr; clear σ β X
  refine then_normal ?_
  refine wp_seq ?_
  refine wp_seq ?_
  have hd11 : (!((tbytesF (numS s 0 1 : Int) (numS s 1 1 : Int) ((numS s 2 2 : Int) - 1) (numS s 4 1 : Int) ((numS s 5 1 : Int) == 1) rs).toList == s.toList)) = false := by rw [hB]; simp
  refine wp_region_T [0, 1, 3, 7, 15, 7, 63, 127] [[], [], [], [3], [2]] [] [] [.k 39 (.int .i64 0), .k 40 (.bool false), .k 41 (.bool false), .c 42 (.agg #[.int .i64 ((numS s 0 1 : Int)), .int .i64 ((numS s 1 1 : Int)), .int .i64 ((numS s 2 2 : Int) - 1), .int .i64 ((numS s 4 1 : Int)), .bool ((numS s 5 1 : Int) == 1), .slice A34_8 rs.length c34_8]), .c 43 (.string (tbytesF (numS s 0 1 : Int) (numS s 1 1 : Int) ((numS s 2 2 : Int) - 1) (numS s 4 1 : Int) ((numS s 5 1 : Int) == 1) rs)), .k 44 (.string s), .e 45 (.bool (!((tbytesF (numS s 0 1 : Int) (numS s 1 1 : Int) ((numS s 2 2 : Int) - 1) (numS s 4 1 : Int) ((numS s 5 1 : Int) == 1) rs).toList == s.toList))) (.bool false) (congrArg Value.bool hd11), .k 46 (.bool false)] (fun _ _ _ _ => True) [0, 1, 2, 3] [3, 4] [(39, 0, 8, 47)] hst9 ?_ ?_ ?_
  · exact fun _ _ _ _ _ _ _ _ _ _ h => h
  · refine ⟨?_, ?_, trivial⟩
    · exact s5 rfl (fun _ _ _ h => h) (fun cx => (cx.anc 2 rfl)) fun cx => run_loadB (n := 6) rfl (by kernel_rfl) (by kernel_rfl) (cx.out 5 rfl) (cx.blk (cx.init 3 _ rfl) rfl) (Nat.le_of_ble_eq_true rfl) rfl
    · exact sv_call_on rfl rfl rfl rfl rfl rfl (fun _ _ _ h => h) (fun _ _ _ _ cx => (cx.anc 2 rfl)) fun ρ β W X cx => ⟨_, _, run_callF (args := #[.agg #[.int .i64 ((numS s 0 1 : Int)), .int .i64 ((numS s 1 1 : Int)), .int .i64 ((numS s 2 2 : Int) - 1), .int .i64 ((numS s 4 1 : Int)), .bool ((numS s 5 1 : Int) == 1), .slice A34_8 rs.length c34_8]]) rfl cx.sees rfl (by kernel_rfl) (map1 (cx.anc 3 rfl)), tbytes_any (numS s 0 1 : Int) (numS s 1 1 : Int) ((numS s 2 2 : Int) - 1) (numS s 4 1 : Int) ((numS s 5 1 : Int) == 1) _ _ rs _ (At.of_ownN (cx.row (cx.init 2 _ rfl) rfl)) (by omega) (hN.ext cx.upd.to_ext)⟩
  intro σ β X W10 hD hX hst10 fr hfr
  simp only [zM, exq 0 (hX 0 _ rfl), exq 1 (hX 1 _ rfl), exq 2 (hX 2 _ rfl), exq 3 (hX 3 _ rfl)] at hst10
  dsimp only [mgT, vals, List.take, List.drop, List.cons_append, List.nil_append] at hfr
  clear hX hD; subst hfr; clear σ β X
  refine then_normal ?_
  refine wp_cond_false (show Act.eval _ _ = .bool false from rfl) ?_
  refine wp_skip ?_
  refine then_normal ?_
  refine wp_seq ?_
  refine wp_region_T [0, 1, 3] [[3], [0]] [[], [4]] [[], [0]] [.c 48 (.agg #[.int .i64 ((numS s 0 1 : Int)), .int .i64 ((numS s 1 1 : Int)), .int .i64 ((numS s 2 2 : Int) - 1), .int .i64 ((numS s 4 1 : Int)), .bool ((numS s 5 1 : Int) == 1), .slice A34_8 rs.length c34_8]), .n, .k 3 (.int .i64 0)] (fun ix σ β X => match ix with | 0 => True | 1 => X 4 = eB B2_1 27 #[.int .i64 ((numS s 0 1 : Int)), .int .i64 ((numS s 1 1 : Int)), .int .i64 ((numS s 2 2 : Int) - 1), .int .i64 ((numS s 4 1 : Int)), .bool ((numS s 5 1 : Int) == 1), .slice A34_8 rs.length c34_8] | _ => True) [1, 2, 3, 4] [0, 1] [(3, 2, 1, 4), (44, 0, 1, 45)] hst10 ?_ ?_ ?_
  · exact fun ix _ _ _ _ _ _ hs hb hx h => match ix, h with
    | 1, h => by dsimp only at h ⊢; rw [← hx 4 rfl]; exact h
    | 0, _ | _ + 2, _ => trivial
  · refine ⟨?_, ?_, trivial⟩
    · exact s4 rfl (fun _ _ _ h => h) fun cx => run_loadB (n := 6) rfl (by kernel_rfl) (by kernel_rfl) (cx.out 5 rfl) (cx.blk (cx.init 3 _ rfl) rfl) (Nat.le_of_ble_eq_true rfl) rfl
    · refine sv_any rfl rfl fun ρ β W X cx => ?_
      exact dv_store (n := 6) rfl (cx.out 2 rfl) (cx.anc 0 rfl) (by kernel_rfl) (by kernel_rfl) (by kernel_rfl) cx (cx.init 0 _ rfl) rfl (Nat.le_of_ble_eq_true rfl) (by kernel_rfl) rfl rfl rfl (fun σ β' X' hs hb hx => hx)
  intro σ β X W12 hD hX hst12 fr hfr
  simp only [zM, exq 1 (hX 1 _ rfl), exq 2 (hX 2 _ rfl), exq 3 (hX 3 _ rfl), exq 4 ((dTn (hD 1 lq)))] at hst12
  dsimp only [mgT, vals, List.take, List.drop, List.cons_append, List.nil_append] at hfr
  clear hX hD; subst hfr; clear σ β X
  refine then_normal ?_
  refine wp_ret ?_
  have hr13 : W12.cell? ⟨B2_1, 0, none⟩ = some (.int .i64 ((numS s 0 1 : Int))) := (hst12.blk 3 rfl).cell 0
  have hr14 : W12.cell? ⟨B2_1, 1, none⟩ = some (.int .i64 ((numS s 1 1 : Int))) := (hst12.blk 3 rfl).cell 1
  have hr15 : W12.cell? ⟨B2_1, 2, none⟩ = some (.int .i64 ((numS s 2 2 : Int) - 1)) := (hst12.blk 3 rfl).cell 2
  have hr16 : W12.cell? ⟨B2_1, 3, none⟩ = some (.int .i64 ((numS s 4 1 : Int))) := (hst12.blk 3 rfl).cell 3
  have hr17 : W12.cell? ⟨B2_1, 4, none⟩ = some (.bool ((numS s 5 1 : Int) == 1)) := (hst12.blk 3 rfl).cell 4
  have hr18 : W12.cell? ⟨B2_1, 5, none⟩ = some (.slice A34_8 rs.length c34_8) := (hst12.blk 3 rfl).cell 5
  refine bodyPost_ret (v := .tuple #[.agg #[.int .i64 ((numS s 0 1 : Int)), .int .i64 ((numS s 1 1 : Int)), .int .i64 ((numS s 2 2 : Int) - 1), .int .i64 ((numS s 4 1 : Int)), .bool ((numS s 5 1 : Int) == 1), .slice A34_8 rs.length c34_8], .int .i64 0]) (by simp [results, Tryd.results15, go_sem, hr13, hr14, hr15, hr16, hr17, hr18]) rfl ?_
  exact ⟨_, _, rfl, hst12.own' 1 rfl, hst12.ext⟩

set_option maxRecDepth 100000 in
set_option maxHeartbeats 2000000 in
theorem tread_short (s : ByteArray) (w : World) (hs : s.size ≤ 1000000) (h6 : 6 ≤ s.size) (ht : s.size < 8 ∨ s.size < 8 + numS s 6 2) :
    Calls Tryd.prog 15 #[.string s] w (Ret (.tuple #[.agg #[.int .i64 0, .int .i64 0, .int .i64 0, .int .i64 0, .bool false, .slice none 0 0], .int .i64 10]) w) := by
  have hq2 := numS_lt2 s 2
  go_enter Tryd.func15, Tryd.ntmps15
  have hst0 := St.start w
  refine wp_seq ?_
  refine wp_region_T [0, 0] [] [[0]] [] [.a 2, .k 3 (.int .i64 0)] (fun ix σ β X => match ix with | 0 => σ 2 = .pointer (some ⟨(pb (β 2)), 0, none⟩) ∧ X 0 = eB (pb (β 2)) 27 #[.int .i64 0, .int .i64 0, .int .i64 0, .int .i64 0, .bool false, .slice none 0 0] | _ => True) [0] [0] [(2, 0, 2, 4)] hst0 ?_ ?_ ?_
  · exact fun ix _ _ _ _ _ _ hs hb hx h => match ix, h with
    | 0, h => by dsimp only at h ⊢; rw [← hs 2 rfl, ← hb 2 rfl, ← hx 0 rfl]; exact h
    | _ + 1, _ => trivial
  · refine ⟨?_, trivial⟩
    · refine sv_any rfl rfl fun ρ β W X cx => ?_
      exact dv_alloc (cs := #[.int .i64 0, .int .i64 0, .int .i64 0, .int .i64 0, .bool false, .slice none 0 0]) rfl (by kernel_rfl) rfl rfl (fun σ β' X' hs hb hv hx => ⟨hv, hx⟩)
  intro σ β X W1 hD hX hst1 fr hfr
  obtain ⟨B2_1, hu_B2_1⟩ : ∃ z, pb (β 2) = z := ⟨_, rfl⟩
  simp only [zM, exq 0 ((dTn (hD 0 lq)).2), hu_B2_1] at hst1
  dsimp only [mgT, vals, List.take, List.drop, List.cons_append, List.nil_append] at hfr
  simp only [ed 2 ((dTn (hD 0 lq)).1), hu_B2_1] at hfr
  clear hX hD hu_B2_1; subst hfr; clear σ β X
  refine then_normal ?_
  refine wp_seq ?_
  refine wp_region_T [0, 1, 3] [] [[], [1]] [] [.k 9 (.string s), .a 10, .a 4] (fun ix σ β X => match ix with | 0 => True | 1 => σ 10 = .pointer (some ⟨(pb (β 10)), 0, none⟩) ∧ X 1 = eB (pb (β 10)) 154 #[.string s, .int .i64 0, .bool false] | 2 => σ 4 = .pointer (some ⟨(pb (β 10)), 0, none⟩) | _ => True) [0, 1] [1, 2] [(4, 2, 1, 5), (4, 0, 2, 6)] hst1 ?_ ?_ ?_
  · exact fun ix _ _ _ _ _ _ hs hb hx h => match ix, h with
    | 1, h => by dsimp only at h ⊢; rw [← hs 10 rfl, ← hb 10 rfl, ← hx 1 rfl]; exact h
    | 2, h => by dsimp only at h ⊢; rw [← hs 4 rfl, ← hb 10 rfl]; exact h
    | 0, _ | _ + 3, _ => trivial
  · refine ⟨?_, ?_, trivial⟩
    · refine sv_any rfl rfl fun ρ β W X cx => ?_
      refine DoesU.call (run_callF (args := #[.string s]) rfl cx.sees rfl (by kernel_rfl) (map1 (cx.anc 0 rfl))) ?_
      refine (oread_b s _).mono ?_
      rintro e W1 ⟨B4, rfl, ⟨hb4, hw4⟩, hx⟩
      refine ⟨_, rfl, post_call [eB B4 154 #[.string s, .int .i64 0, .bool false]] rfl rfl hx (one_new ⟨hb4, eB_loc _ _ _, fun k hk => by simp [eB] at hk; subst hk; exact ⟨hw4, hb4.lt⟩⟩) (List.pairwise_singleton _ _) (fun σ β' X' hs hb hv hN => ?_)⟩
      have hv1 := (hv 10 rfl).1; have hv2 := (hv 10 rfl).2
      exact ⟨hv1.trans (by rw [hv2]; rfl), (by rw [hv2]; exact (List.cons.inj hN).1)⟩
    · exact sv rfl rfl rfl rfl rfl _ (fun _ _ _ h => h) (fun β β' h => by rw [h 10 (by decide)]) fun ρ β W X cx => run_assign' rfl (dTn (cx.anc 1 rfl)).1
  intro σ β X W2 hD hX hst2 fr hfr
  obtain ⟨B10_2, hu_B10_2⟩ : ∃ z, pb (β 10) = z := ⟨_, rfl⟩
  simp only [zM, exq 0 (hX 0 _ rfl), exq 1 ((dTn (hD 1 lq)).2), hu_B10_2] at hst2
  dsimp only [mgT, vals, List.take, List.drop, List.cons_append, List.nil_append] at hfr
  simp only [ed 10 ((dTn (hD 1 lq)).1), ed 4 ((dTn (hD 2 lq))), hu_B10_2] at hfr
  clear hX hD hu_B10_2; subst hfr; clear σ β X
  refine then_normal ?_
  refine wp_seq ?_
  refine wp_region_T [0, 1, 0, 7, 15, 0, 63] [[], [1], [], [2], [], [], [4]] [[], [2], [], [3], [], [4], [5]] [[], [1], [], [2], [], [], [4]] [.k 11 (.pointer (some ⟨B10_2, 0, none⟩)), .a 12, .k 13 (.pointer (some ⟨B10_2, 0, none⟩)), .a 14, .c 15 (.agg #[.int .i64 ((numS s 0 1 : Int)), .int .i64 ((numS s 1 1 : Int)), .int .i64 0, .int .i64 0, .bool false, .slice none 0 0]), .a 5, .n] (fun ix σ β X => match ix with | 0 => True | 1 => σ 12 = .int .i64 ((numS s 0 1 : Int)) ∧ X 2 = eB B10_2 154 #[.string s, .int .i64 1, .bool false] | 2 => True | 3 => σ 14 = .int .i64 ((numS s 1 1 : Int)) ∧ X 3 = eB B10_2 154 #[.string s, .int .i64 2, .bool false] | 4 => True | 5 => σ 5 = .pointer (some ⟨(pb (β 5)), 0, none⟩) ∧ X 4 = eB (pb (β 5)) 27 #[.int .i64 0, .int .i64 0, .int .i64 0, .int .i64 0, .bool false, .slice none 0 0] | 6 => X 5 = eB (pb (β 5)) 27 #[.int .i64 ((numS s 0 1 : Int)), .int .i64 ((numS s 1 1 : Int)), .int .i64 0, .int .i64 0, .bool false, .slice none 0 0] | _ => True) [0, 3, 5] [1, 3, 4, 5, 6] [(5, 5, 1, 6), (5, 0, 5, 10)] hst2 ?_ ?_ ?_
  · exact fun ix _ _ _ _ _ _ hs hb hx h => match ix, h with
    | 1, h => by dsimp only at h ⊢; rw [← hs 12 rfl, ← hx 2 rfl]; exact h
    | 3, h => by dsimp only at h ⊢; rw [← hs 14 rfl, ← hx 3 rfl]; exact h
    | 5, h => by dsimp only at h ⊢; rw [← hs 5 rfl, ← hb 5 rfl, ← hx 4 rfl]; exact h
    | 6, h => by dsimp only at h ⊢; rw [← hb 5 rfl, ← hx 5 rfl]; exact h
    | 0, _ | 2, _ | 4, _ | _ + 7, _ => trivial
  · refine ⟨?_, ?_, ?_, ?_, ?_, trivial⟩
    · refine sv_any rfl rfl fun ρ β W X cx => ?_
      refine DoesU.call (run_callF (args := #[.pointer (some ⟨B10_2, 0, none⟩), .int .i64 1]) rfl cx.sees rfl (by kernel_rfl) (map2 (cx.anc 0 rfl) (cx.sees.const _))) ?_
      refine (num_ok _ s 0 1 _ ⟨(cx.blk (cx.init 1 _ rfl) rfl), by omega, by omega⟩ (by omega) (by omega)).mono ?_
      rintro e W1 ⟨rfl, hrd, hu⟩
      refine ⟨_, rfl, post_mut (cx.init 1 _ rfl) rfl rfl hu hrd.1 (fun σ β' X' hs hb hv hx => ?_)⟩
      exact ⟨(hv 12 rfl).1.trans rfl, hx⟩
    · refine sv_any rfl rfl fun ρ β W X cx => ?_
      refine DoesU.call (run_callF (args := #[.pointer (some ⟨B10_2, 0, none⟩), .int .i64 1]) rfl cx.sees rfl (by kernel_rfl) (map2 (cx.anc 2 rfl) (cx.sees.const _))) ?_
      refine (num_ok _ s 1 1 _ ⟨(cx.blk (dTn (cx.anc 1 rfl)).2 rfl), by omega, by omega⟩ (by omega) (by omega)).mono ?_
      rintro e W1 ⟨rfl, hrd, hu⟩
      refine ⟨_, rfl, post_mut (dTn (cx.anc 1 rfl)).2 rfl rfl hu hrd.1 (fun σ β' X' hs hb hv hx => ?_)⟩
      exact ⟨(hv 14 rfl).1.trans rfl, hx⟩
    · exact s4 rfl (fun _ _ _ h => h) fun cx => run_buildL rfl (pmc (dTn (cx.anc 1 rfl)).1 (pmc (dTn (cx.anc 3 rfl)).1 pmn)) (by kernel_rfl)
    · refine sv_any rfl rfl fun ρ β W X cx => ?_
      exact dv_alloc (cs := #[.int .i64 0, .int .i64 0, .int .i64 0, .int .i64 0, .bool false, .slice none 0 0]) rfl (by kernel_rfl) rfl rfl (fun σ β' X' hs hb hv hx => ⟨hv, hx⟩)
    · refine sv_any rfl rfl fun ρ β W X cx => ?_
      exact dv_store (n := 6) rfl (dTn (cx.anc 5 rfl)).1 (cx.anc 4 rfl) (by kernel_rfl) (by kernel_rfl) (by kernel_rfl) cx (dTn (cx.anc 5 rfl)).2 rfl (Nat.le_of_ble_eq_true rfl) (by kernel_rfl) rfl rfl rfl (fun σ β' X' hs hb hx => by rw [hb 5]; exact hx)
  intro σ β X W3 hD hX hst3 fr hfr
  obtain ⟨B5_3, hu_B5_3⟩ : ∃ z, pb (β 5) = z := ⟨_, rfl⟩
  simp only [zM, exq 0 (hX 0 _ rfl), exq 3 ((dTn (hD 3 lq)).2), exq 5 ((dTn (hD 6 lq))), hu_B5_3] at hst3
  dsimp only [mgT, vals, List.take, List.drop, List.cons_append, List.nil_append] at hfr
  simp only [ed 12 ((dTn (hD 1 lq)).1), ed 14 ((dTn (hD 3 lq)).1), ed 5 ((dTn (hD 5 lq)).1), hu_B5_3] at hfr
  clear hX hD hu_B5_3; subst hfr; clear σ β X
  refine then_normal ?_
  refine wp_seq ?_
  refine wp_region_T [0, 1, 3, 0, 11, 31, 63, 127] [[], [1], [], [], [3], [], [], [2]] [[], [3], [], [], [4], [], [], [5]] [[], [1], [], [], [3], [], [], [2]] [.k 16 (.pointer (some ⟨B10_2, 0, none⟩)), .a 17, .c 18 (.int .i64 ((numS s 2 2 : Int) - 1)), .k 19 (.pointer (some ⟨B10_2, 0, none⟩)), .a 20, .c 21 (.agg #[.int .i64 ((numS s 2 2 : Int) - 1), .int .i64 ((numS s 4 1 : Int))]), .k 22 (.pointer (some ⟨B5_3, 2, none⟩)), .n] (fun ix σ β X => match ix with | 0 => True | 1 => σ 17 = .int .i64 ((numS s 2 2 : Int)) ∧ X 3 = eB B10_2 154 #[.string s, .int .i64 4, .bool false] | 2 => True | 3 => True | 4 => σ 20 = .int .i64 ((numS s 4 1 : Int)) ∧ X 4 = eB B10_2 154 #[.string s, .int .i64 5, .bool false] | 5 => True | 6 => True | 7 => X 5 = eB B5_3 27 #[.int .i64 ((numS s 0 1 : Int)), .int .i64 ((numS s 1 1 : Int)), .int .i64 ((numS s 2 2 : Int) - 1), .int .i64 ((numS s 4 1 : Int)), .bool false, .slice none 0 0] | _ => True) [0, 4, 5] [1, 2, 4, 5, 7] [(16, 0, 7, 23)] hst3 ?_ ?_ ?_
  · exact fun ix _ _ _ _ _ _ hs hb hx h => match ix, h with
    | 1, h => by dsimp only at h ⊢; rw [← hs 17 rfl, ← hx 3 rfl]; exact h
    | 4, h => by dsimp only at h ⊢; rw [← hs 20 rfl, ← hx 4 rfl]; exact h
    | 7, h => by dsimp only at h ⊢; rw [← hx 5 rfl]; exact h
    | 0, _ | 2, _ | 3, _ | 5, _ | 6, _ | _ + 8, _ => trivial
  · refine ⟨?_, ?_, ?_, ?_, ?_, trivial⟩
    · refine sv_any rfl rfl fun ρ β W X cx => ?_
      refine DoesU.call (run_callF (args := #[.pointer (some ⟨B10_2, 0, none⟩), .int .i64 2]) rfl cx.sees rfl (by kernel_rfl) (map2 (cx.anc 0 rfl) (cx.sees.const _))) ?_
      refine (num_ok _ s 2 2 _ ⟨(cx.blk (cx.init 1 _ rfl) rfl), by omega, by omega⟩ (by omega) (by omega)).mono ?_
      rintro e W1 ⟨rfl, hrd, hu⟩
      refine ⟨_, rfl, post_mut (cx.init 1 _ rfl) rfl rfl hu hrd.1 (fun σ β' X' hs hb hv hx => ?_)⟩
      exact ⟨(hv 17 rfl).1.trans rfl, hx⟩
    · exact s4 rfl (fun _ _ _ h => h) fun cx => run_bin rfl (dTn (cx.anc 1 rfl)).1 (cx.sees.const _) (congrArg (fun z => some (Value.int .i64 z)) ((IntWalk.i64_in _ (by omega)).trans (by omega)))
    · refine sv_any rfl rfl fun ρ β W X cx => ?_
      refine DoesU.call (run_callF (args := #[.pointer (some ⟨B10_2, 0, none⟩), .int .i64 1]) rfl cx.sees rfl (by kernel_rfl) (map2 (cx.anc 3 rfl) (cx.sees.const _))) ?_
      refine (num_ok _ s 4 1 _ ⟨(cx.blk (dTn (cx.anc 1 rfl)).2 rfl), by omega, by omega⟩ (by omega) (by omega)).mono ?_
      rintro e W1 ⟨rfl, hrd, hu⟩
      refine ⟨_, rfl, post_mut (dTn (cx.anc 1 rfl)).2 rfl rfl hu hrd.1 (fun σ β' X' hs hb hv hx => ?_)⟩
      exact ⟨(hv 20 rfl).1.trans rfl, hx⟩
    · exact s4 rfl (fun _ _ _ h => h) fun cx => run_buildL rfl (pmc (cx.anc 2 rfl) (pmc (dTn (cx.anc 4 rfl)).1 pmn)) (by kernel_rfl)
    · refine sv_any rfl rfl fun ρ β W X cx => ?_
      exact dv_store (n := 2) rfl (cx.anc 6 rfl) (cx.anc 5 rfl) (by kernel_rfl) (by kernel_rfl) (by kernel_rfl) cx (cx.init 2 _ rfl) rfl (Nat.le_of_ble_eq_true rfl) (by kernel_rfl) rfl rfl rfl (fun σ β' X' hs hb hx => hx)
  intro σ β X W4 hD hX hst4 fr hfr
  simp only [zM, exq 0 (hX 0 _ rfl), exq 4 ((dTn (hD 4 lq)).2), exq 5 ((dTn (hD 7 lq)))] at hst4
  dsimp only [mgT, vals, List.take, List.drop, List.cons_append, List.nil_append] at hfr
  simp only [ed 17 ((dTn (hD 1 lq)).1), ed 20 ((dTn (hD 4 lq)).1)] at hfr
  clear hX hD; subst hfr; clear σ β X
  refine then_normal ?_
  refine wp_seq ?_
  refine wp_region_T [0, 1, 3, 7, 15] [[], [1], [], [], [2]] [[], [3], [], [], [4]] [[], [1], [], [], [2]] [.k 23 (.pointer (some ⟨B10_2, 0, none⟩)), .a 24, .c 25 (.bool ((numS s 5 1 : Int) == 1)), .k 26 (.pointer (some ⟨B5_3, 4, none⟩)), .n] (fun ix σ β X => match ix with | 0 => True | 1 => σ 24 = .int .i64 ((numS s 5 1 : Int)) ∧ X 3 = eB B10_2 154 #[.string s, .int .i64 6, .bool false] | 2 => True | 3 => True | 4 => X 4 = eB B5_3 27 #[.int .i64 ((numS s 0 1 : Int)), .int .i64 ((numS s 1 1 : Int)), .int .i64 ((numS s 2 2 : Int) - 1), .int .i64 ((numS s 4 1 : Int)), .bool ((numS s 5 1 : Int) == 1), .slice none 0 0] | _ => True) [0, 3, 4] [1, 2, 4] [(23, 0, 4, 27)] hst4 ?_ ?_ ?_
  · exact fun ix _ _ _ _ _ _ hs hb hx h => match ix, h with
    | 1, h => by dsimp only at h ⊢; rw [← hs 24 rfl, ← hx 3 rfl]; exact h
    | 4, h => by dsimp only at h ⊢; rw [← hx 4 rfl]; exact h
    | 0, _ | 2, _ | 3, _ | _ + 5, _ => trivial
  · refine ⟨?_, ?_, ?_, trivial⟩
    · refine sv_any rfl rfl fun ρ β W X cx => ?_
      refine DoesU.call (run_callF (args := #[.pointer (some ⟨B10_2, 0, none⟩), .int .i64 1]) rfl cx.sees rfl (by kernel_rfl) (map2 (cx.anc 0 rfl) (cx.sees.const _))) ?_
      refine (num_ok _ s 5 1 _ ⟨(cx.blk (cx.init 1 _ rfl) rfl), by omega, by omega⟩ (by omega) (by omega)).mono ?_
      rintro e W1 ⟨rfl, hrd, hu⟩
      refine ⟨_, rfl, post_mut (cx.init 1 _ rfl) rfl rfl hu hrd.1 (fun σ β' X' hs hb hv hx => ?_)⟩
      exact ⟨(hv 24 rfl).1.trans rfl, hx⟩
    · exact s4 rfl (fun _ _ _ h => h) fun cx => run_bin rfl (dTn (cx.anc 1 rfl)).1 (cx.sees.const _) rfl
    · refine sv_any rfl rfl fun ρ β W X cx => ?_
      exact dv_store (n := 1) rfl (cx.anc 3 rfl) (cx.anc 2 rfl) (by kernel_rfl) (by kernel_rfl) (by kernel_rfl) cx (cx.init 2 _ rfl) rfl (Nat.le_of_ble_eq_true rfl) (by kernel_rfl) rfl rfl rfl (fun σ β' X' hs hb hx => hx)
  intro σ β X W5 hD hX hst5 fr hfr
  simp only [zM, exq 0 (hX 0 _ rfl), exq 3 ((dTn (hD 1 lq)).2), exq 4 ((dTn (hD 4 lq)))] at hst5
  dsimp only [mgT, vals, List.take, List.drop, List.cons_append, List.nil_append] at hfr
  simp only [ed 24 ((dTn (hD 1 lq)).1)] at hfr
  clear hX hD; subst hfr; clear σ β X
  refine then_normal ?_
  refine wp_seq ?_
  refine wp_region_T [0, 1, 3] [[], [1]] [[], [3]] [[], [1]] [.k 27 (.pointer (some ⟨B10_2, 0, none⟩)), .a 28, .c 6 (.string ByteArray.empty)] (fun ix σ β X => match ix with | 0 => True | 1 => σ 28 = .string ByteArray.empty ∧ X 3 = eB B10_2 154 #[.string s, .int .i64 6, .bool true] | _ => True) [0, 2, 3] [1, 2] [(6, 2, 1, 7), (20, 0, 2, 22)] hst5 ?_ ?_ ?_
  · exact fun ix _ _ _ _ _ _ hs hb hx h => match ix, h with
    | 1, h => by dsimp only at h ⊢; rw [← hs 28 rfl, ← hx 3 rfl]; exact h
    | 0, _ | _ + 2, _ => trivial
  · refine ⟨?_, ?_, trivial⟩
    · refine sv_any rfl rfl fun ρ β W X cx => ?_
      refine DoesU.call (run_callF (args := #[.pointer (some ⟨B10_2, 0, none⟩)]) rfl cx.sees rfl (by kernel_rfl) (map1 (cx.anc 0 rfl))) ?_
      refine (text_bad _ s 6 false _ ⟨(cx.blk (cx.init 1 _ rfl) rfl), by omega, by omega⟩ (by omega)).mono ?_
      rintro e W1 ⟨rfl, hrd, hu⟩
      refine ⟨_, rfl, post_mut (cx.init 1 _ rfl) rfl rfl hu hrd.1 (fun σ β' X' hs hb hv hx => ?_)⟩
      exact ⟨(hv 28 rfl).1.trans rfl, hx⟩
    · exact s4 rfl (fun _ _ _ h => h) fun cx => run_assign' rfl (dTn (cx.anc 1 rfl)).1
  intro σ β X W6 hD hX hst6 fr hfr
  simp only [zM, exq 0 (hX 0 _ rfl), exq 2 (hX 2 _ rfl), exq 3 ((dTn (hD 1 lq)).2)] at hst6
  dsimp only [mgT, vals, List.take, List.drop, List.cons_append, List.nil_append] at hfr
  simp only [ed 28 ((dTn (hD 1 lq)).1)] at hfr
  clear hX hD; subst hfr; clear σ β X
  refine then_normal ?_
  refine wp_seq ?_
  refine wp_seq ?_
  refine wp_region_T [0, 1] [[], [2]] [] [] [.k 29 (.pointer (some ⟨B10_2, 0, none⟩)), .a 30] (fun ix σ β X => match ix with | 0 => True | 1 => σ 30 = .bool true | _ => True) [0, 1, 2] [1] [(29, 0, 2, 31)] hst6 ?_ ?_ ?_
  · exact fun ix _ _ _ _ _ _ hs hb hx h => match ix, h with
    | 1, h => (hs _ rfl).symm.trans h
    | 0, _ | _ + 2, _ => trivial
  · refine ⟨?_, trivial⟩
    · refine sv_any rfl rfl fun ρ β W X cx => ?_
      refine DoesU.call (run_callF (args := #[.pointer (some ⟨B10_2, 0, none⟩)]) rfl cx.sees rfl (by kernel_rfl) (map1 (cx.anc 0 rfl))) ?_
      refine (failed_any _ s 6 true _ ⟨(cx.blk (cx.init 2 _ rfl) rfl), by omega, by omega⟩).mono ?_
      rintro e W1 ⟨rfl, rfl⟩
      refine ⟨_, rfl, post_call [] rfl rfl (Ext.refl _) (by simp) List.Pairwise.nil (fun σ β' X' hs hb hv hN => ?_)⟩
      have hv1 := (hv 30 rfl).1; have hv2 := (hv 30 rfl).2
      exact hv1.trans rfl
  intro σ β X W7 hD hX hst7 fr hfr
  simp only [zM, exq 0 (hX 0 _ rfl), exq 1 (hX 1 _ rfl), exq 2 (hX 2 _ rfl)] at hst7
  dsimp only [mgT, vals, List.take, List.drop, List.cons_append, List.nil_append] at hfr
  simp only [ed 30 ((dTn (hD 1 lq)))] at hfr
  clear hX hD; subst hfr; clear σ β X
  refine then_normal ?_
  refine wp_cond_true (show Act.eval _ _ = .bool true from rfl) ?_
  refine wp_seq ?_
  refine wp_region_T [0, 1, 3] [[], [0]] [[], [3]] [[], [0]] [.k 31 (.agg #[.int .i64 0, .int .i64 0, .int .i64 0, .int .i64 0, .bool false, .slice none 0 0]), .n, .k 3 (.int .i64 10)] (fun ix σ β X => match ix with | 0 => True | 1 => X 3 = eB B2_1 27 #[.int .i64 0, .int .i64 0, .int .i64 0, .int .i64 0, .bool false, .slice none 0 0] | _ => True) [1, 2, 3] [1] [(3, 2, 1, 4), (27, 0, 1, 28)] hst7 ?_ ?_ ?_
  · exact fun ix _ _ _ _ _ _ hs hb hx h => match ix, h with
    | 1, h => by dsimp only at h ⊢; rw [← hx 3 rfl]; exact h
    | 0, _ | _ + 2, _ => trivial
  · refine ⟨?_, trivial⟩
    · refine sv_any rfl rfl fun ρ β W X cx => ?_
      exact dv_store (n := 6) rfl (cx.out 2 rfl) (cx.anc 0 rfl) (by kernel_rfl) (by kernel_rfl) (by kernel_rfl) cx (cx.init 0 _ rfl) rfl (Nat.le_of_ble_eq_true rfl) (by kernel_rfl) rfl rfl rfl (fun σ β' X' hs hb hx => hx)
  intro σ β X W8 hD hX hst8 fr hfr
  simp only [zM, exq 1 (hX 1 _ rfl), exq 2 (hX 2 _ rfl), exq 3 ((dTn (hD 1 lq)))] at hst8
  dsimp only [mgT, vals, List.take, List.drop, List.cons_append, List.nil_append] at hfr
  clear hX hD; subst hfr; clear σ β X
  refine then_normal ?_
  refine wp_ret ?_
  refine then_ret ?_
  have hr9 : W8.cell? ⟨B2_1, 0, none⟩ = some (.int .i64 0) := (hst8.blk 2 rfl).cell 0
  have hr10 : W8.cell? ⟨B2_1, 1, none⟩ = some (.int .i64 0) := (hst8.blk 2 rfl).cell 1
  have hr11 : W8.cell? ⟨B2_1, 2, none⟩ = some (.int .i64 0) := (hst8.blk 2 rfl).cell 2
  have hr12 : W8.cell? ⟨B2_1, 3, none⟩ = some (.int .i64 0) := (hst8.blk 2 rfl).cell 3
  have hr13 : W8.cell? ⟨B2_1, 4, none⟩ = some (.bool false) := (hst8.blk 2 rfl).cell 4
  have hr14 : W8.cell? ⟨B2_1, 5, none⟩ = some (.slice none 0 0) := (hst8.blk 2 rfl).cell 5
  refine bodyPost_ret (v := .tuple #[.agg #[.int .i64 0, .int .i64 0, .int .i64 0, .int .i64 0, .bool false, .slice none 0 0], .int .i64 10]) (by simp [results, Tryd.results15, go_sem, hr9, hr10, hr11, hr12, hr13, hr14]) rfl ?_
  exact Ret.of rfl hst8.ext

end Go.Proofs.YtfjpglohcppjeaaDoor

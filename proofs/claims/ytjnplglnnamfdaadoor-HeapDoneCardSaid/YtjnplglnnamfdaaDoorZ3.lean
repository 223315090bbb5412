/- HeapDoneRow9: part 3 of the proof. -/
import Derived.Test.YtjnplglnnamfdaaDoorZ2
import Derived.Deep.RegionHeld3
set_option linter.unusedVariables false
set_option linter.unusedSimpArgs false
namespace Go.Proofs.YtjnplglnnamfdaaDoor
section
open Go.RowKit
set_option linter.unusedVariables false
set_option linter.unusedSimpArgs false
/-- what value.Read hands back -/
def RdRow (rs : List Val) (w : World) (e : Ending) (w' : World) : Prop := ∃ A c, e = .returned (.tuple #[.slice A rs.length c, .int .i64 0]) ∧ w'.ownsRow w.heap.size 82 3 (.slice A rs.length c) rs.length (flatR rs) ∧ Ext w w'
def VerRd (a b n1 n2 : Int) (ho : Bool) (rs : List Val) (er : Int) (w : World) (e : Ending) (w' : World) : Prop := ∃ A c, e = .returned (.tuple #[.agg #[.int .i64 a, .int .i64 b, .int .i64 n1, .int .i64 n2, .bool ho, .slice A rs.length c], .int .i64 er]) ∧
  w'.ownsRow w.heap.size 82 3 (.slice A rs.length c) rs.length (flatR rs) ∧ Ext w w'
theorem numS_lt2 (s : ByteArray) (p : Nat) : numS s p 2 < 65536 := by
  have h := numL_lt (s.extract p (p + 2)).data.toList
  have hl : (s.extract p (p + 2)).data.toList.length ≤ 2 := by
    rw [Array.length_toList]
    show (s.extract p (p + 2)).size ≤ 2
    rw [ByteArray.size_extract]; omega
  have h2 : 256 ^ (s.extract p (p + 2)).data.toList.length ≤ 256 ^ 2 := Nat.pow_le_pow_right (by decide) hl
  exact Nat.lt_of_lt_of_le h h2
set_option maxRecDepth 100000 in
theorem oread_b (s : ByteArray) (w : World) : Calls Tryd.prog 64 #[.string s] w fun e w' => ∃ B, e = .returned (.pointer (some ⟨B, 0, none⟩)) ∧ (Blk w' B 168 #[.string s, .int .i64 0, .bool false] ∧ w.heap.size ≤ B) ∧ Ext w w' := by
  go_enter Tryd.func64, Tryd.ntmps64
  have hst0 := St.start w
  refine wp_seq (wp_region_P [0] [.k 2 (.pointer none)] [(2, 0, 1, 3)] hst0 fun W1 hst1 => ?_)
  refine then_normal (wp_seq (wp_region_Y [0, 1, 3, 7] [] [[], [], [0]] [] [.k 3 (.string s), .k 4 (.agg #[.string s, vi 0, .bool false]), .a 5, .a 2] (fun ix σ β X => match ix with | 0 => True | 1 => True | 2 => σ 5 = vp (pb (β 5)) ∧ X 0 = eB (pb (β 5)) 168 #[.string s, vi 0, .bool false] | 3 => σ 2 = vp (pb (β 5)) | _ => True) [0] [2, 3] [(2, 3, 1, 3), (0, 0, 3, 3)] hst1 ?_ ?_ ?_))
  · exact fun ix _ _ _ _ _ _ hs hb hx h => match ix, h with
    | 2, h => by dsimp only at h ⊢; rw [← hs 5 rfl, ← hb 5 rfl, ← hx 0 rfl]; exact h
    | 3, h => by dsimp only at h ⊢; rw [← hs 2 rfl, ← hb 5 rfl]; exact h
    | 0, _ | 1, _ | _ + 4, _ => trivial
  · refine ⟨?_, ?_, trivial⟩
    · refine sv_any rfl rfl fun ρ β W X cx => ?_
      exact dv_box (cs := #[.string s, vi 0, .bool false]) rfl (cx.an 1) rfl rfl rfl (fun σ β' X' hs hb hv hx => ⟨hv, hx⟩)
    · exact sv rfl rfl rfl rfl rfl _ (fun _ _ _ h => h) (fun β β' h => by rw [h 5 (by decide)]) fun ρ β W X cx => run_assign' rfl (dTn (cx.an 2)).1
  intro σ β X W2 hD hst2 fr hfr
  obtain ⟨B5_2, hu_B5_2⟩ : ∃ z, pb (β 5) = z := ⟨_, rfl⟩
  simp only [exq 0 ((dTn (hD 2 lq)).2), hu_B5_2] at hst2
  simp only [ed 5 ((dTn (hD 2 lq)).1), ed 2 ((dTn (hD 3 lq))), hu_B5_2] at hfr
  clear hD hu_B5_2; subst hfr; clear σ β X
  refine then_normal (wp_ret ?_)
  refine bodyPost_ret (v := vp B5_2) (results_tmp Tryd.results64 rfl) rfl ?_
  exact ⟨_, rfl, ⟨hst2.blk 0 rfl, ((hst2.get 0 rfl).own _ (by simp [eB])).1.resolve_left (by simp)⟩, hst2.ext⟩
set_option maxRecDepth 100000 in
set_option maxHeartbeats 2000000 in
theorem tread_good (s : ByteArray) (rs : List Val) (w : World) (hs : s.size ≤ 1000000) (h8 : 8 ≤ s.size) (ht : 8 + numS s 6 2 ≤ s.size) (hlr : rs.length ≤ 1000) (hN : NoneAt w) (HV : ∀ w, Calls Tryd.prog 71 #[.string (textS s 6)] w (RdRow rs w)) (hB : tbytesF (numS s 0 1) (numS s 1 1) ((numS s 2 2 : Int) - 1) (numS s 4 1) ((numS s 5 1 : Int) == 1) rs = s) :
    Calls Tryd.prog 35 #[.string s] w (VerRd (numS s 0 1) (numS s 1 1) ((numS s 2 2 : Int) - 1) (numS s 4 1) ((numS s 5 1 : Int) == 1) rs 0 w) := by
  have hq2 := numS_lt2 s 2
  go_enter Tryd.func35, Tryd.ntmps35
  have hst0 := St.start w
  refine wp_seq (wp_region_Y [0, 0] [] [[0]] [] [.a 2, .k 3 (vi 0)] (fun ix σ β X => match ix with | 0 => σ 2 = vp (pb (β 2)) ∧ X 0 = eB (pb (β 2)) 41 #[vi 0, vi 0, vi 0, vi 0, .bool false, .slice none 0 0] | _ => True) [0] [0] [(2, 0, 2, 4)] hst0 ?_ ?_ ?_)
  · exact fun ix _ _ _ _ _ _ hs hb hx h => match ix, h with
    | 0, h => by dsimp only at h ⊢; rw [← hs 2 rfl, ← hb 2 rfl, ← hx 0 rfl]; exact h
    | _ + 1, _ => trivial
  · refine ⟨?_, trivial⟩
    · refine sv_any rfl rfl fun ρ β W X cx => ?_
      exact dv_alloc (cs := #[vi 0, vi 0, vi 0, vi 0, .bool false, .slice none 0 0]) rfl (by kernel_rfl) rfl rfl (fun σ β' X' hs hb hv hx => ⟨hv, hx⟩)
  intro σ β X W1 hD hst1 fr hfr
  obtain ⟨B2_1, hu_B2_1⟩ : ∃ z, pb (β 2) = z := ⟨_, rfl⟩
  simp only [exq 0 ((dTn (hD 0 lq)).2), hu_B2_1] at hst1
  simp only [ed 2 ((dTn (hD 0 lq)).1), hu_B2_1] at hfr
  clear hD hu_B2_1; subst hfr; clear σ β X
  refine then_normal (wp_seq (wp_region_Y [0, 1, 3] [] [[], [1]] [] [.k 9 (.string s), .a 10, .a 4] (fun ix σ β X => match ix with | 0 => True | 1 => σ 10 = vp (pb (β 10)) ∧ X 1 = eB (pb (β 10)) 168 #[.string s, vi 0, .bool false] | 2 => σ 4 = vp (pb (β 10)) | _ => True) [0, 1] [1, 2] [(4, 2, 1, 5), (4, 0, 2, 6)] hst1 ?_ ?_ ?_))
  · exact fun ix _ _ _ _ _ _ hs hb hx h => match ix, h with
    | 1, h => by dsimp only at h ⊢; rw [← hs 10 rfl, ← hb 10 rfl, ← hx 1 rfl]; exact h
    | 2, h => by dsimp only at h ⊢; rw [← hs 4 rfl, ← hb 10 rfl]; exact h
    | 0, _ | _ + 3, _ => trivial
  · refine ⟨?_, ?_, trivial⟩
    · refine sv_any rfl rfl fun ρ β W X cx => ?_
      refine DoesU.call (run_callF (args := #[.string s]) rfl cx.sees rfl (by kernel_rfl) (map1 (cx.an 0))) ?_
      refine (oread_b s _).mono ?_
      rintro e W1 ⟨B4, rfl, ⟨hb4, hw4⟩, hx⟩
      refine ⟨_, rfl, post_call [eB B4 168 #[.string s, vi 0, .bool false]] rfl rfl hx (one_new ⟨hb4, eB_loc _ _ _, fun k hk => by simp [eB] at hk; subst hk; exact ⟨hw4, hb4.lt⟩⟩) (List.pairwise_singleton _ _) (fun σ β' X' hs hb hv hN => ?_)⟩
      have hv1 := (hv 10 rfl).1; have hv2 := (hv 10 rfl).2
      exact ⟨hv1.trans (by rw [hv2]; rfl), (by rw [hv2]; exact (List.cons.inj hN).1)⟩
    · exact sv rfl rfl rfl rfl rfl _ (fun _ _ _ h => h) (fun β β' h => by rw [h 10 (by decide)]) fun ρ β W X cx => run_assign' rfl (dTn (cx.an 1)).1
  intro σ β X W2 hD hst2 fr hfr
  obtain ⟨B10_2, hu_B10_2⟩ : ∃ z, pb (β 10) = z := ⟨_, rfl⟩
  simp only [exq 1 ((dTn (hD 1 lq)).2), hu_B10_2] at hst2
  simp only [ed 10 ((dTn (hD 1 lq)).1), ed 4 ((dTn (hD 2 lq))), hu_B10_2] at hfr
  clear hD hu_B10_2; subst hfr; clear σ β X
  refine then_normal (wp_seq (wp_region_Y [0, 1, 0, 7, 15, 0, 63] [[], [1], [], [2], [], [], [4]] [[], [2], [], [3], [], [4], [5]] [[], [1], [], [2], [], [], [4]] [.k 11 (vp B10_2), .a 12, .k 13 (vp B10_2), .a 14, .c 15 (.agg #[vi ((numS s 0 1 : Int)), vi ((numS s 1 1 : Int)), vi 0, vi 0, .bool false, .slice none 0 0]), .a 5, .n] (fun ix σ β X => match ix with | 0 => True | 1 => σ 12 = vi ((numS s 0 1 : Int)) ∧ X 2 = eB B10_2 168 #[.string s, vi 1, .bool false] | 2 => True | 3 => σ 14 = vi ((numS s 1 1 : Int)) ∧ X 3 = eB B10_2 168 #[.string s, vi 2, .bool false] | 4 => True | 5 => σ 5 = vp (pb (β 5)) ∧ X 4 = eB (pb (β 5)) 41 #[vi 0, vi 0, vi 0, vi 0, .bool false, .slice none 0 0] | 6 => X 5 = eB (pb (β 5)) 41 #[vi ((numS s 0 1 : Int)), vi ((numS s 1 1 : Int)), vi 0, vi 0, .bool false, .slice none 0 0] | _ => True) [0, 3, 5] [1, 3, 4, 5, 6] [(5, 5, 1, 6), (5, 0, 5, 10)] hst2 ?_ ?_ ?_))
  · exact fun ix _ _ _ _ _ _ hs hb hx h => match ix, h with
    | 1, h => by dsimp only at h ⊢; rw [← hs 12 rfl, ← hx 2 rfl]; exact h
    | 3, h => by dsimp only at h ⊢; rw [← hs 14 rfl, ← hx 3 rfl]; exact h
    | 5, h => by dsimp only at h ⊢; rw [← hs 5 rfl, ← hb 5 rfl, ← hx 4 rfl]; exact h
    | 6, h => by dsimp only at h ⊢; rw [← hb 5 rfl, ← hx 5 rfl]; exact h
    | 0, _ | 2, _ | 4, _ | _ + 7, _ => trivial
  · refine ⟨?_, ?_, ?_, ?_, ?_, trivial⟩
    · refine sv_any rfl rfl fun ρ β W X cx => ?_
      refine DoesU.call (run_callF (args := #[vp B10_2, vi 1]) rfl cx.sees rfl (by kernel_rfl) (map2 (cx.an 0) (cx.co _))) ?_
      refine (num_ok _ s 0 1 _ ⟨(cx.bi 1 rfl), by omega, by omega⟩ (by omega) (by omega)).mono ?_
      rintro e W1 ⟨rfl, hrd, hu⟩
      refine ⟨_, rfl, post_mut (cx.init 1 _ rfl) rfl rfl hu hrd.1 (fun σ β' X' hs hb hv hx => ?_)⟩
      exact ⟨(hv 12 rfl).1.trans rfl, hx⟩
    · refine sv_any rfl rfl fun ρ β W X cx => ?_
      refine DoesU.call (run_callF (args := #[vp B10_2, vi 1]) rfl cx.sees rfl (by kernel_rfl) (map2 (cx.an 2) (cx.co _))) ?_
      refine (num_ok _ s 1 1 _ ⟨(cx.blk (dTn (cx.an 1)).2 rfl), by omega, by omega⟩ (by omega) (by omega)).mono ?_
      rintro e W1 ⟨rfl, hrd, hu⟩
      refine ⟨_, rfl, post_mut (dTn (cx.an 1)).2 rfl rfl hu hrd.1 (fun σ β' X' hs hb hv hx => ?_)⟩
      exact ⟨(hv 14 rfl).1.trans rfl, hx⟩
    · exact xs4 rfl id fun cx => run_buildL rfl (pmc (dTn (cx.an 1)).1 (pmc (dTn (cx.an 3)).1 pmn)) (by kernel_rfl)
    · refine sv_any rfl rfl fun ρ β W X cx => ?_
      exact dv_alloc (cs := #[vi 0, vi 0, vi 0, vi 0, .bool false, .slice none 0 0]) rfl (by kernel_rfl) rfl rfl (fun σ β' X' hs hb hv hx => ⟨hv, hx⟩)
    · refine sv_any rfl rfl fun ρ β W X cx => ?_
      exact dv_store (n := 6) rfl (dTn (cx.an 5)).1 (cx.an 4) (by kernel_rfl) (by kernel_rfl) (by kernel_rfl) cx (dTn (cx.an 5)).2 rfl (nle rfl) (by kernel_rfl) rfl rfl rfl (fun σ β' X' hs hb hx => by rw [hb 5]; exact hx)
  intro σ β X W3 hD hst3 fr hfr
  obtain ⟨B5_3, hu_B5_3⟩ : ∃ z, pb (β 5) = z := ⟨_, rfl⟩
  simp only [exq 3 ((dTn (hD 3 lq)).2), exq 5 ((dTn (hD 6 lq))), hu_B5_3] at hst3
  simp only [ed 12 ((dTn (hD 1 lq)).1), ed 14 ((dTn (hD 3 lq)).1), ed 5 ((dTn (hD 5 lq)).1), hu_B5_3] at hfr
  clear hD hu_B5_3; subst hfr; clear σ β X
  refine then_normal (wp_seq (wp_region_Y [0, 1, 3, 0, 11, 31, 63, 127] [[], [1], [], [], [3], [], [], [2]] [[], [3], [], [], [4], [], [], [5]] [[], [1], [], [], [3], [], [], [2]] [.k 16 (vp B10_2), .a 17, .c 18 (vi ((numS s 2 2 : Int) - 1)), .k 19 (vp B10_2), .a 20, .c 21 (.agg #[vi ((numS s 2 2 : Int) - 1), vi ((numS s 4 1 : Int))]), .k 22 (.pointer (some ⟨B5_3, 2, none⟩)), .n] (fun ix σ β X => match ix with | 0 => True | 1 => σ 17 = vi ((numS s 2 2 : Int)) ∧ X 3 = eB B10_2 168 #[.string s, vi 4, .bool false] | 2 => True | 3 => True | 4 => σ 20 = vi ((numS s 4 1 : Int)) ∧ X 4 = eB B10_2 168 #[.string s, vi 5, .bool false] | 5 => True | 6 => True | 7 => X 5 = eB B5_3 41 #[vi ((numS s 0 1 : Int)), vi ((numS s 1 1 : Int)), vi ((numS s 2 2 : Int) - 1), vi ((numS s 4 1 : Int)), .bool false, .slice none 0 0] | _ => True) [0, 4, 5] [1, 2, 4, 5, 7] [(16, 0, 7, 23)] hst3 ?_ ?_ ?_))
  · exact fun ix _ _ _ _ _ _ hs hb hx h => match ix, h with
    | 1, h => by dsimp only at h ⊢; rw [← hs 17 rfl, ← hx 3 rfl]; exact h
    | 4, h => by dsimp only at h ⊢; rw [← hs 20 rfl, ← hx 4 rfl]; exact h
    | 7, h => by dsimp only at h ⊢; rw [← hx 5 rfl]; exact h
    | 0, _ | 2, _ | 3, _ | 5, _ | 6, _ | _ + 8, _ => trivial
  · refine ⟨?_, ?_, ?_, ?_, ?_, trivial⟩
    · refine sv_any rfl rfl fun ρ β W X cx => ?_
      refine DoesU.call (run_callF (args := #[vp B10_2, vi 2]) rfl cx.sees rfl (by kernel_rfl) (map2 (cx.an 0) (cx.co _))) ?_
      refine (num_ok _ s 2 2 _ ⟨(cx.bi 1 rfl), by omega, by omega⟩ (by omega) (by omega)).mono ?_
      rintro e W1 ⟨rfl, hrd, hu⟩
      refine ⟨_, rfl, post_mut (cx.init 1 _ rfl) rfl rfl hu hrd.1 (fun σ β' X' hs hb hv hx => ?_)⟩
      exact ⟨(hv 17 rfl).1.trans rfl, hx⟩
    · exact xs4 rfl id fun cx => run_bin rfl (dTn (cx.an 1)).1 (cx.co _) (congrArg (fun z => some (Value.int .i64 z)) ((IntWalk.i64_in _ (by omega)).trans (by omega)))
    · refine sv_any rfl rfl fun ρ β W X cx => ?_
      refine DoesU.call (run_callF (args := #[vp B10_2, vi 1]) rfl cx.sees rfl (by kernel_rfl) (map2 (cx.an 3) (cx.co _))) ?_
      refine (num_ok _ s 4 1 _ ⟨(cx.blk (dTn (cx.an 1)).2 rfl), by omega, by omega⟩ (by omega) (by omega)).mono ?_
      rintro e W1 ⟨rfl, hrd, hu⟩
      refine ⟨_, rfl, post_mut (dTn (cx.an 1)).2 rfl rfl hu hrd.1 (fun σ β' X' hs hb hv hx => ?_)⟩
      exact ⟨(hv 20 rfl).1.trans rfl, hx⟩
    · exact xs4 rfl id fun cx => run_buildL rfl (pmc (cx.an 2) (pmc (dTn (cx.an 4)).1 pmn)) (by kernel_rfl)
    · refine sv_any rfl rfl fun ρ β W X cx => ?_
      exact dv_store (n := 2) rfl (cx.an 6) (cx.an 5) (by kernel_rfl) (by kernel_rfl) (by kernel_rfl) cx (cx.init 2 _ rfl) rfl (nle rfl) (by kernel_rfl) rfl rfl rfl (fun σ β' X' hs hb hx => hx)
  intro σ β X W4 hD hst4 fr hfr
  simp only [exq 4 ((dTn (hD 4 lq)).2), exq 5 ((dTn (hD 7 lq)))] at hst4
  simp only [ed 17 ((dTn (hD 1 lq)).1), ed 20 ((dTn (hD 4 lq)).1)] at hfr
  clear hD; subst hfr; clear σ β X
  refine then_normal (wp_seq (wp_region_Y [0, 1, 3, 7, 15] [[], [1], [], [], [2]] [[], [3], [], [], [4]] [[], [1], [], [], [2]] [.k 23 (vp B10_2), .a 24, .c 25 (.bool ((numS s 5 1 : Int) == 1)), .k 26 (.pointer (some ⟨B5_3, 4, none⟩)), .n] (fun ix σ β X => match ix with | 0 => True | 1 => σ 24 = vi ((numS s 5 1 : Int)) ∧ X 3 = eB B10_2 168 #[.string s, vi 6, .bool false] | 2 => True | 3 => True | 4 => X 4 = eB B5_3 41 #[vi ((numS s 0 1 : Int)), vi ((numS s 1 1 : Int)), vi ((numS s 2 2 : Int) - 1), vi ((numS s 4 1 : Int)), .bool ((numS s 5 1 : Int) == 1), .slice none 0 0] | _ => True) [0, 3, 4] [1, 2, 4] [(23, 0, 4, 27)] hst4 ?_ ?_ ?_))
  · exact fun ix _ _ _ _ _ _ hs hb hx h => match ix, h with
    | 1, h => by dsimp only at h ⊢; rw [← hs 24 rfl, ← hx 3 rfl]; exact h
    | 4, h => by dsimp only at h ⊢; rw [← hx 4 rfl]; exact h
    | 0, _ | 2, _ | 3, _ | _ + 5, _ => trivial
  · refine ⟨?_, ?_, ?_, trivial⟩
    · refine sv_any rfl rfl fun ρ β W X cx => ?_
      refine DoesU.call (run_callF (args := #[vp B10_2, vi 1]) rfl cx.sees rfl (by kernel_rfl) (map2 (cx.an 0) (cx.co _))) ?_
      refine (num_ok _ s 5 1 _ ⟨(cx.bi 1 rfl), by omega, by omega⟩ (by omega) (by omega)).mono ?_
      rintro e W1 ⟨rfl, hrd, hu⟩
      refine ⟨_, rfl, post_mut (cx.init 1 _ rfl) rfl rfl hu hrd.1 (fun σ β' X' hs hb hv hx => ?_)⟩
      exact ⟨(hv 24 rfl).1.trans rfl, hx⟩
    · exact xs4 rfl id fun cx => run_bin rfl (dTn (cx.an 1)).1 (cx.co _) rfl
    · refine sv_any rfl rfl fun ρ β W X cx => ?_
      exact dv_store (n := 1) rfl (cx.an 3) (cx.an 2) (by kernel_rfl) (by kernel_rfl) (by kernel_rfl) cx (cx.init 2 _ rfl) rfl (nle rfl) (by kernel_rfl) rfl rfl rfl (fun σ β' X' hs hb hx => hx)
  intro σ β X W5 hD hst5 fr hfr
  simp only [exq 3 ((dTn (hD 1 lq)).2), exq 4 ((dTn (hD 4 lq)))] at hst5
  simp only [ed 24 ((dTn (hD 1 lq)).1)] at hfr
  clear hD; subst hfr; clear σ β X
  refine then_normal (wp_seq (wp_region_Y [0, 1, 3] [[], [1]] [[], [3]] [[], [1]] [.k 27 (vp B10_2), .a 28, .c 6 (.string (textS s 6))] (fun ix σ β X => match ix with | 0 => True | 1 => σ 28 = .string (textS s 6) ∧ X 3 = eB B10_2 168 #[.string s, vi (((6 + 2 + numS s 6 2 : Nat) : Int)), .bool false] | _ => True) [0, 2, 3] [1, 2] [(6, 2, 1, 7), (20, 0, 2, 22)] hst5 ?_ ?_ ?_))
  · exact fun ix _ _ _ _ _ _ hs hb hx h => match ix, h with
    | 1, h => by dsimp only at h ⊢; rw [← hs 28 rfl, ← hx 3 rfl]; exact h
    | 0, _ | _ + 2, _ => trivial
  · refine ⟨?_, ?_, trivial⟩
    · refine sv_any rfl rfl fun ρ β W X cx => ?_
      refine DoesU.call (run_callF (args := #[vp B10_2]) rfl cx.sees rfl (by kernel_rfl) (map1 (cx.an 0))) ?_
      refine (text_ok _ s 6 _ ⟨(cx.bi 1 rfl), by omega, by omega⟩ (by omega) (by omega)).mono ?_
      rintro e W1 ⟨rfl, hrd, hu⟩
      refine ⟨_, rfl, post_mut (cx.init 1 _ rfl) rfl rfl hu hrd.1 (fun σ β' X' hs hb hv hx => ?_)⟩
      exact ⟨(hv 28 rfl).1.trans rfl, hx⟩
    · exact xs4 rfl id fun cx => run_assign' rfl (dTn (cx.an 1)).1
  intro σ β X W6 hD hst6 fr hfr
  simp only [exq 3 ((dTn (hD 1 lq)).2)] at hst6
  simp only [ed 28 ((dTn (hD 1 lq)).1)] at hfr
  clear hD; subst hfr; clear σ β X
  refine then_normal (wp_seq (wp_seq (wp_region_Y [0, 1] [[], [2]] [] [] [.k 29 (vp B10_2), .a 30] (fun ix σ β X => match ix with | 0 => True | 1 => σ 30 = .bool false | _ => True) [0, 1, 2] [1] [(29, 0, 2, 31)] hst6 ?_ ?_ ?_)))
  · exact fun ix _ _ _ _ _ _ hs hb hx h => match ix, h with
    | 1, h => (hs _ rfl).symm.trans h
    | 0, _ | _ + 2, _ => trivial
  · refine ⟨?_, trivial⟩
    · refine sv_any rfl rfl fun ρ β W X cx => ?_
      refine DoesU.call (run_callF (args := #[vp B10_2]) rfl cx.sees rfl (by kernel_rfl) (map1 (cx.an 0))) ?_
      refine (failed_any _ s (((6 + 2 + numS s 6 2 : Nat))) false _ ⟨(cx.bi 2 rfl), by omega, by omega⟩).mono ?_
      rintro e W1 ⟨rfl, rfl⟩
      refine ⟨_, rfl, post_call [] rfl rfl (Ext.refl _) (by simp) List.Pairwise.nil (fun σ β' X' hs hb hv hN => ?_)⟩
      have hv1 := (hv 30 rfl).1; have hv2 := (hv 30 rfl).2
      exact hv1.trans rfl
  intro σ β X W7 hD hst7 fr hfr
  simp only [ed 30 ((dTn (hD 1 lq)))] at hfr
  clear hD; subst hfr; clear σ β X
  refine then_normal (wp_cond_false (show Act.eval _ _ = .bool false from rfl) (wp_skip (then_normal (wp_seq (wp_region_Y [0, 1, 3, 7, 7, 15, 63] [] [[], [3]] [] [.k 33 (.string (textS s 6)), .a 34, .a 32, .a 35, .c 36 (vi 0), .a 7, .k 8 (vi 0)] (fun ix σ β X => match ix with | 0 => True | 1 => σ 34 = .tuple #[.slice (sA (tg (β 34) 0)) rs.length (sC (tg (β 34) 0)), vi 0] ∧ X 3 = eO 82 3 (.slice (sA (tg (β 34) 0)) rs.length (sC (tg (β 34) 0))) rs.length (flatR rs) | 2 => σ 32 = .tuple #[.slice (sA (tg (β 34) 0)) rs.length (sC (tg (β 34) 0)), vi 0] | 3 => σ 35 = .slice (sA (tg (β 34) 0)) rs.length (sC (tg (β 34) 0)) | 4 => True | 5 => σ 7 = .slice (sA (tg (β 34) 0)) rs.length (sC (tg (β 34) 0)) | _ => True) [0, 1, 2, 3] [1, 2, 3, 4, 5] [(7, 5, 2, 9), (23, 2, 1, 24), (0, 0, 2, 2), (0, 3, 2, 2)] hst7 ?_ ?_ ?_)))))
  · exact fun ix _ _ _ _ _ _ hs hb hx h => match ix, h with
    | 1, h => by dsimp only at h ⊢; rw [← hs 34 rfl, ← hb 34 rfl, ← hx 3 rfl]; exact h
    | 2, h => by dsimp only at h ⊢; rw [← hs 32 rfl, ← hb 34 rfl]; exact h
    | 3, h => by dsimp only at h ⊢; rw [← hs 35 rfl, ← hb 34 rfl]; exact h
    | 5, h => by dsimp only at h ⊢; rw [← hs 7 rfl, ← hb 34 rfl]; exact h
    | 0, _ | 4, _ | _ + 6, _ => trivial
  · refine ⟨?_, ?_, ?_, ?_, ?_, trivial⟩
    · refine sv_any rfl rfl fun ρ β W X cx => ?_
      refine DoesU.call (run_callF (args := #[.string (textS s 6)]) rfl cx.sees rfl (by kernel_rfl) (map1 (cx.an 0))) ?_
      refine (HV _).mono ?_
      rintro e W1 ⟨A4, c4, rfl, ho, hx⟩
      refine ⟨_, rfl, post_call [eO 82 3 (.slice A4 rs.length c4) rs.length (flatR rs)] rfl rfl hx (one_new (eO_new ho)) (List.pairwise_singleton _ _) (fun σ β' X' hs hb hv hN => ?_)⟩
      have hv1 := (hv 34 rfl).1; have hv2 := (hv 34 rfl).2
      exact ⟨hv1.trans (by rw [hv2]; rfl), (by rw [hv2]; exact (List.cons.inj hN).1)⟩
    · exact sv rfl rfl rfl rfl rfl _ (fun _ _ _ h => h) (fun β β' h => by rw [h 34 (by decide)]) fun ρ β W X cx => run_move' rfl (dTn (cx.an 1)).1
    · exact sv rfl rfl rfl rfl rfl _ (fun _ _ _ h => h) (fun β β' h => by rw [h 34 (by decide)]) fun ρ β W X cx => run_extract' rfl (dTn (cx.an 2)) rfl
    · exact xs4 rfl id fun cx => run_extract' rfl (dTn (cx.an 2)) rfl
    · exact sv rfl rfl rfl rfl rfl _ (fun _ _ _ h => h) (fun β β' h => by rw [h 34 (by decide)]) fun ρ β W X cx => run_assign' rfl (dTn (cx.an 3))
  intro σ β X W8 hD hst8 fr hfr
  obtain ⟨A34_8, hu_A34_8⟩ : ∃ z, sA (tg (β 34) 0) = z := ⟨_, rfl⟩
  obtain ⟨c34_8, hu_c34_8⟩ : ∃ z, sC (tg (β 34) 0) = z := ⟨_, rfl⟩
  simp only [exq 3 ((dTn (hD 1 lq)).2), hu_A34_8, hu_c34_8] at hst8
  simp only [ed 34 ((dTn (hD 1 lq)).1), ed 32 ((dTn (hD 2 lq))), ed 35 ((dTn (hD 3 lq))), ed 7 ((dTn (hD 5 lq))), hu_A34_8, hu_c34_8] at hfr
  clear hD hu_A34_8 hu_c34_8; subst hfr; clear σ β X
  refine then_normal (wp_seq (wp_region_Y [0, 1, 3] [[], [], [1]] [[], [], [4]] [[], [], [1]] [.k 37 (.slice A34_8 rs.length c34_8), .k 38 (.pointer (some ⟨B5_3, 5, none⟩)), .n] (fun ix σ β X => match ix with | 0 => True | 1 => True | 2 => X 4 = eB B5_3 41 #[vi ((numS s 0 1 : Int)), vi ((numS s 1 1 : Int)), vi ((numS s 2 2 : Int) - 1), vi ((numS s 4 1 : Int)), .bool ((numS s 5 1 : Int) == 1), .slice A34_8 rs.length c34_8] | _ => True) [0, 2, 3, 4] [2] [(37, 0, 2, 39)] hst8 ?_ ?_ ?_))
  · exact fun ix _ _ _ _ _ _ hs hb hx h => match ix, h with
    | 2, h => by dsimp only at h ⊢; rw [← hx 4 rfl]; exact h
    | 0, _ | 1, _ | _ + 3, _ => trivial
  · refine ⟨?_, trivial⟩
    · refine sv_any rfl rfl fun ρ β W X cx => ?_
      exact dv_store (n := 1) rfl (cx.an 1) (cx.an 0) (by kernel_rfl) (by kernel_rfl) (by kernel_rfl) cx (cx.init 1 _ rfl) rfl (nle rfl) (by kernel_rfl) rfl rfl rfl (fun σ β' X' hs hb hx => hx)
  intro σ β X W9 hD hst9 fr hfr
  simp only [exq 4 ((dTn (hD 2 lq)))] at hst9
  clear hD; subst hfr; clear σ β X
  refine then_normal (wp_seq (wp_seq ?_))
  have hd11 : (!((tbytesF (numS s 0 1 : Int) (numS s 1 1 : Int) ((numS s 2 2 : Int) - 1) (numS s 4 1 : Int) ((numS s 5 1 : Int) == 1) rs).toList == s.toList)) = false := by rw [hB]; simp
  refine wp_region_Z [0, 1, 3, 7, 15, 7, 63, 127] [[], [], [], [3], [2]] [.k 39 (vi 0), .k 40 (.bool false), .k 41 (.bool false), .c 42 (.agg #[vi ((numS s 0 1 : Int)), vi ((numS s 1 1 : Int)), vi ((numS s 2 2 : Int) - 1), vi ((numS s 4 1 : Int)), .bool ((numS s 5 1 : Int) == 1), .slice A34_8 rs.length c34_8]), .c 43 (.string (tbytesF (numS s 0 1 : Int) (numS s 1 1 : Int) ((numS s 2 2 : Int) - 1) (numS s 4 1 : Int) ((numS s 5 1 : Int) == 1) rs)), .k 44 (.string s), .e 45 (.bool (!((tbytesF (numS s 0 1 : Int) (numS s 1 1 : Int) ((numS s 2 2 : Int) - 1) (numS s 4 1 : Int) ((numS s 5 1 : Int) == 1) rs).toList == s.toList))) (.bool false) (congrArg Value.bool hd11), .k 46 (.bool false)] [0, 1, 2, 3] [3, 4] [(39, 0, 8, 47)] hst9 ?_ fun W10 hst10 => ?_
  · refine ⟨?_, ?_, trivial⟩
    · exact xs5 rfl id (fun cx => (cx.an 2)) fun cx => run_loadB (n := 6) rfl (by kernel_rfl) (by kernel_rfl) (cx.ou 5) (cx.bi 3 rfl) (nle rfl) rfl
    · exact sv_call_on rfl rfl rfl rfl rfl rfl (fun _ _ _ h => h) (fun _ _ _ _ cx => (cx.an 2)) fun ρ β W X cx => ⟨_, _, run_callF (args := #[.agg #[vi ((numS s 0 1 : Int)), vi ((numS s 1 1 : Int)), vi ((numS s 2 2 : Int) - 1), vi ((numS s 4 1 : Int)), .bool ((numS s 5 1 : Int) == 1), .slice A34_8 rs.length c34_8]]) rfl cx.sees rfl (by kernel_rfl) (map1 (cx.an 3)), tbytes_any (numS s 0 1 : Int) (numS s 1 1 : Int) ((numS s 2 2 : Int) - 1) (numS s 4 1 : Int) ((numS s 5 1 : Int) == 1) _ _ rs _ (At.of_ownN (cx.ri 2 rfl)) (by omega) (hN.ext cx.upd.to_ext)⟩
  refine then_normal (wp_cond_false (show Act.eval _ _ = .bool false from rfl) (wp_skip (then_normal (wp_seq (wp_region_Y [0, 1, 3] [[3], [0]] [[], [4]] [[], [0]] [.c 48 (.agg #[vi ((numS s 0 1 : Int)), vi ((numS s 1 1 : Int)), vi ((numS s 2 2 : Int) - 1), vi ((numS s 4 1 : Int)), .bool ((numS s 5 1 : Int) == 1), .slice A34_8 rs.length c34_8]), .n, .k 3 (vi 0)] (fun ix σ β X => match ix with | 0 => True | 1 => X 4 = eB B2_1 41 #[vi ((numS s 0 1 : Int)), vi ((numS s 1 1 : Int)), vi ((numS s 2 2 : Int) - 1), vi ((numS s 4 1 : Int)), .bool ((numS s 5 1 : Int) == 1), .slice A34_8 rs.length c34_8] | _ => True) [1, 2, 3, 4] [0, 1] [(3, 2, 1, 4), (44, 0, 1, 45)] hst10 ?_ ?_ ?_)))))
  · exact fun ix _ _ _ _ _ _ hs hb hx h => match ix, h with
    | 1, h => by dsimp only at h ⊢; rw [← hx 4 rfl]; exact h
    | 0, _ | _ + 2, _ => trivial
  · refine ⟨?_, ?_, trivial⟩
    · exact xs4 rfl id fun cx => run_loadB (n := 6) rfl (by kernel_rfl) (by kernel_rfl) (cx.ou 5) (cx.bi 3 rfl) (nle rfl) rfl
    · refine sv_any rfl rfl fun ρ β W X cx => ?_
      exact dv_store (n := 6) rfl (cx.ou 2) (cx.an 0) (by kernel_rfl) (by kernel_rfl) (by kernel_rfl) cx (cx.init 0 _ rfl) rfl (nle rfl) (by kernel_rfl) rfl rfl rfl (fun σ β' X' hs hb hx => hx)
  intro σ β X W12 hD hst12 fr hfr
  simp only [exq 4 ((dTn (hD 1 lq)))] at hst12
  clear hD; subst hfr; clear σ β X
  refine then_normal (wp_ret ?_)
  have hr13 : W12.cell? ⟨B2_1, 0, none⟩ = some (vi ((numS s 0 1 : Int))) := (hst12.blk 3 rfl).cell 0
  have hr14 : W12.cell? ⟨B2_1, 1, none⟩ = some (vi ((numS s 1 1 : Int))) := (hst12.blk 3 rfl).cell 1
  have hr15 : W12.cell? ⟨B2_1, 2, none⟩ = some (vi ((numS s 2 2 : Int) - 1)) := (hst12.blk 3 rfl).cell 2
  have hr16 : W12.cell? ⟨B2_1, 3, none⟩ = some (vi ((numS s 4 1 : Int))) := (hst12.blk 3 rfl).cell 3
  have hr17 : W12.cell? ⟨B2_1, 4, none⟩ = some (.bool ((numS s 5 1 : Int) == 1)) := (hst12.blk 3 rfl).cell 4
  have hr18 : W12.cell? ⟨B2_1, 5, none⟩ = some (.slice A34_8 rs.length c34_8) := (hst12.blk 3 rfl).cell 5
  refine bodyPost_ret (v := .tuple #[.agg #[vi ((numS s 0 1 : Int)), vi ((numS s 1 1 : Int)), vi ((numS s 2 2 : Int) - 1), vi ((numS s 4 1 : Int)), .bool ((numS s 5 1 : Int) == 1), .slice A34_8 rs.length c34_8], vi 0]) (by simp [results, Tryd.results35, go_sem, hr13, hr14, hr15, hr16, hr17, hr18]) rfl ?_
  exact ⟨_, _, rfl, hst12.own' 1 rfl, hst12.ext⟩
end
end Go.Proofs.YtjnplglnnamfdaaDoor
namespace Go.Proofs.YtjnplglnnamfdaaDoor
section
open Go.RowKit
set_option linter.unusedVariables false
set_option linter.unusedSimpArgs false
theorem bl_strL (l : List UInt8) : bl (strL l) = l := by simp [bl, strL]
theorem bl_catS (l : List ByteArray) : bl (catS l) = l.flatMap bl := by rw [catS, bl_strL]; rfl
theorem putS_bl (n : Int) (k : Nat) (h : k ≤ 8) : (bl (putS n k)).length = k := by rw [bl_len, putS_size n k h]
theorem hot_bd (ho : Bool) : 0 ≤ hotI ho ∧ hotI ho ≤ 1 := by cases ho <;> decide
theorem hot_eq (ho : Bool) : (hotI ho == 1) = ho := by cases ho <;> rfl
section
variable {a b n1 n2 : Int} {ho : Bool} {rs : List Val}
theorem tb_bl (h : trightF a b n1 n2 rs = true) : bl (tbytesF a b n1 n2 ho rs) = bl (putS a 1) ++ (bl (putS b 1) ++ (bl (putS (n1 + 1) 2) ++ (bl (putS n2 1) ++ (bl (putS (hotI ho) 1) ++ (bl (putS (vbytesF rs).size 2) ++ bl (vbytesF rs)))))) := by
  rw [tbytesF, if_pos h, bl_catS]
  simp [textO, bl_append]
theorem tb_size (h : trightF a b n1 n2 rs = true) : (tbytesF a b n1 n2 ho rs).size = 8 + (vbytesF rs).size := by
  rw [← bl_len, tb_bl h]
  simp only [List.length_append, putS_bl _ 1 (by omega), putS_bl _ 2 (by omega), bl_len]
  omega
theorem tb_0 (h : trightF a b n1 n2 rs = true) : (numS (tbytesF a b n1 n2 ho rs) 0 1 : Int) = a := by
  have hp := tright_parts h
  rw [numS_at (a := []) (p := 0) (tb_bl h) rfl (putS_bl _ 1 (by omega)), putS_num1 a (by omega) (by omega)]
theorem tb_1 (h : trightF a b n1 n2 rs = true) : (numS (tbytesF a b n1 n2 ho rs) 1 1 : Int) = b := by
  have hp := tright_parts h
  rw [numS_at (a := bl (putS a 1)) (p := 1) (tb_bl h) (putS_bl _ 1 (by omega)) (putS_bl _ 1 (by omega)), putS_num1 b (by omega) (by omega)]
theorem tb_2 (h : trightF a b n1 n2 rs = true) : (numS (tbytesF a b n1 n2 ho rs) 2 2 : Int) = n1 + 1 := by
  have hp := tright_parts h
  rw [numS_at (p := 2) (a := bl (putS a 1) ++ bl (putS b 1)) (by rw [tb_bl h, List.append_assoc]) (by rw [List.length_append, putS_bl _ 1 (by omega), putS_bl _ 1 (by omega)]) (putS_bl _ 2 (by omega)), putS_num2 (n1 + 1) (by omega) (by omega)]
theorem tb_4 (h : trightF a b n1 n2 rs = true) : (numS (tbytesF a b n1 n2 ho rs) 4 1 : Int) = n2 := by
  have hp := tright_parts h
  rw [numS_at (p := 4) (a := bl (putS a 1) ++ (bl (putS b 1) ++ bl (putS (n1 + 1) 2))) (b := bl (putS n2 1)) (c := bl (putS (hotI ho) 1) ++ (bl (putS (vbytesF rs).size 2) ++ bl (vbytesF rs))) (by rw [tb_bl h]; simp) (by simp only [List.length_append, putS_bl _ 1 (by omega), putS_bl _ 2 (by omega)]) (putS_bl _ 1 (by omega)), putS_num1 n2 (by omega) (by omega)]
theorem tb_5 (h : trightF a b n1 n2 rs = true) : (numS (tbytesF a b n1 n2 ho rs) 5 1 : Int) = hotI ho := by
  have hp := tright_parts h
  have hh := hot_bd ho
  rw [numS_at (p := 5) (a := bl (putS a 1) ++ (bl (putS b 1) ++ (bl (putS (n1 + 1) 2) ++ bl (putS n2 1)))) (b := bl (putS (hotI ho) 1)) (c := (bl (putS (vbytesF rs).size 2) ++ bl (vbytesF rs))) (by rw [tb_bl h]; simp) (by simp only [List.length_append, putS_bl _ 1 (by omega), putS_bl _ 2 (by omega)]) (putS_bl _ 1 (by omega)), putS_num1 (hotI ho) (by omega) (by omega)]
theorem tb_6 (h : trightF a b n1 n2 rs = true) : numS (tbytesF a b n1 n2 ho rs) 6 2 = (vbytesF rs).size := by
  have hv := vbytes_size rs
  have e := numS_at (s := tbytesF a b n1 n2 ho rs) (a := bl (putS a 1) ++ (bl (putS b 1) ++ (bl (putS (n1 + 1) 2) ++ (bl (putS n2 1) ++ bl (putS (hotI ho) 1))))) (b := bl (putS (vbytesF rs).size 2)) (c := bl (vbytesF rs)) (by rw [tb_bl h]; simp) (p := 6) (by simp only [List.length_append, putS_bl _ 1 (by omega), putS_bl _ 2 (by omega)]) (putS_bl _ 2 (by omega))
  have e2 := putS_num2 ((vbytesF rs).size : Int) (by omega) (by omega)
  rw [e]; omega
theorem tb_t (h : trightF a b n1 n2 rs = true) : textS (tbytesF a b n1 n2 ho rs) 6 = vbytesF rs := by
  have e : bl (tbytesF a b n1 n2 ho rs) = (bl (putS a 1) ++ (bl (putS b 1) ++ (bl (putS (n1 + 1) 2) ++ (bl (putS n2 1) ++ (bl (putS (hotI ho) 1) ++ bl (putS (vbytesF rs).size 2)))))) ++ (bl (vbytesF rs) ++ []) := by rw [tb_bl h]; simp
  rw [textS, tb_6 h, extr_at e (p := 6 + 2) (by simp only [List.length_append, putS_bl _ 1 (by omega), putS_bl _ 2 (by omega)]) (by rw [bl_len]), baOf_bl]
theorem plain_right (v : Val) : vrightF (plainV v) = vrightF v := by
  simp only [vrightF, plainV]
  by_cases h : v.1 = 2
  · simp [h]
  · have : (v.1 != 2) = true := by simpa using h
    rw [this]; simp
theorem plain_rright (rs : List Val) : rrightF (plainR rs) = rrightF rs := by
  simp only [rrightF, plainR, List.all_map, List.length_map]
  congr 2
  funext v
  exact plain_right v
theorem plain_valB (v : Val) : valB (plainV v) = valB v := by
  simp only [valB, plainV]
  by_cases h1 : v.1 = 1
  · simp [h1]
  · by_cases h2 : v.1 = 2
    · simp [h2]
    · simp [h1, h2]
theorem plain_vbytes (rs : List Val) : vbytesF (plainR rs) = vbytesF rs := by
  simp only [vbytesF, plain_rright]
  split
  · have hv : plainR rs = rs.map plainV := rfl
    simp only [bytesTo, plainR, List.length_map, ← List.map_take, List.flatMap_map]
    congr 2
    congr 1
    funext v
    exact plain_valB v
  · rfl
theorem plain_tright : trightF a b n1 n2 (plainR rs) = trightF a b n1 n2 rs := by rw [trightF, trightF, plain_rright]
theorem plain_tbytes : tbytesF a b n1 n2 ho (plainR rs) = tbytesF a b n1 n2 ho rs := by rw [tbytesF, tbytesF, plain_tright, plain_vbytes]
def NsOk (rs : List Val) : Prop := ∀ v ∈ rs, v.1 = 1 → -9223372036854775808 ≤ v.2.1 ∧ v.2.1 ≤ 9223372036854775807
theorem tread_of (w : World) (h : trightF a b n1 n2 rs = true) (hrN : NsOk rs) (hN : NoneAt w) : Calls Tryd.prog 35 #[.string (tbytesF a b n1 n2 ho rs)] w (VerRd a b n1 n2 ho (plainR rs) 0 w) := by
  have hr := (tright_parts h).2.2.2.2.2.2.2.2
  have hl6 := rright_len hr
  have hv := vbytes_size rs
  have HV : ∀ w, Calls Tryd.prog 71 #[.string (textS (tbytesF a b n1 n2 ho rs) 6)] w (RdRow (plainR rs) w) := fun w => by
    rw [tb_t h, vbytes_eq hr]
    refine (vread_any rs _ w hr hrN (u8_int (by omega))).mono ?_
    rintro e w' ⟨A, c, he, ho', hx⟩
    have hlen : (plainR rs).length = rs.length := by simp [plainR]
    exact ⟨A, c, by rw [hlen]; exact he, by rw [hlen]; exact ho', hx⟩
  have h2 := tread_good (tbytesF a b n1 n2 ho rs) (plainR rs) w (by rw [tb_size h]; omega) (by rw [tb_size h]; omega) (by rw [tb_size h, tb_6 h]; omega) (by simp only [plainR, List.length_map]; omega) hN HV (by
    rw [tb_0 h, tb_1 h, tb_2 h, tb_4 h, tb_5 h, hot_eq, show n1 + 1 - 1 = n1 by omega]; exact plain_tbytes)
  rw [tb_0 h, tb_1 h, tb_2 h, tb_4 h, tb_5 h, hot_eq, show n1 + 1 - 1 = n1 by omega] at h2
  exact h2
end
end
end Go.Proofs.YtjnplglnnamfdaaDoor
namespace Go.Proofs.YtjnplglnnamfdaaDoor
section
open Go.RowKit
set_option linter.unusedVariables false
set_option linter.unusedSimpArgs false
def shN (N : Int) (k : Nat) : Int := N / 256 ^ k
theorem shN_0 (N : Int) : shN N 0 = N := by simp [shN]
theorem shN_succ (N : Int) (k : Nat) : (shN N k).fdiv (2 ^ 8) = shN N (k + 1) := by
  rw [shN, shN, Int.fdiv_eq_ediv_of_nonneg _ (by decide), Int.pow_succ]
  exact Int.ediv_ediv_of_nonneg (Int.le_of_lt (Int.pow_pos (by decide)))
theorem putS_0 (N : Int) : putS N 0 = ⟨#[]⟩ := rfl
theorem putS_succ (N : Int) {k : Nat} (h : k < 8) : putS N (k + 1) = strOfNums [shN N k % 256] ++ putS N k := by
  apply bl_inj
  rw [bl_append]
  unfold putS bl
  rw [strOfNums_data, strOfNums_data, strOfNums_data, ← List.map_append]
  congr 1
  have hu : IntKind.u64.wrap N = N % 18446744073709551616 := by rw [IntKind.wrap_u64]
  unfold oct8 shN
  rw [hu]
  rcases (by omega : k = 0 ∨ k = 1 ∨ k = 2 ∨ k = 3 ∨ k = 4 ∨ k = 5 ∨ k = 6 ∨ k = 7) with rfl | rfl | rfl | rfl | rfl | rfl | rfl | rfl <;>
    simp only [Nat.reduceSub, Nat.reduceAdd, Int.reducePow, List.drop_succ_cons, List.drop_zero, List.cons_append, List.nil_append, List.cons.injEq, and_true] <;> omega
theorem oneS_of {x : Int} : oneS (x % 256) = strOfNums [x % 256] := by rw [oneS, Int.emod_emod_of_dvd _ (Int.dvd_refl _)]
theorem strL_app (a b : List UInt8) : strL a ++ strL b = strL (a ++ b) := by apply bl_inj; rw [bl_append, bl_strL, bl_strL, bl_strL]
theorem oneS_strL {x : Int} (h : 0 ≤ x ∧ x < 256) : oneS x = strL [UInt8.ofNat x.toNat] := by
  rw [oneS, show x % 256 = x by omega]; rfl
theorem strL_bl (s : ByteArray) : s = strL s.data.toList := (strL_data s).symm
section
variable {P : Program} {o : Oper} {ρ : Operand → Value} {W : World}
theorem run_shr {t t' : TypeId} {x y : Operand} {k k' : IntKind} {a b z : Int} (h : o.op = .binOp .shr t x y t') (hx : ρ x = .int k a) (hy : ρ y = .int k' b) (hb : 0 ≤ b) (hz : a.fdiv (2 ^ min b.toNat k.bits) = z) : (execOp ρ o).run P W = .ok (.value (.int k z)) W := by
  subst hz
  unfold execOp; rw [h]
  have : ¬ b < 0 := by omega
  simp [hx, hy, eqGuard, binOp, Op.shift, this]
end
theorem tb_cat {a b n1 n2 : Int} {ho : Bool} {rs : List Val} (h : trightF a b n1 n2 rs = true) : ((((((putS a 1 ++ putS b 1) ++ putS (n1 + 1) 2) ++ putS n2 1) ++ putS (hotI ho) 1) ++ putS ((vbytesF rs).size : Int) 2) ++ vbytesF rs) = tbytesF a b n1 n2 ho rs := by
  apply bl_inj
  rw [tb_bl h]
  simp only [bl_append, List.append_assoc]
set_option maxRecDepth 100000 in
set_option maxHeartbeats 2000000 in
theorem r02right_any (v : Val) (w : World) :
    Calls Tryd.prog 115 #[.agg #[.int .i64 v.1, .int .i64 v.2.1, .string v.2.2]] w (Ret (.bool (vrightF v)) w) := by
  go_enter Tryd.func115, Tryd.ntmps115
  have hst0 := St.start w
  refine wp_seq (wp_region_Y [0, 0] [] [[0]] [] [.a 1, .k 2 (.bool false)] (fun ix σ β X => match ix with | 0 => σ 1 = vp (pb (β 1)) ∧ X 0 = eB (pb (β 1)) 82 #[vi v.1, vi v.2.1, .string v.2.2] | _ => True) [0] [0] [(1, 0, 2, 3)] hst0 ?_ ?_ ?_)
  · exact fun ix _ _ _ _ _ _ hs hb hx h => match ix, h with
    | 0, h => by dsimp only at h ⊢; rw [← hs 1 rfl, ← hb 1 rfl, ← hx 0 rfl]; exact h
    | _ + 1, _ => trivial
  · refine ⟨?_, trivial⟩
    · refine sv_any rfl rfl fun ρ β W X cx => ?_
      exact dv_box (cs := #[vi v.1, vi v.2.1, .string v.2.2]) rfl (cx.ou 0) rfl rfl rfl (fun σ β' X' hs hb hv hx => ⟨hv, hx⟩)
  intro σ β X W1 hD hst1 fr hfr
  obtain ⟨B1_1, hu_B1_1⟩ : ∃ z, pb (β 1) = z := ⟨_, rfl⟩
  simp only [exq 0 ((dTn (hD 0 lq)).2), hu_B1_1] at hst1
  simp only [ed 1 ((dTn (hD 0 lq)).1), hu_B1_1] at hfr
  clear hD hu_B1_1; subst hfr; clear σ β X
  refine then_normal (wp_seq (wp_region_Z [0, 1, 3, 7, 15, 31, 63, 127, 255, 511, 1023, 2047, 4095, 8191, 16383, 32767, 65535, 131071, 262143, 524287] [[], [0], [], [], [], [0], [], [], [], [], [0], [], [], [], [0]] [.k 3 (vp B1_1), .c 4 (vi v.1), .k 5 (.bool (v.1 == 0)), .k 6 (.bool (v.1 == 0)), .z 7 (!(v.1 == 0)) (vp B1_1), .y 8 (!(v.1 == 0)) (vi v.1), .z 9 (!(v.1 == 0)) (.bool (v.1 == 1)), tO 10 (v.1 == 0) (v.1 == 1), .k 11 (.bool ((v.1 == 0) || (v.1 == 1))), .z 12 (!((v.1 == 0) || (v.1 == 1))) (vp B1_1), .y 13 (!((v.1 == 0) || (v.1 == 1))) (vi v.1), .z 14 (!((v.1 == 0) || (v.1 == 1))) (.bool (v.1 == 2)), .z 15 (!((v.1 == 0) || (v.1 == 1))) (.bool (v.1 == 2)), .z 16 ((!((v.1 == 0) || (v.1 == 1))) && (v.1 == 2)) (.pointer (some ⟨B1_1, 2, none⟩)), .y 17 ((!((v.1 == 0) || (v.1 == 1))) && (v.1 == 2)) (.string v.2.2), .z 18 ((!((v.1 == 0) || (v.1 == 1))) && (v.1 == 2)) (vi ((v.2.2.size : Int))), .z 19 ((!((v.1 == 0) || (v.1 == 1))) && (v.1 == 2)) (.bool (decide ((v.2.2.size : Int) ≤ 40))), .y 20 (!((v.1 == 0) || (v.1 == 1))) (.bool ((v.1 == 2) && (decide ((v.2.2.size : Int) ≤ 40)))), tO 21 ((v.1 == 0) || (v.1 == 1)) ((v.1 == 2) && (decide ((v.2.2.size : Int) ≤ 40))), .k 2 (.bool (((v.1 == 0) || (v.1 == 1)) || ((v.1 == 2) && (decide ((v.2.2.size : Int) ≤ 40)))))] [0] [1, 5, 10, 14, 17] [(2, 19, 1, 3), (0, 0, 19, 19)] hst1 ?_ fun W2 hst2 => ?_))
  · refine ⟨?_, ?_, ?_, ?_, ?_, trivial⟩
    · exact xs4 rfl id fun cx => run_load1 rfl (by kernel_rfl) (cx.an 0) ((cx.bi 0 rfl).cell 0)
    · exact m2 rfl (fun _ _ _ h => h) (fun cx => (cx.an 3)) fun cx hq => run_load1 rfl (by kernel_rfl) (mbv (cx.an 4) hq) ((cx.bi 0 rfl).cell 0)
    · exact m2 rfl (fun _ _ _ h => h) (fun cx => (cx.an 8)) fun cx hq => run_load1 rfl (by kernel_rfl) (mbv (cx.an 9) hq) ((cx.bi 0 rfl).cell 0)
    · exact m0 rfl (fun _ _ _ h => h) (fun cx => (cx.an 12)) fun cx hq => run_load1 rfl (by kernel_rfl) (mbv (cx.an 13) hq) ((cx.bi 0 rfl).cell 2)
    · exact m2 rfl (fun _ _ _ h => h) (fun cx => (cx.an 8)) fun cx hq => run_pick_and rfl (mbv (cx.an 12) hq) (cx.an 16) (fun e_ => by rw [hq, e_]; rfl) (cx.co _)
  refine then_normal (wp_ret ?_)
  refine bodyPost_ret (v := .bool (((v.1 == 0) || (v.1 == 1)) || ((v.1 == 2) && (decide ((v.2.2.size : Int) ≤ 40))))) (results_tmp Tryd.results115 rfl) rfl ?_
  exact Ret.bool (Bool.eq_iff_iff.2 (by simp [vrightF, knownF]; omega)) hst2.ext
set_option maxRecDepth 100000 in
set_option maxHeartbeats 2000000 in
theorem r02row_any (RA : Option Addr) (rc : Nat) (rs : List Val) (w : World) (hA : At w RA (flatR rs)) (hlr : rs.length ≤ 9223372036854775807) :
    Calls Tryd.prog 106 #[.slice RA rs.length rc] w (Ret (.bool (rrightF rs)) w) := by
  go_enter Tryd.func106, Tryd.ntmps106
  have hst0 := St.start w
  refine wp_seq (wp_region_P [0] [.k 2 (.bool false)] [(2, 0, 1, 3)] hst0 fun W1 hst1 => ?_)
  refine then_normal (wp_seq (wp_seq (wp_region_P [0] [.k 3 (vi 0)] [(3, 0, 1, 4)] hst1 fun W2 hst2 => ?_)))
  refine then_normal (wp_block ?_)
  refine wp_loopN (fun mz az W => ∃ k : Nat, ∃ u3_ : List Value, k ≤ rs.length ∧ (rs.take k).all vrightF = true ∧ mz = rs.length - k ∧ az = ⟨#[.slice RA rs.length rc, undef, (gu u3_ 0), vi ((k : Int)), (gu u3_ 1), (gu u3_ 2), (gu u3_ 3), (gu u3_ 4), (gu u3_ 5), (gu u3_ 6), (gu u3_ 7), (gu u3_ 8), (gu u3_ 9), (gu u3_ 10), (gu u3_ 11), (gu u3_ 12), undef, undef, undef], []⟩ ∧ St w [] [] W) (rs.length - 0) ?_ ?_
  · -- the loop begins
    have hp4 := hst2.pick [] (by decide) rfl
    exact ⟨0, [.bool false, undef, undef, undef, undef, undef, undef, undef, undef, undef, undef, undef, undef], by omega, rfl, rfl, rfl, hp4⟩
  rintro n3 a3 W3 ⟨k, u3_, hk, hka, rfl, rfl, hst3⟩
  refine wp_seq (wp_seq (wp_region_P [0, 0, 2, 7] [.k 4 (vi ((k : Int))), .k 5 (.slice RA rs.length rc), .k 6 (vi ((rs.length : Int))), .k 7 (.bool (decide ((k : Int) < (rs.length : Int))))] [(4, 0, 4, 8)] hst3 fun W5 hst5 => ?_))
  refine then_normal ?_
  rcases Bool.eq_false_or_eq_true (decide ((k : Int) < (rs.length : Int))) with hs6 | hs6
  · skip
    have hs6p : (k : Int) < (rs.length : Int) := by simpa using hs6
    refine wp_cond_true (show Act.eval _ _ = .bool true from (congrArg Value.bool hs6)) (wp_skip (then_normal (wp_seq (wp_block (wp_seq (wp_region_Z [0, 0, 3, 7, 15, 31] [] [.k 10 (.slice RA rs.length rc), .k 11 (vi ((k : Int))), .c 12 (.pointer (some ((ad RA).add (k * 3)))), .c 13 (.agg #[vi ((rs.getD k v0).1), vi ((rs.getD k v0).2.1), .string ((rs.getD k v0).2.2)]), .c 14 (.bool (vrightF (rs.getD k v0))), .k 15 (.bool (!(vrightF (rs.getD k v0))))] [] [2, 3, 4] [(10, 0, 6, 16)] hst5 ?_ fun W7 hst7 => ?_))))))
    · refine ⟨?_, ?_, ?_, trivial⟩
      · exact xs4 rfl id fun cx => run_indexSlM (e := 82) (m := k) (sz := 3) rfl (by kernel_rfl) (by kernel_rfl) (cx.an 0) (cx.an 1) (by omega) (by omega) (hA.ext cx.upd.to_ext) (by have h_ := flatLen (f := cellsV) (sz := 3) cellsV_len rs; show 0 < (List.flatMap cellsV rs).length; omega)
      · exact xs4 rfl id fun cx => run_loadElt (f := cellsV) (m := k) (sz := 3) (off := 0) (n := 3) rfl (by kernel_rfl) (by kernel_rfl) (cx.an 2) rfl cellsV_len (hA.ext cx.upd.to_ext) (getD_some (ts := rs) (m := k) v0 (by omega)) (fun k hk => match k, hk with | 0, _ => rfl | 1, _ => rfl | 2, _ => rfl | k + 3, hk => absurd hk (by omega))
      · exact xsc rfl id rfl rfl fun cx => ⟨_, r02right_any (rs.getD k v0) _, (map1 (cx.an 3))⟩
    refine then_normal ?_
    rcases Bool.eq_false_or_eq_true (vrightF (rs.getD k v0)) with hs8 | hs8
    · skip
      refine wp_cond_false (show Act.eval _ _ = .bool false from (congrArg Value.bool (by rw [hs8]; rfl))) (wp_skip (blk_normal (then_normal (wp_region_P [0, 1, 3] [.k 8 (vi ((k : Int))), tI 9 ((k : Int) + 1) (by omega), .k 3 (vi ((k : Int) + 1))] [(3, 2, 1, 4), (4, 0, 2, 6)] hst7 fun W9 hst9 => ?_))))
      refine then_normal ?_
      refine ⟨rs.length - ((k + 1)), by omega, ?_⟩
      have hp10 := hst9.pick [] (by decide) rfl
      exact ⟨(k + 1), [(gu u3_ 0), vi ((k : Int)), .slice RA rs.length rc, vi ((rs.length : Int)), .bool (decide ((k : Int) < (rs.length : Int))), vi ((k : Int)), vi ((k : Int) + 1), .slice RA rs.length rc, vi ((k : Int)), .pointer (some ((ad RA).add (k * 3))), .agg #[vi ((rs.getD k v0).1), vi ((rs.getD k v0).2.1), .string ((rs.getD k v0).2.2)], .bool (vrightF (rs.getD k v0)), .bool (!(vrightF (rs.getD k v0)))], by omega, rright_step (by omega) hka hs8, rfl, rfl, hp10⟩
    refine wp_cond_true (show Act.eval _ _ = .bool true from (congrArg Value.bool (by rw [hs8]; rfl))) (wp_seq (wp_region_P [0] [.k 2 (.bool false)] [(2, 0, 1, 3)] hst7 fun W11 hst11 => ?_))
    refine then_normal (wp_ret (blk_ret (then_ret (then_ret (blk_ret (then_ret ?_))))))
    refine bodyPost_ret (v := .bool false) (results_tmp Tryd.results106 rfl) rfl ?_
    exact Ret.bool (rright_bad (by omega) hs8).symm hst11.ext
  have hs6p : ¬ ((k : Int) < (rs.length : Int)) := by simpa using hs6
  refine wp_cond_false (show Act.eval _ _ = .bool false from (congrArg Value.bool hs6)) (wp_exit (then_exit (then_exit (blk_eq (then_normal (wp_seq (wp_region_P [0, 1, 3, 7] [.k 16 (.slice RA rs.length rc), .k 17 (vi ((rs.length : Int))), .k 18 (.bool (decide ((rs.length : Int) ≤ 6))), .k 2 (.bool (decide ((rs.length : Int) ≤ 6)))] [(2, 3, 1, 3), (13, 0, 3, 16)] hst5 fun W12 hst12 => ?_)))))))
  refine then_normal (wp_ret ?_)
  refine bodyPost_ret (v := .bool (decide ((rs.length : Int) ≤ 6))) (results_tmp Tryd.results106 rfl) rfl ?_
  exact Ret.bool (by rw [rright_end (by omega) hka, decide_eq_decide]; omega) hst12.ext
set_option maxRecDepth 100000 in
set_option maxHeartbeats 2000000 in
theorem r02whole_any (N : Int) (w : World) :
    Calls Tryd.prog 107 #[.int .i64 N] w (Ret (.string (putS N 8)) w) := by
  go_enter Tryd.func107, Tryd.ntmps107
  have hst0 := St.start w
  refine wp_seq (wp_region_P [0] [.k 2 (.string ⟨#[]⟩)] [(2, 0, 1, 3)] hst0 fun W1 hst1 => ?_)
  refine then_normal (wp_seq (wp_region_P [0] [.k 3 (.string ⟨#[]⟩)] [(3, 0, 1, 4)] hst1 fun W2 hst2 => ?_))
  refine then_normal (wp_seq (wp_seq (wp_region_P [0] [.k 4 (vi 0)] [(4, 0, 1, 5)] hst2 fun W3 hst3 => ?_)))
  refine then_normal (wp_block ?_)
  refine wp_loopN (fun mz az W => ∃ k : Nat, ∃ u4_ : List Value, k ≤ 8 ∧ mz = 8 - k ∧ az = ⟨#[vi (shN N k), undef, .string ⟨#[]⟩, .string (putS N k), vi ((k : Int)), (gu u4_ 0), (gu u4_ 1), (gu u4_ 2), (gu u4_ 3), (gu u4_ 4), (gu u4_ 5), (gu u4_ 6), (gu u4_ 7), (gu u4_ 8), (gu u4_ 9), (gu u4_ 10), undef], []⟩ ∧ St w [] [] W) (8 - 0) ?_ ?_
  · -- the loop begins
    have hp5 := hst3.pick [] (by decide) rfl
    exact ⟨0, [undef, undef, undef, undef, undef, undef, undef, undef, undef, undef, undef], by omega, rfl, (by rw [shN_0, putS_0]; rfl), hp5⟩
  rintro n4 a4 W4 ⟨k, u4_, hk, rfl, rfl, hst4⟩
  refine wp_seq (wp_seq (wp_region_P [0, 1] [.k 5 (vi ((k : Int))), .k 6 (.bool (decide ((k : Int) < 8)))] [(5, 0, 2, 7)] hst4 fun W6 hst6 => ?_))
  refine then_normal ?_
  rcases Bool.eq_false_or_eq_true (decide ((k : Int) < 8)) with hs7 | hs7
  · skip
    have hs7p : (k : Int) < 8 := by simpa using hs7
    refine wp_cond_true (show Act.eval _ _ = .bool true from (congrArg Value.bool hs7)) (wp_skip (then_normal (wp_seq (wp_block (wp_seq (wp_region_Z [0, 1, 3, 0, 15, 31] [] [.k 9 (vi (shN N k)), tAn 10 .i64 (shN N k) 255 ((shN N k) % 256) (bits_mask (shN N k) 8 (by decide)), .c 11 (.string (oneS ((shN N k) % 256))), .k 12 (.string (putS N k)), .c 13 (.string (putS N (k + 1))), .k 3 (.string (putS N (k + 1)))] [] [2, 4] [(3, 5, 1, 4), (5, 0, 5, 10)] hst6 ?_ fun W8 hst8 => ?_))))))
    · refine ⟨?_, ?_, trivial⟩
      · exact xsc rfl id rfl rfl fun cx => ⟨_, one_any ((shN N k) % 256) _, (map1 (cx.an 1))⟩
      · exact xs4 rfl id fun cx => (by rw [putS_succ N (by omega), ← oneS_of]; exact run_strcat rfl (cx.an 2) (cx.an 3) (by rw [oneS_size, putS_size N k (by omega)]; first | omega | (simp only [List.length_cons, List.length_nil]; omega)))
    refine then_normal (wp_region_Z [0, 1, 3] [] [.k 14 (vi (shN N k)), .c 15 (vi (shN N (k + 1))), .k 0 (vi (shN N (k + 1)))] [] [1] [(0, 2, 1, 1), (13, 0, 2, 15)] hst8 ?_ fun W9 hst9 => ?_)
    · refine ⟨?_, trivial⟩
      · exact xs4 rfl id fun cx => run_shr rfl (cx.an 0) (cx.co _) (by decide) (shN_succ N k)
    refine blk_normal (then_normal (wp_region_P [0, 1, 3] [.k 7 (vi ((k : Int))), tI 8 ((k : Int) + 1) (by omega), .k 4 (vi ((k : Int) + 1))] [(4, 2, 1, 5), (2, 0, 2, 4)] hst9 fun W10 hst10 => ?_))
    refine then_normal ?_
    refine ⟨8 - ((k + 1)), by omega, ?_⟩
    have hp11 := hst10.pick [] (by decide) rfl
    exact ⟨(k + 1), [vi ((k : Int)), .bool (decide ((k : Int) < 8)), vi ((k : Int)), vi ((k : Int) + 1), vi (shN N k), vi ((shN N k) % 256), .string (oneS ((shN N k) % 256)), .string (putS N k), .string (putS N (k + 1)), vi (shN N k), vi (shN N (k + 1))], by omega, rfl, rfl, hp11⟩
  have hs7p : ¬ ((k : Int) < 8) := by simpa using hs7
  refine wp_cond_false (show Act.eval _ _ = .bool false from (congrArg Value.bool hs7)) (wp_exit (then_exit (then_exit (blk_eq (then_normal (wp_seq (wp_region_P [0, 1] [.k 16 (.string (putS N k)), .k 2 (.string (putS N k))] [(2, 1, 1, 3), (13, 0, 1, 14)] hst6 fun W12 hst12 => ?_)))))))
  refine then_normal (wp_ret ?_)
  refine bodyPost_ret (v := .string (putS N k)) (results_tmp Tryd.results107 rfl) rfl ?_
  exact Ret.of (by rw [show k = 8 by omega]) hst12.ext
set_option maxRecDepth 100000 in
set_option maxHeartbeats 2000000 in
theorem r04num_any (N : Int) (m : Nat) (w : World) (hm : m ≤ 8) :
    Calls Tryd.prog 82 #[.int .i64 N, .int .i64 ((m : Int))] w (Ret (.string (putS N m)) w) := by
  go_enter Tryd.func82, Tryd.ntmps82
  have hst0 := St.start w
  refine wp_seq (wp_region_P [0] [.k 4 (.string ⟨#[]⟩)] [(4, 0, 1, 5)] hst0 fun W1 hst1 => ?_)
  refine then_normal (wp_seq (wp_region_P [0] [.k 5 (.string ⟨#[]⟩)] [(5, 0, 1, 6)] hst1 fun W2 hst2 => ?_))
  refine then_normal (wp_seq (wp_seq (wp_region_P [0] [.k 6 (vi 0)] [(6, 0, 1, 7)] hst2 fun W3 hst3 => ?_)))
  refine then_normal (wp_block ?_)
  refine wp_loopN (fun mz az W => ∃ k : Nat, ∃ u4_ : List Value, k ≤ m ∧ mz = m - k ∧ az = ⟨#[vi (shN N k), vi ((m : Int)), undef, undef, .string ⟨#[]⟩, .string (putS N k), vi ((k : Int)), (gu u4_ 0), (gu u4_ 1), (gu u4_ 2), (gu u4_ 3), (gu u4_ 4), (gu u4_ 5), (gu u4_ 6), (gu u4_ 7), (gu u4_ 8), (gu u4_ 9), (gu u4_ 10), (gu u4_ 11), (gu u4_ 12), (gu u4_ 13), undef], []⟩ ∧ St w [] [] W) (m - 0) ?_ ?_
  · -- the loop begins
    have hp5 := hst3.pick [] (by decide) rfl
    exact ⟨0, [undef, undef, undef, undef, undef, undef, undef, undef, undef, undef, undef, undef, undef, undef], by omega, rfl, (by rw [shN_0, putS_0]; rfl), hp5⟩
  rintro n4 a4 W4 ⟨k, u4_, hk, rfl, rfl, hst4⟩
  refine wp_seq (wp_seq (wp_region_P [0, 0, 3] [.k 7 (vi ((k : Int))), .k 8 (vi ((m : Int))), .k 9 (.bool (decide ((k : Int) < (m : Int))))] [(7, 0, 3, 10)] hst4 fun W6 hst6 => ?_))
  refine then_normal ?_
  rcases Bool.eq_false_or_eq_true (decide ((k : Int) < (m : Int))) with hs7 | hs7
  · skip
    have hs7p : (k : Int) < (m : Int) := by simpa using hs7
    refine wp_cond_true (show Act.eval _ _ = .bool true from (congrArg Value.bool hs7)) (wp_skip (then_normal (wp_seq (wp_block (wp_seq (wp_region_Y [0, 1, 3, 7, 15, 0, 63, 127] [[], [], [], [], [0]] [[], [], [], [0]] [] [.k 12 (vi (shN N k)), tAn 13 .i64 (shN N k) 255 ((shN N k) % 256) (bits_mask (shN N k) 8 (by decide)), tW 14 .u8 ((shN N k) % 256) ((shN N k) % 256) (IntWalk.u8_in _ (by omega)), .a 15, .c 16 (.string (strOfNums ([((shN N k) % 256)]))), .k 17 (.string (putS N k)), .c 18 (.string (putS N (k + 1))), .k 5 (.string (putS N (k + 1)))] (fun ix σ β X => match ix with | 0 => True | 1 => True | 2 => True | 3 => σ 15 = .slice (sA (β 15)) 1 1 ∧ X 0 = eO 5 1 (.slice (sA (β 15)) 1 1) 1 ([.int .u8 ((shN N k) % 256)]) | _ => True) [0] [3, 4, 6] [(5, 7, 1, 6), (6, 0, 7, 13)] hst6 ?_ ?_ ?_))))))
    · exact fun ix _ _ _ _ _ _ hs hb hx h => match ix, h with
      | 3, h => by dsimp only at h ⊢; rw [← hs 15 rfl, ← hb 15 rfl, ← hx 0 rfl]; exact h
      | 0, _ | 1, _ | 2, _ | _ + 4, _ => trivial
    · refine ⟨?_, ?_, ?_, trivial⟩
      · refine sv_any rfl rfl fun ρ β W X cx => ?_
        have fF14 : ρ (.tmp 14) = .int .u8 ((shN N k) % 256) := (cx.an 2)
        exact dv_lit (e := 5) (xs := [.int .u8 ((shN N k) % 256)]) rfl (by simp [go_sem, fF14]) rfl (by decide) rfl rfl (fun σ β' X' hs hb hv hx => ⟨hv, hx⟩)
      · exact xs4 rfl id fun cx => run_convB (e := 5) rfl (by kernel_rfl) (by kernel_rfl) (by kernel_rfl) (dTn (cx.an 3)).1 (cx.row (dTn (cx.an 3)).2 rfl)
      · exact xs4 rfl id fun cx => (by rw [putS_succ N (by omega)]; exact run_strcat rfl (cx.an 4) (cx.an 5) (by rw [strOfNums_size, putS_size N k (by omega)]; first | omega | (simp only [List.length_cons, List.length_nil]; omega)))
    intro σ β X W8 hD hst8 fr hfr
    obtain ⟨A15_8, hu_A15_8⟩ : ∃ z, sA (β 15) = z := ⟨_, rfl⟩
    simp only [exq 0 ((dTn (hD 3 lq)).2), hu_A15_8] at hst8
    simp only [ed 15 ((dTn (hD 3 lq)).1), hu_A15_8] at hfr
    clear hD hu_A15_8; subst hfr; clear σ β X
    refine then_normal (wp_region_Z [0, 1, 3] [] [.k 19 (vi (shN N k)), .c 20 (vi (shN N (k + 1))), .k 0 (vi (shN N (k + 1)))] [0] [1] [(0, 2, 1, 1), (18, 0, 2, 20)] hst8 ?_ fun W9 hst9 => ?_)
    · refine ⟨?_, trivial⟩
      · exact xs4 rfl id fun cx => run_shr rfl (cx.an 0) (cx.co _) (by decide) (shN_succ N k)
    refine blk_normal (then_normal (wp_region_P [0, 1, 3] [.k 10 (vi ((k : Int))), tI 11 ((k : Int) + 1) (by omega), .k 6 (vi ((k : Int) + 1))] [(6, 2, 1, 7), (3, 0, 2, 5)] hst9 fun W10 hst10 => ?_))
    refine then_normal ?_
    refine ⟨m - ((k + 1)), by omega, ?_⟩
    have hp11 := hst10.pick [] (by decide) rfl
    exact ⟨(k + 1), [vi ((k : Int)), vi ((m : Int)), .bool (decide ((k : Int) < (m : Int))), vi ((k : Int)), vi ((k : Int) + 1), vi (shN N k), vi ((shN N k) % 256), .int .u8 ((shN N k) % 256), .slice A15_8 1 1, .string (strOfNums ([((shN N k) % 256)])), .string (putS N k), .string (putS N (k + 1)), vi (shN N k), vi (shN N (k + 1))], by omega, rfl, rfl, hp11⟩
  have hs7p : ¬ ((k : Int) < (m : Int)) := by simpa using hs7
  refine wp_cond_false (show Act.eval _ _ = .bool false from (congrArg Value.bool hs7)) (wp_exit (then_exit (then_exit (blk_eq (then_normal (wp_seq (wp_region_P [0, 1] [.k 21 (.string (putS N k)), .k 4 (.string (putS N k))] [(4, 1, 1, 5), (16, 0, 1, 17)] hst6 fun W12 hst12 => ?_)))))))
  refine then_normal (wp_ret ?_)
  refine bodyPost_ret (v := .string (putS N k)) (results_tmp Tryd.results82 rfl) rfl ?_
  exact Ret.of (by rw [show k = m by omega]) hst12.ext
set_option maxRecDepth 100000 in
set_option maxHeartbeats 4000000 in
theorem r02bytes_any (RA : Option Addr) (rc : Nat) (rs : List Val) (w : World) (hA : At w RA (flatR rs)) (hlr : rs.length ≤ 9223372036854775807) :
    Calls Tryd.prog 81 #[.slice RA rs.length rc] w (Ret (.string (vbytesF rs)) w) := by
  go_enter Tryd.func81, Tryd.ntmps81
  have hst0 := St.start w
  refine wp_seq (wp_region_P [0] [.k 2 (.string ⟨#[]⟩)] [(2, 0, 1, 3)] hst0 fun W1 hst1 => ?_)
  refine then_normal (wp_seq (wp_seq (wp_region_Z [0, 1, 3] [] [.k 5 (.slice RA rs.length rc), .c 6 (.bool (rrightF rs)), .k 7 (.bool (!(rrightF rs)))] [] [1] [(5, 0, 3, 8)] hst1 ?_ fun W2 hst2 => ?_)))
  · refine ⟨?_, trivial⟩
    · exact xsc rfl id rfl rfl fun cx => ⟨_, r02row_any _ _ rs _ (hA.ext cx.upd.to_ext) (by omega), (map1 (cx.an 0))⟩
  refine then_normal ?_
  rcases Bool.eq_false_or_eq_true (rrightF rs) with hs3 | hs3
  · skip
    refine wp_cond_false (show Act.eval _ _ = .bool false from (congrArg Value.bool (by rw [hs3]; rfl))) (wp_skip (then_normal (wp_seq (wp_region_Z [0, 1, 3, 7] [] [.k 8 (.slice RA rs.length rc), .k 9 (vi ((rs.length : Int))), .c 10 (.string (oneS (rs.length : Int))), .k 3 (.string (oneS (rs.length : Int)))] [] [2] [(3, 3, 1, 4), (4, 0, 3, 7)] hst2 ?_ fun W4 hst4 => ?_))))
    · refine ⟨?_, trivial⟩
      · exact xsc rfl id rfl rfl fun cx => ⟨_, one_any (rs.length : Int) _, (map1 (cx.an 1))⟩
    refine then_normal (wp_seq (wp_seq (wp_region_P [0] [.k 4 (vi 0)] [(4, 0, 1, 5)] hst4 fun W5 hst5 => ?_)))
    refine then_normal (wp_block ?_)
    refine wp_loopN (fun mz az W => ∃ k : Nat, ∃ u6_ : List Value, k ≤ rs.length ∧ mz = rs.length - k ∧ az = ⟨#[.slice RA rs.length rc, undef, .string ⟨#[]⟩, .string (strL (bytesTo rs k)), vi ((k : Int)), .slice RA rs.length rc, .bool (rrightF rs), .bool (!(rrightF rs)), .slice RA rs.length rc, vi ((rs.length : Int)), .string (oneS (rs.length : Int)), (gu u6_ 0), (gu u6_ 1), (gu u6_ 2), (gu u6_ 3), (gu u6_ 4), (gu u6_ 5), (gu u6_ 6), (gu u6_ 7), (gu u6_ 8), (gu u6_ 9), (gu u6_ 10), (gu u6_ 11), (gu u6_ 12), (gu u6_ 13), (gu u6_ 14), (gu u6_ 15), (gu u6_ 16), (gu u6_ 17), (gu u6_ 18), (gu u6_ 19), (gu u6_ 20), (gu u6_ 21), (gu u6_ 22), (gu u6_ 23), (gu u6_ 24), (gu u6_ 25), (gu u6_ 26), (gu u6_ 27), (gu u6_ 28), (gu u6_ 29), (gu u6_ 30), (gu u6_ 31), (gu u6_ 32), (gu u6_ 33), (gu u6_ 34), (gu u6_ 35), (gu u6_ 36), (gu u6_ 37), (gu u6_ 38), (gu u6_ 39), (gu u6_ 40), (gu u6_ 41), (gu u6_ 42), (gu u6_ 43), (gu u6_ 44), (gu u6_ 45), (gu u6_ 46), (gu u6_ 47), (gu u6_ 48), undef], []⟩ ∧ St w [] [] W) (rs.length - 0) ?_ ?_
    · -- the loop begins
      have hp7 := hst5.pick [] (by decide) rfl
      exact ⟨0, [undef, undef, undef, undef, undef, undef, undef, undef, undef, undef, undef, undef, undef, undef, undef, undef, undef, undef, undef, undef, undef, undef, undef, undef, undef, undef, undef, undef, undef, undef, undef, undef, undef, undef, undef, undef, undef, undef, undef, undef, undef, undef, undef, undef, undef, undef, undef, undef, undef], by omega, rfl, (by rw [bt_0, ← oneS_strL (x := ((rs.length : Nat) : Int)) (by have := rright_len (by assumption : rrightF rs = true); omega)]; rfl), hp7⟩
    rintro n6 a6 W6 ⟨k, u6_, hk, rfl, rfl, hst6⟩
    refine wp_seq (wp_seq (wp_region_P [0, 0, 2, 7] [.k 11 (vi ((k : Int))), .k 12 (.slice RA rs.length rc), .k 13 (vi ((rs.length : Int))), .k 14 (.bool (decide ((k : Int) < (rs.length : Int))))] [(11, 0, 4, 15)] hst6 fun W8 hst8 => ?_))
    refine then_normal ?_
    rcases Bool.eq_false_or_eq_true (decide ((k : Int) < (rs.length : Int))) with hs9 | hs9
    · skip
      have hs9p : (k : Int) < (rs.length : Int) := by simpa using hs9
      refine wp_cond_true (show Act.eval _ _ = .bool true from (congrArg Value.bool hs9)) (wp_skip (then_normal (wp_seq (wp_block (wp_seq ?_)))))
      obtain ⟨u, hu⟩ : ∃ z, rs.getD k v0 = z := ⟨_, rfl⟩
      have hvu : vrightF (rs.getD k v0) = true := rright_at (by assumption) (by omega)
      have hpu := vright_parts hvu
      have hbl := bt_len (by assumption : rrightF rs = true) k
      have hbl1 := bt_len (by assumption : rrightF rs = true) (k + 1)
      refine wp_region_Z [0, 0, 0, 6, 14, 30, 62, 127, 255] [] [.k 17 (.string (strL (bytesTo rs k))), .k 18 (.slice RA rs.length rc), .k 19 (vi ((k : Int))), .c 20 (.pointer (some ((ad RA).add (k * 3)))), .c 21 (.pointer (some ((ad RA).add (k * 3 + 0)))), .c 22 (vi ((rs.getD k v0).1)), .c 23 (.string (oneS ((rs.getD k v0).1))), .c 24 (.string (strL (bytesTo rs k ++ [UInt8.ofNat (rs.getD k v0).1.toNat]))), .k 3 (.string (strL (bytesTo rs k ++ [UInt8.ofNat (rs.getD k v0).1.toNat])))] [] [3, 4, 5, 6, 7] [(3, 8, 1, 4), (13, 0, 8, 21)] hst8 ?_ fun W10 hst10 => ?_
      · refine ⟨?_, ?_, ?_, ?_, ?_, trivial⟩
        · exact xs4 rfl id fun cx => run_indexSlM (e := 82) (m := k) (sz := 3) rfl (by kernel_rfl) (by kernel_rfl) (cx.an 1) (cx.an 2) (by omega) (by omega) (hA.ext cx.upd.to_ext) (by have h_ := flatLen (f := cellsV) (sz := 3) cellsV_len rs; show 0 < (List.flatMap cellsV rs).length; omega)
        · exact xs4 rfl id fun cx => run_fieldAd rfl (by kernel_rfl) (cx.an 3)
        · exact xs4 rfl id fun cx => run_load1 rfl (by kernel_rfl) (cx.an 4) (At.eltc (f := cellsV) (k := 0) cellsV_len (hA.ext cx.upd.to_ext) (getD_some (ts := rs) (m := k) v0 (by omega)) rfl)
        · exact xsc rfl id rfl rfl fun cx => ⟨_, one_any ((rs.getD k v0).1) _, (map1 (cx.an 5))⟩
        · exact xs4 rfl id fun cx => (by rw [← strL_app, ← oneS_strL (by omega)]; exact run_strcat rfl (cx.an 0) (cx.an 6) (by rw [oneS_size]; simp only [strL_size, List.length_append, List.length_cons, List.length_nil]; omega))
      refine then_normal (wp_seq (wp_seq (wp_region_Z [0, 0, 3, 7, 15, 31] [] [.k 25 (.slice RA rs.length rc), .k 26 (vi ((k : Int))), .c 27 (.pointer (some ((ad RA).add (k * 3)))), .c 28 (.pointer (some ((ad RA).add (k * 3 + 0)))), .c 29 (vi ((rs.getD k v0).1)), .k 30 (.bool (((rs.getD k v0).1) == 1))] [] [2, 3, 4] [(25, 0, 6, 31)] hst10 ?_ fun W11 hst11 => ?_)))
      · refine ⟨?_, ?_, ?_, trivial⟩
        · exact xs4 rfl id fun cx => run_indexSlM (e := 82) (m := k) (sz := 3) rfl (by kernel_rfl) (by kernel_rfl) (cx.an 0) (cx.an 1) (by omega) (by omega) (hA.ext cx.upd.to_ext) (by have h_ := flatLen (f := cellsV) (sz := 3) cellsV_len rs; show 0 < (List.flatMap cellsV rs).length; omega)
        · exact xs4 rfl id fun cx => run_fieldAd rfl (by kernel_rfl) (cx.an 2)
        · exact xs4 rfl id fun cx => run_load1 rfl (by kernel_rfl) (cx.an 3) (At.eltc (f := cellsV) (k := 0) cellsV_len (hA.ext cx.upd.to_ext) (getD_some (ts := rs) (m := k) v0 (by omega)) rfl)
      refine then_normal ?_
      rcases Bool.eq_false_or_eq_true (((rs.getD k v0).1) == 1) with hs12 | hs12
      · skip
        have hs12p : ((rs.getD k v0).1) = 1 := by simpa using hs12
        refine wp_cond_true (show Act.eval _ _ = .bool true from (congrArg Value.bool hs12)) (wp_region_Z [0, 0, 0, 6, 14, 30, 62, 127, 255] [] [.k 31 (.string (strL (bytesTo rs k ++ [UInt8.ofNat (rs.getD k v0).1.toNat]))), .k 32 (.slice RA rs.length rc), .k 33 (vi ((k : Int))), .c 34 (.pointer (some ((ad RA).add (k * 3)))), .c 35 (.pointer (some ((ad RA).add (k * 3 + 1)))), .c 36 (vi ((rs.getD k v0).2.1)), .c 37 (.string (putS ((rs.getD k v0).2.1) 8)), .c 38 (.string (strL (bytesTo rs (k + 1)))), .k 3 (.string (strL (bytesTo rs (k + 1))))] [] [3, 4, 5, 6, 7] [(3, 8, 1, 4), (27, 0, 8, 35)] hst11 ?_ fun W13 hst13 => ?_)
        · refine ⟨?_, ?_, ?_, ?_, ?_, trivial⟩
          · exact xs4 rfl id fun cx => run_indexSlM (e := 82) (m := k) (sz := 3) rfl (by kernel_rfl) (by kernel_rfl) (cx.an 1) (cx.an 2) (by omega) (by omega) (hA.ext cx.upd.to_ext) (by have h_ := flatLen (f := cellsV) (sz := 3) cellsV_len rs; show 0 < (List.flatMap cellsV rs).length; omega)
          · exact xs4 rfl id fun cx => run_fieldAd rfl (by kernel_rfl) (cx.an 3)
          · exact xs4 rfl id fun cx => run_load1 rfl (by kernel_rfl) (cx.an 4) (At.eltc (f := cellsV) (k := 1) cellsV_len (hA.ext cx.upd.to_ext) (getD_some (ts := rs) (m := k) v0 (by omega)) rfl)
          · exact xsc rfl id rfl rfl fun cx => ⟨_, r02whole_any ((rs.getD k v0).2.1) _, (map1 (cx.an 5))⟩
          · exact xs4 rfl id fun cx => (by rw [← bt_int (by omega) (by assumption), ← strL_app, strL_data]; exact run_strcat rfl (cx.an 0) (cx.an 6) (by rw [putS_size _ 8 (by omega)]; simp only [strL_size, List.length_append, List.length_cons, List.length_nil]; omega))
        refine then_normal (wp_seq (wp_region_Z [0, 0, 3, 7, 15, 31] [] [.k 39 (.slice RA rs.length rc), .k 40 (vi ((k : Int))), .c 41 (.pointer (some ((ad RA).add (k * 3)))), .c 42 (.pointer (some ((ad RA).add (k * 3 + 0)))), .c 43 (vi ((rs.getD k v0).1)), .k 44 (.bool (((rs.getD k v0).1) == 2))] [] [2, 3, 4] [(39, 0, 6, 45)] hst13 ?_ fun W14 hst14 => ?_))
        · refine ⟨?_, ?_, ?_, trivial⟩
          · exact xs4 rfl id fun cx => run_indexSlM (e := 82) (m := k) (sz := 3) rfl (by kernel_rfl) (by kernel_rfl) (cx.an 0) (cx.an 1) (by omega) (by omega) (hA.ext cx.upd.to_ext) (by have h_ := flatLen (f := cellsV) (sz := 3) cellsV_len rs; show 0 < (List.flatMap cellsV rs).length; omega)
          · exact xs4 rfl id fun cx => run_fieldAd rfl (by kernel_rfl) (cx.an 2)
          · exact xs4 rfl id fun cx => run_load1 rfl (by kernel_rfl) (cx.an 3) (At.eltc (f := cellsV) (k := 0) cellsV_len (hA.ext cx.upd.to_ext) (getD_some (ts := rs) (m := k) v0 (by omega)) rfl)
        refine then_normal ?_
        rcases Bool.eq_false_or_eq_true (((rs.getD k v0).1) == 2) with hs15 | hs15
        · skip
          have hs15p : ((rs.getD k v0).1) = 2 := by simpa using hs15
          exfalso; omega
        have hs15p : ((rs.getD k v0).1) ≠ 2 := by simpa using hs15
        refine wp_cond_false (show Act.eval _ _ = .bool false from (congrArg Value.bool hs15)) (wp_skip (blk_normal (then_normal (wp_region_P [0, 1, 3] [.k 15 (vi ((k : Int))), tI 16 ((k : Int) + 1) (by omega), .k 4 (vi ((k : Int) + 1))] [(4, 2, 1, 5), (10, 0, 2, 12)] hst14 fun W16 hst16 => ?_))))
        refine then_normal ?_
        refine ⟨rs.length - ((k + 1)), by omega, ?_⟩
        have hp17 := hst16.pick [] (by decide) rfl
        exact ⟨(k + 1), [vi ((k : Int)), .slice RA rs.length rc, vi ((rs.length : Int)), .bool (decide ((k : Int) < (rs.length : Int))), vi ((k : Int)), vi ((k : Int) + 1), .string (strL (bytesTo rs k)), .slice RA rs.length rc, vi ((k : Int)), .pointer (some ((ad RA).add (k * 3))), .pointer (some ((ad RA).add (k * 3 + 0))), vi ((rs.getD k v0).1), .string (oneS ((rs.getD k v0).1)), .string (strL (bytesTo rs k ++ [UInt8.ofNat (rs.getD k v0).1.toNat])), .slice RA rs.length rc, vi ((k : Int)), .pointer (some ((ad RA).add (k * 3))), .pointer (some ((ad RA).add (k * 3 + 0))), vi ((rs.getD k v0).1), .bool (((rs.getD k v0).1) == 1), .string (strL (bytesTo rs k ++ [UInt8.ofNat (rs.getD k v0).1.toNat])), .slice RA rs.length rc, vi ((k : Int)), .pointer (some ((ad RA).add (k * 3))), .pointer (some ((ad RA).add (k * 3 + 1))), vi ((rs.getD k v0).2.1), .string (putS ((rs.getD k v0).2.1) 8), .string (strL (bytesTo rs (k + 1))), .slice RA rs.length rc, vi ((k : Int)), .pointer (some ((ad RA).add (k * 3))), .pointer (some ((ad RA).add (k * 3 + 0))), vi ((rs.getD k v0).1), .bool (((rs.getD k v0).1) == 2), (gu u6_ 34), (gu u6_ 35), (gu u6_ 36), (gu u6_ 37), (gu u6_ 38), (gu u6_ 39), (gu u6_ 40), (gu u6_ 41), (gu u6_ 42), (gu u6_ 43), (gu u6_ 44), (gu u6_ 45), (gu u6_ 46), (gu u6_ 47), (gu u6_ 48)], by omega, rfl, rfl, hp17⟩
      have hs12p : ((rs.getD k v0).1) ≠ 1 := by simpa using hs12
      refine wp_cond_false (show Act.eval _ _ = .bool false from (congrArg Value.bool hs12)) (wp_skip (then_normal (wp_seq (wp_region_Z [0, 0, 3, 7, 15, 31] [] [.k 39 (.slice RA rs.length rc), .k 40 (vi ((k : Int))), .c 41 (.pointer (some ((ad RA).add (k * 3)))), .c 42 (.pointer (some ((ad RA).add (k * 3 + 0)))), .c 43 (vi ((rs.getD k v0).1)), .k 44 (.bool (((rs.getD k v0).1) == 2))] [] [2, 3, 4] [(39, 0, 6, 45)] hst11 ?_ fun W18 hst18 => ?_))))
      · refine ⟨?_, ?_, ?_, trivial⟩
        · exact xs4 rfl id fun cx => run_indexSlM (e := 82) (m := k) (sz := 3) rfl (by kernel_rfl) (by kernel_rfl) (cx.an 0) (cx.an 1) (by omega) (by omega) (hA.ext cx.upd.to_ext) (by have h_ := flatLen (f := cellsV) (sz := 3) cellsV_len rs; show 0 < (List.flatMap cellsV rs).length; omega)
        · exact xs4 rfl id fun cx => run_fieldAd rfl (by kernel_rfl) (cx.an 2)
        · exact xs4 rfl id fun cx => run_load1 rfl (by kernel_rfl) (cx.an 3) (At.eltc (f := cellsV) (k := 0) cellsV_len (hA.ext cx.upd.to_ext) (getD_some (ts := rs) (m := k) v0 (by omega)) rfl)
      refine then_normal ?_
      rcases Bool.eq_false_or_eq_true (((rs.getD k v0).1) == 2) with hs19 | hs19
      · skip
        have hs19p : ((rs.getD k v0).1) = 2 := by simpa using hs19
        refine wp_cond_true (show Act.eval _ _ = .bool true from (congrArg Value.bool hs19)) (wp_region_Z [0, 0, 0, 6, 14, 30, 62, 126, 255, 0, 0, 1536, 3584, 7680, 16383, 32767] [] [.k 45 (.string (strL (bytesTo rs k ++ [UInt8.ofNat (rs.getD k v0).1.toNat]))), .k 46 (.slice RA rs.length rc), .k 47 (vi ((k : Int))), .c 48 (.pointer (some ((ad RA).add (k * 3)))), .c 49 (.pointer (some ((ad RA).add (k * 3 + 2)))), .c 50 (.string ((rs.getD k v0).2.2)), .k 51 (vi ((((rs.getD k v0).2.2).size : Int))), .c 52 (.string (oneS (((rs.getD k v0).2.2).size : Int))), .c 53 (.string (strL ((bytesTo rs k ++ [UInt8.ofNat (rs.getD k v0).1.toNat]) ++ [UInt8.ofNat (((rs.getD k v0).2.2.size : Nat) : Int).toNat]))), .k 54 (.slice RA rs.length rc), .k 55 (vi ((k : Int))), .c 56 (.pointer (some ((ad RA).add (k * 3)))), .c 57 (.pointer (some ((ad RA).add (k * 3 + 2)))), .c 58 (.string ((rs.getD k v0).2.2)), .c 59 (.string (strL (bytesTo rs (k + 1)))), .k 3 (.string (strL (bytesTo rs (k + 1))))] [] [3, 4, 5, 7, 8, 11, 12, 13, 14] [(3, 15, 1, 4), (41, 0, 15, 56)] hst18 ?_ fun W20 hst20 => ?_)
        · refine ⟨?_, ?_, ?_, ?_, ?_, ?_, ?_, ?_, ?_, trivial⟩
          · exact xs4 rfl id fun cx => run_indexSlM (e := 82) (m := k) (sz := 3) rfl (by kernel_rfl) (by kernel_rfl) (cx.an 1) (cx.an 2) (by omega) (by omega) (hA.ext cx.upd.to_ext) (by have h_ := flatLen (f := cellsV) (sz := 3) cellsV_len rs; show 0 < (List.flatMap cellsV rs).length; omega)
          · exact xs4 rfl id fun cx => run_fieldAd rfl (by kernel_rfl) (cx.an 3)
          · exact xs4 rfl id fun cx => run_load1 rfl (by kernel_rfl) (cx.an 4) (At.eltc (f := cellsV) (k := 2) cellsV_len (hA.ext cx.upd.to_ext) (getD_some (ts := rs) (m := k) v0 (by omega)) rfl)
          · exact xsc rfl id rfl rfl fun cx => ⟨_, one_any (((rs.getD k v0).2.2).size : Int) _, (map1 (cx.an 6))⟩
          · exact xs4 rfl id fun cx => (by rw [← strL_app (bytesTo rs k ++ [UInt8.ofNat (rs.getD k v0).1.toNat]), ← oneS_strL (x := (((rs.getD k v0).2.2.size : Nat) : Int)) (by have := hpu.2.2 (by assumption); omega)]; exact run_strcat rfl (cx.an 0) (cx.an 7) (by rw [oneS_size]; simp only [strL_size, List.length_append, List.length_cons, List.length_nil]; omega))
          · exact xs4 rfl id fun cx => run_indexSlM (e := 82) (m := k) (sz := 3) rfl (by kernel_rfl) (by kernel_rfl) (cx.an 9) (cx.an 10) (by omega) (by omega) (hA.ext cx.upd.to_ext) (by have h_ := flatLen (f := cellsV) (sz := 3) cellsV_len rs; show 0 < (List.flatMap cellsV rs).length; omega)
          · exact xs4 rfl id fun cx => run_fieldAd rfl (by kernel_rfl) (cx.an 11)
          · exact xs4 rfl id fun cx => run_load1 rfl (by kernel_rfl) (cx.an 12) (At.eltc (f := cellsV) (k := 2) cellsV_len (hA.ext cx.upd.to_ext) (getD_some (ts := rs) (m := k) v0 (by omega)) rfl)
          · exact xs4 rfl id fun cx => (by rw [← bt_text (by omega) (by assumption) (by assumption), ← strL_app, strL_data]; exact run_strcat rfl (cx.an 8) (cx.an 13) (by have := hpu.2.2 (by assumption); simp only [strL_size, List.length_append, List.length_cons, List.length_nil]; omega))
        refine blk_normal (then_normal (wp_region_P [0, 1, 3] [.k 15 (vi ((k : Int))), tI 16 ((k : Int) + 1) (by omega), .k 4 (vi ((k : Int) + 1))] [(4, 2, 1, 5), (10, 0, 2, 12)] hst20 fun W21 hst21 => ?_))
        refine then_normal ?_
        refine ⟨rs.length - ((k + 1)), by omega, ?_⟩
        have hp22 := hst21.pick [] (by decide) rfl
        exact ⟨(k + 1), [vi ((k : Int)), .slice RA rs.length rc, vi ((rs.length : Int)), .bool (decide ((k : Int) < (rs.length : Int))), vi ((k : Int)), vi ((k : Int) + 1), .string (strL (bytesTo rs k)), .slice RA rs.length rc, vi ((k : Int)), .pointer (some ((ad RA).add (k * 3))), .pointer (some ((ad RA).add (k * 3 + 0))), vi ((rs.getD k v0).1), .string (oneS ((rs.getD k v0).1)), .string (strL (bytesTo rs k ++ [UInt8.ofNat (rs.getD k v0).1.toNat])), .slice RA rs.length rc, vi ((k : Int)), .pointer (some ((ad RA).add (k * 3))), .pointer (some ((ad RA).add (k * 3 + 0))), vi ((rs.getD k v0).1), .bool (((rs.getD k v0).1) == 1), (gu u6_ 20), (gu u6_ 21), (gu u6_ 22), (gu u6_ 23), (gu u6_ 24), (gu u6_ 25), (gu u6_ 26), (gu u6_ 27), .slice RA rs.length rc, vi ((k : Int)), .pointer (some ((ad RA).add (k * 3))), .pointer (some ((ad RA).add (k * 3 + 0))), vi ((rs.getD k v0).1), .bool (((rs.getD k v0).1) == 2), .string (strL (bytesTo rs k ++ [UInt8.ofNat (rs.getD k v0).1.toNat])), .slice RA rs.length rc, vi ((k : Int)), .pointer (some ((ad RA).add (k * 3))), .pointer (some ((ad RA).add (k * 3 + 2))), .string ((rs.getD k v0).2.2), vi ((((rs.getD k v0).2.2).size : Int)), .string (oneS (((rs.getD k v0).2.2).size : Int)), .string (strL ((bytesTo rs k ++ [UInt8.ofNat (rs.getD k v0).1.toNat]) ++ [UInt8.ofNat (((rs.getD k v0).2.2.size : Nat) : Int).toNat])), .slice RA rs.length rc, vi ((k : Int)), .pointer (some ((ad RA).add (k * 3))), .pointer (some ((ad RA).add (k * 3 + 2))), .string ((rs.getD k v0).2.2), .string (strL (bytesTo rs (k + 1)))], by omega, rfl, rfl, hp22⟩
      have hs19p : ((rs.getD k v0).1) ≠ 2 := by simpa using hs19
      refine wp_cond_false (show Act.eval _ _ = .bool false from (congrArg Value.bool hs19)) (wp_skip (blk_normal (then_normal (wp_region_P [0, 1, 3] [.k 15 (vi ((k : Int))), tI 16 ((k : Int) + 1) (by omega), .k 4 (vi ((k : Int) + 1))] [(4, 2, 1, 5), (10, 0, 2, 12)] hst18 fun W23 hst23 => ?_))))
      refine then_normal ?_
      refine ⟨rs.length - ((k + 1)), by omega, ?_⟩
      have hp24 := hst23.pick [] (by decide) rfl
      exact ⟨(k + 1), [vi ((k : Int)), .slice RA rs.length rc, vi ((rs.length : Int)), .bool (decide ((k : Int) < (rs.length : Int))), vi ((k : Int)), vi ((k : Int) + 1), .string (strL (bytesTo rs k)), .slice RA rs.length rc, vi ((k : Int)), .pointer (some ((ad RA).add (k * 3))), .pointer (some ((ad RA).add (k * 3 + 0))), vi ((rs.getD k v0).1), .string (oneS ((rs.getD k v0).1)), .string (strL (bytesTo rs k ++ [UInt8.ofNat (rs.getD k v0).1.toNat])), .slice RA rs.length rc, vi ((k : Int)), .pointer (some ((ad RA).add (k * 3))), .pointer (some ((ad RA).add (k * 3 + 0))), vi ((rs.getD k v0).1), .bool (((rs.getD k v0).1) == 1), (gu u6_ 20), (gu u6_ 21), (gu u6_ 22), (gu u6_ 23), (gu u6_ 24), (gu u6_ 25), (gu u6_ 26), (gu u6_ 27), .slice RA rs.length rc, vi ((k : Int)), .pointer (some ((ad RA).add (k * 3))), .pointer (some ((ad RA).add (k * 3 + 0))), vi ((rs.getD k v0).1), .bool (((rs.getD k v0).1) == 2), (gu u6_ 34), (gu u6_ 35), (gu u6_ 36), (gu u6_ 37), (gu u6_ 38), (gu u6_ 39), (gu u6_ 40), (gu u6_ 41), (gu u6_ 42), (gu u6_ 43), (gu u6_ 44), (gu u6_ 45), (gu u6_ 46), (gu u6_ 47), (gu u6_ 48)], by omega, rfl, (by rw [← bt_none (k := k) (by omega) (by assumption) (by assumption)]; rfl), hp24⟩
    have hs9p : ¬ ((k : Int) < (rs.length : Int)) := by simpa using hs9
    refine wp_cond_false (show Act.eval _ _ = .bool false from (congrArg Value.bool hs9)) (wp_exit (then_exit (then_exit (blk_eq (then_normal (wp_seq (wp_region_P [0, 1] [.k 60 (.string (strL (bytesTo rs k))), .k 2 (.string (strL (bytesTo rs k)))] [(2, 1, 1, 3), (57, 0, 1, 58)] hst8 fun W25 hst25 => ?_)))))))
    refine then_normal (wp_ret ?_)
    refine bodyPost_ret (v := .string (strL (bytesTo rs k))) (results_tmp Tryd.results81 rfl) rfl ?_
    exact Ret.of (by rw [vbytesF, if_pos (by assumption), show k = rs.length by omega]) hst25.ext
  refine wp_cond_true (show Act.eval _ _ = .bool true from (congrArg Value.bool (by rw [hs3]; rfl))) (wp_seq (wp_region_P [0] [.k 2 (.string ⟨#[]⟩)] [(2, 0, 1, 3)] hst2 fun W26 hst26 => ?_))
  refine then_normal (wp_ret (then_ret ?_))
  refine bodyPost_ret (v := .string ⟨#[]⟩) (results_tmp Tryd.results81 rfl) rfl ?_
  exact Ret.of (by rw [vbytesF, if_neg (by simp [*])]; rfl) hst26.ext
set_option maxRecDepth 100000 in
set_option maxHeartbeats 2000000 in
theorem r08right_any (a b n1 n2 : Int) (ho : Bool) (RA : Option Addr) (rc : Nat) (rs : List Val) (w : World) (hA : At w RA (flatR rs)) (hlr : rs.length ≤ 9223372036854775807) :
    Calls Tryd.prog 80 #[.agg #[.int .i64 a, .int .i64 b, .int .i64 n1, .int .i64 n2, .bool ho, .slice RA rs.length rc]] w (Ret (.bool (trightF a b n1 n2 rs)) w) := by
  go_enter Tryd.func80, Tryd.ntmps80
  have hst0 := St.start w
  refine wp_seq (wp_region_Y [0, 0] [] [[0]] [] [.a 1, .k 2 (.bool false)] (fun ix σ β X => match ix with | 0 => σ 1 = vp (pb (β 1)) ∧ X 0 = eB (pb (β 1)) 41 #[vi a, vi b, vi n1, vi n2, .bool ho, .slice RA rs.length rc] | _ => True) [0] [0] [(1, 0, 2, 3)] hst0 ?_ ?_ ?_)
  · exact fun ix _ _ _ _ _ _ hs hb hx h => match ix, h with
    | 0, h => by dsimp only at h ⊢; rw [← hs 1 rfl, ← hb 1 rfl, ← hx 0 rfl]; exact h
    | _ + 1, _ => trivial
  · refine ⟨?_, trivial⟩
    · refine sv_any rfl rfl fun ρ β W X cx => ?_
      exact dv_box (cs := #[vi a, vi b, vi n1, vi n2, .bool ho, .slice RA rs.length rc]) rfl (cx.ou 0) rfl rfl rfl (fun σ β' X' hs hb hv hx => ⟨hv, hx⟩)
  intro σ β X W1 hD hst1 fr hfr
  obtain ⟨B1_1, hu_B1_1⟩ : ∃ z, pb (β 1) = z := ⟨_, rfl⟩
  simp only [exq 0 ((dTn (hD 0 lq)).2), hu_B1_1] at hst1
  simp only [ed 1 ((dTn (hD 0 lq)).1), hu_B1_1] at hfr
  clear hD hu_B1_1; subst hfr; clear σ β X
  refine then_normal (wp_seq (wp_region_Z [0, 1, 3, 7] [[], [0]] [.k 6 (vp B1_1), .c 7 (vi a), .c 8 (.bool (onF a)), .k 3 (.bool (onF a))] [0] [1, 2] [(3, 3, 1, 4), (2, 0, 3, 5)] hst1 ?_ fun W2 hst2 => ?_))
  · refine ⟨?_, ?_, trivial⟩
    · exact xs4 rfl id fun cx => run_load1 rfl (by kernel_rfl) (cx.an 0) ((cx.bi 0 rfl).cell 0)
    · exact xsc rfl id rfl rfl fun cx => ⟨_, ron_any a _, (map1 (cx.an 1))⟩
  refine then_normal (wp_seq (wp_region_Z [0, 1, 3, 7] [[], [0]] [.k 9 (.pointer (some ⟨B1_1, 1, none⟩)), .c 10 (vi b), .c 11 (.bool (onF b)), .k 4 (.bool (onF b))] [0] [1, 2] [(4, 3, 1, 5), (4, 0, 3, 7)] hst2 ?_ fun W3 hst3 => ?_))
  · refine ⟨?_, ?_, trivial⟩
    · exact xs4 rfl id fun cx => run_load1 rfl (by kernel_rfl) (cx.an 0) ((cx.bi 0 rfl).cell 1)
    · exact xsc rfl id rfl rfl fun cx => ⟨_, ron_any b _, (map1 (cx.an 1))⟩
  refine then_normal (wp_seq (wp_region_Z [0, 1, 3, 7, 15, 31, 63, 127, 255, 511, 1023, 2047, 4095, 8191, 16383, 32767, 65535, 131071, 262143, 524287, 1048575, 2097151, 4194303, 8388607, 16777215, 33554431, 67108863, 134217727, 268435455, 536870911, 1073741823, 2147483647, 4294967295, 8589934591, 17179869183] [[], [], [0], [], [], [], [], [0], [], [], [], [], [], [0], [], [], [], [], [0], [], [], [], [], [], [0], [], [], [], [], [], [0]] [.k 12 (.pointer (some ⟨B1_1, 2, none⟩)), .k 13 (.pointer (some ⟨B1_1, 2, none⟩)), .c 14 (vi n1), .k 15 (.bool (n1 == (-1))), .k 16 (.bool (n1 == (-1))), .z 17 (n1 == (-1)) (.pointer (some ⟨B1_1, 2, none⟩)), .z 18 (n1 == (-1)) (.pointer (some ⟨B1_1, 3, none⟩)), .y 19 (n1 == (-1)) (vi n2), .z 20 (n1 == (-1)) (.bool (n2 == 0)), tA 21 (n1 == (-1)) (n2 == 0), .k 22 (.bool ((n1 == (-1)) && (n2 == 0))), .z 23 (!((n1 == (-1)) && (n2 == 0))) (.pointer (some ⟨B1_1, 2, none⟩)), .z 24 (!((n1 == (-1)) && (n2 == 0))) (.pointer (some ⟨B1_1, 2, none⟩)), .y 25 (!((n1 == (-1)) && (n2 == 0))) (vi n1), .z 26 (!((n1 == (-1)) && (n2 == 0))) (.bool (decide (0 ≤ n1))), .z 27 (!((n1 == (-1)) && (n2 == 0))) (.bool (decide (0 ≤ n1))), .z 28 ((!((n1 == (-1)) && (n2 == 0))) && (decide (0 ≤ n1))) (.pointer (some ⟨B1_1, 2, none⟩)), .z 29 ((!((n1 == (-1)) && (n2 == 0))) && (decide (0 ≤ n1))) (.pointer (some ⟨B1_1, 2, none⟩)), .y 30 ((!((n1 == (-1)) && (n2 == 0))) && (decide (0 ≤ n1))) (vi n1), .z 31 ((!((n1 == (-1)) && (n2 == 0))) && (decide (0 ≤ n1))) (.bool (decide (n1 < 400))), .y 32 (!((n1 == (-1)) && (n2 == 0))) (.bool ((decide (0 ≤ n1)) && (decide (n1 < 400)))), .z 33 (!((n1 == (-1)) && (n2 == 0))) (.bool ((decide (0 ≤ n1)) && (decide (n1 < 400)))), .z 34 ((!((n1 == (-1)) && (n2 == 0))) && ((decide (0 ≤ n1)) && (decide (n1 < 400)))) (.pointer (some ⟨B1_1, 2, none⟩)), .z 35 ((!((n1 == (-1)) && (n2 == 0))) && ((decide (0 ≤ n1)) && (decide (n1 < 400)))) (.pointer (some ⟨B1_1, 3, none⟩)), .y 36 ((!((n1 == (-1)) && (n2 == 0))) && ((decide (0 ≤ n1)) && (decide (n1 < 400)))) (vi n2), .z 37 ((!((n1 == (-1)) && (n2 == 0))) && ((decide (0 ≤ n1)) && (decide (n1 < 400)))) (.bool (decide (0 ≤ n2))), .y 38 (!((n1 == (-1)) && (n2 == 0))) (.bool (((decide (0 ≤ n1)) && (decide (n1 < 400))) && (decide (0 ≤ n2)))), .z 39 (!((n1 == (-1)) && (n2 == 0))) (.bool (((decide (0 ≤ n1)) && (decide (n1 < 400))) && (decide (0 ≤ n2)))), .z 40 ((!((n1 == (-1)) && (n2 == 0))) && (((decide (0 ≤ n1)) && (decide (n1 < 400))) && (decide (0 ≤ n2)))) (.pointer (some ⟨B1_1, 2, none⟩)), .z 41 ((!((n1 == (-1)) && (n2 == 0))) && (((decide (0 ≤ n1)) && (decide (n1 < 400))) && (decide (0 ≤ n2)))) (.pointer (some ⟨B1_1, 3, none⟩)), .y 42 ((!((n1 == (-1)) && (n2 == 0))) && (((decide (0 ≤ n1)) && (decide (n1 < 400))) && (decide (0 ≤ n2)))) (vi n2), .z 43 ((!((n1 == (-1)) && (n2 == 0))) && (((decide (0 ≤ n1)) && (decide (n1 < 400))) && (decide (0 ≤ n2)))) (.bool (decide (n2 < 24))), .y 44 (!((n1 == (-1)) && (n2 == 0))) (.bool ((((decide (0 ≤ n1)) && (decide (n1 < 400))) && (decide (0 ≤ n2))) && (decide (n2 < 24)))), tO 45 ((n1 == (-1)) && (n2 == 0)) ((((decide (0 ≤ n1)) && (decide (n1 < 400))) && (decide (0 ≤ n2))) && (decide (n2 < 24))), .k 5 (.bool (((n1 == (-1)) && (n2 == 0)) || ((((decide (0 ≤ n1)) && (decide (n1 < 400))) && (decide (0 ≤ n2))) && (decide (n2 < 24)))))] [0] [2, 7, 13, 18, 20, 24, 26, 30, 32] [(5, 34, 1, 6), (6, 0, 34, 40)] hst3 ?_ fun W4 hst4 => ?_))
  · refine ⟨?_, ?_, ?_, ?_, ?_, ?_, ?_, ?_, ?_, trivial⟩
    · exact xs4 rfl id fun cx => run_load1 rfl (by kernel_rfl) (cx.an 1) ((cx.bi 0 rfl).cell 2)
    · exact m2 rfl (fun _ _ _ h => h) (fun cx => (cx.an 4)) fun cx hq => run_load1 rfl (by kernel_rfl) (mbv (cx.an 6) hq) ((cx.bi 0 rfl).cell 3)
    · exact m2 rfl (fun _ _ _ h => h) (fun cx => (cx.an 10)) fun cx hq => run_load1 rfl (by kernel_rfl) (mbv (cx.an 12) hq) ((cx.bi 0 rfl).cell 2)
    · exact m0 rfl (fun _ _ _ h => h) (fun cx => (cx.an 15)) fun cx hq => run_load1 rfl (by kernel_rfl) (mbv (cx.an 17) hq) ((cx.bi 0 rfl).cell 2)
    · exact m2 rfl (fun _ _ _ h => h) (fun cx => (cx.an 10)) fun cx hq => run_pick_and rfl (mbv (cx.an 15) hq) (cx.an 19) (fun e_ => by rw [hq, e_]; rfl) (cx.co _)
    · exact m0 rfl (fun _ _ _ h => h) (fun cx => (cx.an 21)) fun cx hq => run_load1 rfl (by kernel_rfl) (mbv (cx.an 23) hq) ((cx.bi 0 rfl).cell 3)
    · exact m2 rfl (fun _ _ _ h => h) (fun cx => (cx.an 10)) fun cx hq => run_pick_and rfl (mbv (cx.an 21) hq) (cx.an 25) (fun e_ => by rw [hq, e_]; rfl) (cx.co _)
    · exact m0 rfl (fun _ _ _ h => h) (fun cx => (cx.an 27)) fun cx hq => run_load1 rfl (by kernel_rfl) (mbv (cx.an 29) hq) ((cx.bi 0 rfl).cell 3)
    · exact m2 rfl (fun _ _ _ h => h) (fun cx => (cx.an 10)) fun cx hq => run_pick_and rfl (mbv (cx.an 27) hq) (cx.an 31) (fun e_ => by rw [hq, e_]; rfl) (cx.co _)
  refine then_normal (wp_seq (wp_region_Z [0, 1, 3, 7, 15, 31, 63, 127, 255, 511, 1023, 2047, 4095, 8191, 16383, 32767, 65535, 131071, 262143, 524287, 1048575, 2097151, 4194303] [[], [], [], [0], [], [], [], [], [], [], [0], [], [], [], [], [], [], [], [], [0]] [.k 46 (.bool (onF a)), .k 47 (.bool (onF a)), .z 48 (!(onF a)) (vp B1_1), .y 49 (!(onF a)) (vi a), .z 50 (!(onF a)) (.bool (a == 2)), tO 51 (onF a) (a == 2), .k 52 (.bool ((onF a) || (a == 2))), .z 53 ((onF a) || (a == 2)) (.bool (onF b)), .z 54 ((onF a) || (a == 2)) (.bool (onF b)), .z 55 (((onF a) || (a == 2)) && (!(onF b))) (.pointer (some ⟨B1_1, 1, none⟩)), .y 56 (((onF a) || (a == 2)) && (!(onF b))) (vi b), .z 57 (((onF a) || (a == 2)) && (!(onF b))) (.bool (b == 0)), .y 58 ((onF a) || (a == 2)) (.bool ((onF b) || (b == 0))), tA 59 ((onF a) || (a == 2)) ((onF b) || (b == 0)), .k 60 (.bool (((onF a) || (a == 2)) && ((onF b) || (b == 0)))), .z 61 (((onF a) || (a == 2)) && ((onF b) || (b == 0))) (.bool (((n1 == (-1)) && (n2 == 0)) || ((((decide (0 ≤ n1)) && (decide (n1 < 400))) && (decide (0 ≤ n2))) && (decide (n2 < 24))))), tA 62 (((onF a) || (a == 2)) && ((onF b) || (b == 0))) (((n1 == (-1)) && (n2 == 0)) || ((((decide (0 ≤ n1)) && (decide (n1 < 400))) && (decide (0 ≤ n2))) && (decide (n2 < 24)))), .k 63 (.bool ((((onF a) || (a == 2)) && ((onF b) || (b == 0))) && (((n1 == (-1)) && (n2 == 0)) || ((((decide (0 ≤ n1)) && (decide (n1 < 400))) && (decide (0 ≤ n2))) && (decide (n2 < 24)))))), .z 64 ((((onF a) || (a == 2)) && ((onF b) || (b == 0))) && (((n1 == (-1)) && (n2 == 0)) || ((((decide (0 ≤ n1)) && (decide (n1 < 400))) && (decide (0 ≤ n2))) && (decide (n2 < 24))))) (.pointer (some ⟨B1_1, 5, none⟩)), .y 65 ((((onF a) || (a == 2)) && ((onF b) || (b == 0))) && (((n1 == (-1)) && (n2 == 0)) || ((((decide (0 ≤ n1)) && (decide (n1 < 400))) && (decide (0 ≤ n2))) && (decide (n2 < 24))))) (.slice RA rs.length rc), .y 66 ((((onF a) || (a == 2)) && ((onF b) || (b == 0))) && (((n1 == (-1)) && (n2 == 0)) || ((((decide (0 ≤ n1)) && (decide (n1 < 400))) && (decide (0 ≤ n2))) && (decide (n2 < 24))))) (.bool (rrightF rs)), tA 67 ((((onF a) || (a == 2)) && ((onF b) || (b == 0))) && (((n1 == (-1)) && (n2 == 0)) || ((((decide (0 ≤ n1)) && (decide (n1 < 400))) && (decide (0 ≤ n2))) && (decide (n2 < 24))))) (rrightF rs), .k 2 (.bool (((((onF a) || (a == 2)) && ((onF b) || (b == 0))) && (((n1 == (-1)) && (n2 == 0)) || ((((decide (0 ≤ n1)) && (decide (n1 < 400))) && (decide (0 ≤ n2))) && (decide (n2 < 24))))) && (rrightF rs)))] [0] [3, 10, 12, 19, 20] [(2, 22, 1, 3), (43, 0, 22, 65)] hst4 ?_ fun W5 hst5 => ?_))
  · refine ⟨?_, ?_, ?_, ?_, ?_, trivial⟩
    · exact m2 rfl (fun _ _ _ h => h) (fun cx => (cx.an 1)) fun cx hq => run_load1 rfl (by kernel_rfl) (mbv (cx.an 2) hq) ((cx.bi 0 rfl).cell 0)
    · exact m0 rfl (fun _ _ _ h => h) (fun cx => (cx.an 8)) fun cx hq => run_load1 rfl (by kernel_rfl) (mbv (cx.an 9) hq) ((cx.bi 0 rfl).cell 1)
    · exact m2 rfl (fun _ _ _ h => h) (fun cx => (cx.an 6)) fun cx hq => run_pick_or rfl (mbv (cx.an 8) hq) (cx.co _) (cx.an 11) (fun e_ => by rw [hq, e_]; rfl)
    · exact m2 rfl (fun _ _ _ h => h) (fun cx => (cx.an 17)) fun cx hq => run_load1 rfl (by kernel_rfl) (mbv (cx.an 18) hq) ((cx.bi 0 rfl).cell 5)
    · exact m3 rfl (fun _ _ _ h => h) (fun cx => (cx.an 17)) fun cx hq => ⟨_, _, run_callF (args := #[.slice RA rs.length rc]) rfl cx.sees rfl (by kernel_rfl) (map1 (mbv (cx.an 19) hq)), r02row_any _ _ rs _ (hA.ext cx.upd.to_ext) (by omega)⟩
  refine then_normal (wp_ret ?_)
  refine bodyPost_ret (v := .bool (((((onF a) || (a == 2)) && ((onF b) || (b == 0))) && (((n1 == (-1)) && (n2 == 0)) || ((((decide (0 ≤ n1)) && (decide (n1 < 400))) && (decide (0 ≤ n2))) && (decide (n2 < 24))))) && (rrightF rs))) (results_tmp Tryd.results80 rfl) rfl ?_
  exact Ret.bool (by rw [trightF, onZ, tnextF, Bool.or_comm (a == 2), Bool.or_comm (b == 0)]) hst5.ext
set_option maxRecDepth 100000 in
set_option maxHeartbeats 4000000 in
theorem r08bytes_any (a b n1 n2 : Int) (ho : Bool) (RA : Option Addr) (rc : Nat) (rs : List Val) (w : World) (hA : At w RA (flatR rs)) (hlr : rs.length ≤ 9223372036854775807) :
    Calls Tryd.prog 53 #[.agg #[.int .i64 a, .int .i64 b, .int .i64 n1, .int .i64 n2, .bool ho, .slice RA rs.length rc]] w (Ret (.string (tbytesF a b n1 n2 ho rs)) w) := by
  go_enter Tryd.func53, Tryd.ntmps53
  have hst0 := St.start w
  refine wp_seq (wp_region_Y [0, 0] [] [[0]] [] [.a 1, .k 2 (.string ⟨#[]⟩)] (fun ix σ β X => match ix with | 0 => σ 1 = vp (pb (β 1)) ∧ X 0 = eB (pb (β 1)) 41 #[vi a, vi b, vi n1, vi n2, .bool ho, .slice RA rs.length rc] | _ => True) [0] [0] [(1, 0, 2, 3)] hst0 ?_ ?_ ?_)
  · exact fun ix _ _ _ _ _ _ hs hb hx h => match ix, h with
    | 0, h => by dsimp only at h ⊢; rw [← hs 1 rfl, ← hb 1 rfl, ← hx 0 rfl]; exact h
    | _ + 1, _ => trivial
  · refine ⟨?_, trivial⟩
    · refine sv_any rfl rfl fun ρ β W X cx => ?_
      exact dv_box (cs := #[vi a, vi b, vi n1, vi n2, .bool ho, .slice RA rs.length rc]) rfl (cx.ou 0) rfl rfl rfl (fun σ β' X' hs hb hv hx => ⟨hv, hx⟩)
  intro σ β X W1 hD hst1 fr hfr
  obtain ⟨B1_1, hu_B1_1⟩ : ∃ z, pb (β 1) = z := ⟨_, rfl⟩
  simp only [exq 0 ((dTn (hD 0 lq)).2), hu_B1_1] at hst1
  simp only [ed 1 ((dTn (hD 0 lq)).1), hu_B1_1] at hfr
  clear hD hu_B1_1; subst hfr; clear σ β X
  refine then_normal (wp_seq (wp_seq (wp_region_Z [0, 1, 3] [[0]] [.c 5 (.agg #[vi a, vi b, vi n1, vi n2, .bool ho, .slice RA rs.length rc]), .c 6 (.bool (trightF a b n1 n2 rs)), .k 7 (.bool (!(trightF a b n1 n2 rs)))] [0] [0, 1] [(5, 0, 3, 8)] hst1 ?_ fun W2 hst2 => ?_)))
  · refine ⟨?_, ?_, trivial⟩
    · exact xs4 rfl id fun cx => run_loadB (n := 6) rfl (by kernel_rfl) (by kernel_rfl) (cx.ou 1) (cx.bi 0 rfl) (nle rfl) rfl
    · exact xsc rfl id rfl rfl fun cx => ⟨_, r08right_any a b n1 n2 ho _ _ rs _ (hA.ext cx.upd.to_ext) (by omega), (map1 (cx.an 0))⟩
  refine then_normal ?_
  rcases Bool.eq_false_or_eq_true (trightF a b n1 n2 rs) with hs3 | hs3
  · skip
    refine wp_cond_false (show Act.eval _ _ = .bool false from (congrArg Value.bool (by rw [hs3]; rfl))) (wp_skip (then_normal (wp_seq (wp_region_P [0] [.k 3 (vi 0)] [(3, 0, 1, 4)] hst2 fun W4 hst4 => ?_))))
    refine then_normal (wp_seq (wp_seq (wp_region_Z [0, 1] [[], [0]] [.k 8 (.pointer (some ⟨B1_1, 4, none⟩)), .c 9 (.bool ho)] [0] [1] [(8, 0, 2, 10)] hst4 ?_ fun W5 hst5 => ?_)))
    · refine ⟨?_, trivial⟩
      · exact xs4 rfl id fun cx => run_load1 rfl (by kernel_rfl) (cx.an 0) ((cx.bi 0 rfl).cell 4)
    refine then_normal ?_
    rcases Bool.eq_false_or_eq_true (ho) with hs6 | hs6
    · skip
      refine wp_cond_true (show Act.eval _ _ = .bool true from (congrArg Value.bool hs6)) (wp_region_P [0] [.k 3 (vi 1)] [(3, 0, 1, 4)] hst5 fun W7 hst7 => ?_)
      refine then_normal (wp_seq (wp_region_Z [0, 1, 3, 7] [[], [0]] [.k 10 (.pointer (some ⟨B1_1, 5, none⟩)), .c 11 (.slice RA rs.length rc), .c 12 (.string (vbytesF rs)), .k 4 (.string (vbytesF rs))] [0] [1, 2] [(4, 3, 1, 5), (5, 0, 3, 8)] hst7 ?_ fun W8 hst8 => ?_))
      · refine ⟨?_, ?_, trivial⟩
        · exact xs4 rfl id fun cx => run_load1 rfl (by kernel_rfl) (cx.an 0) ((cx.bi 0 rfl).cell 5)
        · exact xsc rfl id rfl rfl fun cx => ⟨_, r02bytes_any _ _ rs _ (hA.ext cx.upd.to_ext) (by omega), (map1 (cx.an 1))⟩
      refine then_normal (wp_seq ?_)
      have hpt := tright_parts (by assumption : trightF a b n1 n2 rs = true)
      have hvz := vbytes_size rs
      have hps1 : ∀ z : Int, (putS z 1).size = 1 := fun z => putS_size z 1 (by omega)
      have hps2 : ∀ z : Int, (putS z 2).size = 2 := fun z => putS_size z 2 (by omega)
      refine wp_region_Z [0, 1, 3, 0, 8, 31, 63, 0, 128, 384, 896, 1983, 4095, 0, 8192, 24576, 61375, 131071, 0, 389055, 1048575, 0, 2097152, 7204799, 16777215, 0, 67108863, 134217727] [[], [0], [], [], [0], [], [], [], [], [0], [], [], [], [], [], [0]] [.k 13 (vp B1_1), .c 14 (vi a), .c 15 (.string (putS a 1)), .k 16 (.pointer (some ⟨B1_1, 1, none⟩)), .c 17 (vi b), .c 18 (.string (putS b 1)), tS 19 (putS a 1) (putS b 1) (by simp only [ByteArray.size_append, hps1, hps2]; omega), .k 20 (.pointer (some ⟨B1_1, 2, none⟩)), .k 21 (.pointer (some ⟨B1_1, 2, none⟩)), .c 22 (vi n1), tI 23 (n1 + 1) (by omega), .c 24 (.string (putS (n1 + 1) 2)), tS 25 ((putS a 1) ++ (putS b 1)) (putS (n1 + 1) 2) (by simp only [ByteArray.size_append, hps1, hps2]; omega), .k 26 (.pointer (some ⟨B1_1, 2, none⟩)), .k 27 (.pointer (some ⟨B1_1, 3, none⟩)), .c 28 (vi n2), .c 29 (.string (putS n2 1)), tS 30 (((putS a 1) ++ (putS b 1)) ++ (putS (n1 + 1) 2)) (putS n2 1) (by simp only [ByteArray.size_append, hps1, hps2]; omega), .k 31 (vi 1), .c 32 (.string (putS 1 1)), tS 33 ((((putS a 1) ++ (putS b 1)) ++ (putS (n1 + 1) 2)) ++ (putS n2 1)) (putS 1 1) (by simp only [ByteArray.size_append, hps1, hps2]; omega), .k 34 (.string (vbytesF rs)), .k 35 (vi (((vbytesF rs).size : Int))), .c 36 (.string (putS ((vbytesF rs).size : Int) 2)), tS 37 (((((putS a 1) ++ (putS b 1)) ++ (putS (n1 + 1) 2)) ++ (putS n2 1)) ++ (putS 1 1)) (putS ((vbytesF rs).size : Int) 2) (by simp only [ByteArray.size_append, hps1, hps2]; omega), .k 38 (.string (vbytesF rs)), tS 39 ((((((putS a 1) ++ (putS b 1)) ++ (putS (n1 + 1) 2)) ++ (putS n2 1)) ++ (putS 1 1)) ++ (putS ((vbytesF rs).size : Int) 2)) (vbytesF rs) (by simp only [ByteArray.size_append, hps1, hps2]; omega), .k 2 (.string (((((((putS a 1) ++ (putS b 1)) ++ (putS (n1 + 1) 2)) ++ (putS n2 1)) ++ (putS 1 1)) ++ (putS ((vbytesF rs).size : Int) 2)) ++ (vbytesF rs)))] [0] [1, 2, 4, 5, 9, 11, 15, 16, 19, 23] [(2, 27, 1, 3), (10, 0, 27, 37)] hst8 ?_ fun W9 hst9 => ?_
      · refine ⟨?_, ?_, ?_, ?_, ?_, ?_, ?_, ?_, ?_, ?_, trivial⟩
        · exact xs4 rfl id fun cx => run_load1 rfl (by kernel_rfl) (cx.an 0) ((cx.bi 0 rfl).cell 0)
        · exact xsc rfl id rfl rfl fun cx => ⟨_, r04num_any a 1 _ (by omega), (map2 (cx.an 1) (cx.co _))⟩
        · exact xs4 rfl id fun cx => run_load1 rfl (by kernel_rfl) (cx.an 3) ((cx.bi 0 rfl).cell 1)
        · exact xsc rfl id rfl rfl fun cx => ⟨_, r04num_any b 1 _ (by omega), (map2 (cx.an 4) (cx.co _))⟩
        · exact xs4 rfl id fun cx => run_load1 rfl (by kernel_rfl) (cx.an 8) ((cx.bi 0 rfl).cell 2)
        · exact xsc rfl id rfl rfl fun cx => ⟨_, r04num_any (n1 + 1) 2 _ (by omega), (map2 (cx.an 10) (cx.co _))⟩
        · exact xs4 rfl id fun cx => run_load1 rfl (by kernel_rfl) (cx.an 14) ((cx.bi 0 rfl).cell 3)
        · exact xsc rfl id rfl rfl fun cx => ⟨_, r04num_any n2 1 _ (by omega), (map2 (cx.an 15) (cx.co _))⟩
        · exact xsc rfl id rfl rfl fun cx => ⟨_, r04num_any 1 1 _ (by omega), (map2 (cx.an 18) (cx.co _))⟩
        · exact xsc rfl id rfl rfl fun cx => ⟨_, r04num_any ((vbytesF rs).size : Int) 2 _ (by omega), (map2 (cx.an 22) (cx.co _))⟩
      refine then_normal (wp_ret ?_)
      refine bodyPost_ret (v := .string (((((((putS a 1) ++ (putS b 1)) ++ (putS (n1 + 1) 2)) ++ (putS n2 1)) ++ (putS 1 1)) ++ (putS ((vbytesF rs).size : Int) 2)) ++ (vbytesF rs))) (results_tmp Tryd.results53 rfl) rfl ?_
      exact Ret.of (by rw [← tb_cat (by assumption), hotI, show ho = true by assumption]; rfl) hst9.ext
    refine wp_cond_false (show Act.eval _ _ = .bool false from (congrArg Value.bool hs6)) (wp_skip (then_normal (wp_seq (wp_region_Z [0, 1, 3, 7] [[], [0]] [.k 10 (.pointer (some ⟨B1_1, 5, none⟩)), .c 11 (.slice RA rs.length rc), .c 12 (.string (vbytesF rs)), .k 4 (.string (vbytesF rs))] [0] [1, 2] [(4, 3, 1, 5), (5, 0, 3, 8)] hst5 ?_ fun W10 hst10 => ?_))))
    · refine ⟨?_, ?_, trivial⟩
      · exact xs4 rfl id fun cx => run_load1 rfl (by kernel_rfl) (cx.an 0) ((cx.bi 0 rfl).cell 5)
      · exact xsc rfl id rfl rfl fun cx => ⟨_, r02bytes_any _ _ rs _ (hA.ext cx.upd.to_ext) (by omega), (map1 (cx.an 1))⟩
    refine then_normal (wp_seq ?_)
    have hpt := tright_parts (by assumption : trightF a b n1 n2 rs = true)
    have hvz := vbytes_size rs
    have hps1 : ∀ z : Int, (putS z 1).size = 1 := fun z => putS_size z 1 (by omega)
    have hps2 : ∀ z : Int, (putS z 2).size = 2 := fun z => putS_size z 2 (by omega)
    refine wp_region_Z [0, 1, 3, 0, 8, 31, 63, 0, 128, 384, 896, 1983, 4095, 0, 8192, 24576, 61375, 131071, 0, 389055, 1048575, 0, 2097152, 7204799, 16777215, 0, 67108863, 134217727] [[], [0], [], [], [0], [], [], [], [], [0], [], [], [], [], [], [0]] [.k 13 (vp B1_1), .c 14 (vi a), .c 15 (.string (putS a 1)), .k 16 (.pointer (some ⟨B1_1, 1, none⟩)), .c 17 (vi b), .c 18 (.string (putS b 1)), tS 19 (putS a 1) (putS b 1) (by simp only [ByteArray.size_append, hps1, hps2]; omega), .k 20 (.pointer (some ⟨B1_1, 2, none⟩)), .k 21 (.pointer (some ⟨B1_1, 2, none⟩)), .c 22 (vi n1), tI 23 (n1 + 1) (by omega), .c 24 (.string (putS (n1 + 1) 2)), tS 25 ((putS a 1) ++ (putS b 1)) (putS (n1 + 1) 2) (by simp only [ByteArray.size_append, hps1, hps2]; omega), .k 26 (.pointer (some ⟨B1_1, 2, none⟩)), .k 27 (.pointer (some ⟨B1_1, 3, none⟩)), .c 28 (vi n2), .c 29 (.string (putS n2 1)), tS 30 (((putS a 1) ++ (putS b 1)) ++ (putS (n1 + 1) 2)) (putS n2 1) (by simp only [ByteArray.size_append, hps1, hps2]; omega), .k 31 (vi 0), .c 32 (.string (putS 0 1)), tS 33 ((((putS a 1) ++ (putS b 1)) ++ (putS (n1 + 1) 2)) ++ (putS n2 1)) (putS 0 1) (by simp only [ByteArray.size_append, hps1, hps2]; omega), .k 34 (.string (vbytesF rs)), .k 35 (vi (((vbytesF rs).size : Int))), .c 36 (.string (putS ((vbytesF rs).size : Int) 2)), tS 37 (((((putS a 1) ++ (putS b 1)) ++ (putS (n1 + 1) 2)) ++ (putS n2 1)) ++ (putS 0 1)) (putS ((vbytesF rs).size : Int) 2) (by simp only [ByteArray.size_append, hps1, hps2]; omega), .k 38 (.string (vbytesF rs)), tS 39 ((((((putS a 1) ++ (putS b 1)) ++ (putS (n1 + 1) 2)) ++ (putS n2 1)) ++ (putS 0 1)) ++ (putS ((vbytesF rs).size : Int) 2)) (vbytesF rs) (by simp only [ByteArray.size_append, hps1, hps2]; omega), .k 2 (.string (((((((putS a 1) ++ (putS b 1)) ++ (putS (n1 + 1) 2)) ++ (putS n2 1)) ++ (putS 0 1)) ++ (putS ((vbytesF rs).size : Int) 2)) ++ (vbytesF rs)))] [0] [1, 2, 4, 5, 9, 11, 15, 16, 19, 23] [(2, 27, 1, 3), (10, 0, 27, 37)] hst10 ?_ fun W11 hst11 => ?_
    · refine ⟨?_, ?_, ?_, ?_, ?_, ?_, ?_, ?_, ?_, ?_, trivial⟩
      · exact xs4 rfl id fun cx => run_load1 rfl (by kernel_rfl) (cx.an 0) ((cx.bi 0 rfl).cell 0)
      · exact xsc rfl id rfl rfl fun cx => ⟨_, r04num_any a 1 _ (by omega), (map2 (cx.an 1) (cx.co _))⟩
      · exact xs4 rfl id fun cx => run_load1 rfl (by kernel_rfl) (cx.an 3) ((cx.bi 0 rfl).cell 1)
      · exact xsc rfl id rfl rfl fun cx => ⟨_, r04num_any b 1 _ (by omega), (map2 (cx.an 4) (cx.co _))⟩
      · exact xs4 rfl id fun cx => run_load1 rfl (by kernel_rfl) (cx.an 8) ((cx.bi 0 rfl).cell 2)
      · exact xsc rfl id rfl rfl fun cx => ⟨_, r04num_any (n1 + 1) 2 _ (by omega), (map2 (cx.an 10) (cx.co _))⟩
      · exact xs4 rfl id fun cx => run_load1 rfl (by kernel_rfl) (cx.an 14) ((cx.bi 0 rfl).cell 3)
      · exact xsc rfl id rfl rfl fun cx => ⟨_, r04num_any n2 1 _ (by omega), (map2 (cx.an 15) (cx.co _))⟩
      · exact xsc rfl id rfl rfl fun cx => ⟨_, r04num_any 0 1 _ (by omega), (map2 (cx.an 18) (cx.co _))⟩
      · exact xsc rfl id rfl rfl fun cx => ⟨_, r04num_any ((vbytesF rs).size : Int) 2 _ (by omega), (map2 (cx.an 22) (cx.co _))⟩
    refine then_normal (wp_ret ?_)
    refine bodyPost_ret (v := .string (((((((putS a 1) ++ (putS b 1)) ++ (putS (n1 + 1) 2)) ++ (putS n2 1)) ++ (putS 0 1)) ++ (putS ((vbytesF rs).size : Int) 2)) ++ (vbytesF rs))) (results_tmp Tryd.results53 rfl) rfl ?_
    exact Ret.of (by rw [← tb_cat (by assumption), hotI, show ho = false by assumption]; rfl) hst11.ext
  refine wp_cond_true (show Act.eval _ _ = .bool true from (congrArg Value.bool (by rw [hs3]; rfl))) (wp_seq (wp_region_P [0] [.k 2 (.string ⟨#[]⟩)] [(2, 0, 1, 3)] hst2 fun W12 hst12 => ?_))
  refine then_normal (wp_ret (then_ret ?_))
  refine bodyPost_ret (v := .string ⟨#[]⟩) (results_tmp Tryd.results53 rfl) rfl ?_
  exact Ret.of (by rw [tbytesF, if_neg (by simp [*])]; rfl) hst12.ext
end
end Go.Proofs.YtjnplglnnamfdaaDoor
namespace Go.Proofs.YtjnplglnnamfdaaDoor
section
open Go.RowKit
set_option linter.unusedVariables false
set_option linter.unusedSimpArgs false
/-- where a reader stands that has read fields of these widths (the last one first), and whether it has failed -/
def stT (s : ByteArray) : List Nat → Nat × Bool
  | [] => (0, false)
  | k :: L => if (stT s L).2 = false ∧ (stT s L).1 + k ≤ s.size then ((stT s L).1 + k, false) else ((stT s L).1, true)
def stV (s : ByteArray) (L : List Nat) (k : Nat) : Int := if (stT s L).2 = false ∧ (stT s L).1 + k ≤ s.size then (numS s (stT s L).1 k : Int) else 0
theorem stT_le (s : ByteArray) (L : List Nat) : (stT s L).1 ≤ s.size := by
  cases L with
  | nil => exact Nat.zero_le _
  | cons k L =>
    have := stT_le s L
    simp only [stT]
    split <;> omega
theorem stV_bd (s : ByteArray) (L : List Nat) : 0 ≤ stV s L 2 ∧ stV s L 2 < 65536 := by
  have := numS_lt2 s (stT s L).1
  rw [stV]
  split <;> omega
theorem num_st (B : Nat) (s : ByteArray) (L : List Nat) (k : Nat) (w : World) (h : Rd 168 w B s (stT s L).1 (stT s L).2) (hk : k ≤ 4) :
    Calls Tryd.prog 65 #[.pointer (some ⟨B, 0, none⟩), .int .i64 k] w (RdPost 168 (.int .i64 (stV s L k)) B s (stT s (k :: L)).1 (stT s (k :: L)).2 w) := by
  by_cases hc : (stT s L).2 = false ∧ (stT s L).1 + k ≤ s.size
  · have e1 : stT s (k :: L) = ((stT s L).1 + k, false) := by simp only [stT]; rw [if_pos hc]
    rw [e1, stV, if_pos hc]
    rw [hc.1] at h
    exact num_ok B s _ k w h hk hc.2
  · have e1 : stT s (k :: L) = ((stT s L).1, true) := by simp only [stT]; rw [if_neg hc]
    rw [e1, stV, if_neg hc]
    refine num_bad B s _ k _ w h hk ?_
    cases hf : (stT s L).2 with
    | true => exact .inl rfl
    | false => exact .inr (Nat.lt_of_not_le fun h_ => hc ⟨hf, h_⟩)
theorem st_short {s : ByteArray} (h : s.size < 8) : (stT s [1, 1, 2, 1, 1]).2 = true ∨ s.size < (stT s [1, 1, 2, 1, 1]).1 + 2 := by
  simp only [stT]
  repeat' split
  all_goals first | exact .inl rfl | (refine .inr ?_; simp only at *; omega) | (simp_all <;> omega)
set_option maxRecDepth 100000 in
set_option maxHeartbeats 2000000 in
theorem tread_sh (s : ByteArray) (w : World) (hs : s.size < 8) :
    Calls Tryd.prog 35 #[.string s] w (Ret (.tuple #[.agg #[.int .i64 0, .int .i64 0, .int .i64 0, .int .i64 0, .bool false, .slice none 0 0], .int .i64 10]) w) := by
  have hvb := stV_bd s [1, 1]
  go_enter Tryd.func35, Tryd.ntmps35
  have hst0 := St.start w
  refine wp_seq (wp_region_Y [0, 0] [] [[0]] [] [.a 2, .k 3 (vi 0)] (fun ix σ β X => match ix with | 0 => σ 2 = vp (pb (β 2)) ∧ X 0 = eB (pb (β 2)) 41 #[vi 0, vi 0, vi 0, vi 0, .bool false, .slice none 0 0] | _ => True) [0] [0] [(2, 0, 2, 4)] hst0 ?_ ?_ ?_)
  · exact fun ix _ _ _ _ _ _ hs hb hx h => match ix, h with
    | 0, h => by dsimp only at h ⊢; rw [← hs 2 rfl, ← hb 2 rfl, ← hx 0 rfl]; exact h
    | _ + 1, _ => trivial
  · refine ⟨?_, trivial⟩
    · refine sv_any rfl rfl fun ρ β W X cx => ?_
      exact dv_alloc (cs := #[vi 0, vi 0, vi 0, vi 0, .bool false, .slice none 0 0]) rfl (by kernel_rfl) rfl rfl (fun σ β' X' hs hb hv hx => ⟨hv, hx⟩)
  intro σ β X W1 hD hst1 fr hfr
  obtain ⟨B2_1, hu_B2_1⟩ : ∃ z, pb (β 2) = z := ⟨_, rfl⟩
  simp only [exq 0 ((dTn (hD 0 lq)).2), hu_B2_1] at hst1
  simp only [ed 2 ((dTn (hD 0 lq)).1), hu_B2_1] at hfr
  clear hD hu_B2_1; subst hfr; clear σ β X
  refine then_normal (wp_seq (wp_region_Y [0, 1, 3] [] [[], [1]] [] [.k 9 (.string s), .a 10, .a 4] (fun ix σ β X => match ix with | 0 => True | 1 => σ 10 = vp (pb (β 10)) ∧ X 1 = eB (pb (β 10)) 168 #[.string s, vi (((stT s []).1 : Int)), .bool ((stT s []).2)] | 2 => σ 4 = vp (pb (β 10)) | _ => True) [0, 1] [1, 2] [(4, 2, 1, 5), (4, 0, 2, 6)] hst1 ?_ ?_ ?_))
  · exact fun ix _ _ _ _ _ _ hs hb hx h => match ix, h with
    | 1, h => by dsimp only at h ⊢; rw [← hs 10 rfl, ← hb 10 rfl, ← hx 1 rfl]; exact h
    | 2, h => by dsimp only at h ⊢; rw [← hs 4 rfl, ← hb 10 rfl]; exact h
    | 0, _ | _ + 3, _ => trivial
  · refine ⟨?_, ?_, trivial⟩
    · refine sv_any rfl rfl fun ρ β W X cx => ?_
      refine DoesU.call (run_callF (args := #[.string s]) rfl cx.sees rfl (by kernel_rfl) (map1 (cx.an 0))) ?_
      refine (oread_b s _).mono ?_
      rintro e W1 ⟨B4, rfl, ⟨hb4, hw4⟩, hx⟩
      refine ⟨_, rfl, post_call [eB B4 168 #[.string s, vi (((stT s []).1 : Int)), .bool ((stT s []).2)]] rfl rfl hx (one_new ⟨hb4, eB_loc _ _ _, fun k hk => by simp [eB] at hk; subst hk; exact ⟨hw4, hb4.lt⟩⟩) (List.pairwise_singleton _ _) (fun σ β' X' hs hb hv hN => ?_)⟩
      have hv1 := (hv 10 rfl).1; have hv2 := (hv 10 rfl).2
      exact ⟨hv1.trans (by rw [hv2]; rfl), (by rw [hv2]; exact (List.cons.inj hN).1)⟩
    · exact sv rfl rfl rfl rfl rfl _ (fun _ _ _ h => h) (fun β β' h => by rw [h 10 (by decide)]) fun ρ β W X cx => run_assign' rfl (dTn (cx.an 1)).1
  intro σ β X W2 hD hst2 fr hfr
  obtain ⟨B10_2, hu_B10_2⟩ : ∃ z, pb (β 10) = z := ⟨_, rfl⟩
  simp only [exq 1 ((dTn (hD 1 lq)).2), hu_B10_2] at hst2
  simp only [ed 10 ((dTn (hD 1 lq)).1), ed 4 ((dTn (hD 2 lq))), hu_B10_2] at hfr
  clear hD hu_B10_2; subst hfr; clear σ β X
  refine then_normal (wp_seq (wp_region_Y [0, 1, 0, 7, 15, 0, 63] [[], [1], [], [2], [], [], [4]] [[], [2], [], [3], [], [4], [5]] [[], [1], [], [2], [], [], [4]] [.k 11 (vp B10_2), .a 12, .k 13 (vp B10_2), .a 14, .c 15 (.agg #[vi ((stV s [] 1)), vi ((stV s [1] 1)), vi 0, vi 0, .bool false, .slice none 0 0]), .a 5, .n] (fun ix σ β X => match ix with | 0 => True | 1 => σ 12 = vi ((stV s [] 1)) ∧ X 2 = eB B10_2 168 #[.string s, vi (((stT s [1]).1 : Int)), .bool ((stT s [1]).2)] | 2 => True | 3 => σ 14 = vi ((stV s [1] 1)) ∧ X 3 = eB B10_2 168 #[.string s, vi (((stT s [1, 1]).1 : Int)), .bool ((stT s [1, 1]).2)] | 4 => True | 5 => σ 5 = vp (pb (β 5)) ∧ X 4 = eB (pb (β 5)) 41 #[vi 0, vi 0, vi 0, vi 0, .bool false, .slice none 0 0] | 6 => X 5 = eB (pb (β 5)) 41 #[vi ((stV s [] 1)), vi ((stV s [1] 1)), vi 0, vi 0, .bool false, .slice none 0 0] | _ => True) [0, 3, 5] [1, 3, 4, 5, 6] [(5, 5, 1, 6), (5, 0, 5, 10)] hst2 ?_ ?_ ?_))
  · exact fun ix _ _ _ _ _ _ hs hb hx h => match ix, h with
    | 1, h => by dsimp only at h ⊢; rw [← hs 12 rfl, ← hx 2 rfl]; exact h
    | 3, h => by dsimp only at h ⊢; rw [← hs 14 rfl, ← hx 3 rfl]; exact h
    | 5, h => by dsimp only at h ⊢; rw [← hs 5 rfl, ← hb 5 rfl, ← hx 4 rfl]; exact h
    | 6, h => by dsimp only at h ⊢; rw [← hb 5 rfl, ← hx 5 rfl]; exact h
    | 0, _ | 2, _ | 4, _ | _ + 7, _ => trivial
  · refine ⟨?_, ?_, ?_, ?_, ?_, trivial⟩
    · refine sv_any rfl rfl fun ρ β W X cx => ?_
      refine DoesU.call (run_callF (args := #[vp B10_2, vi 1]) rfl cx.sees rfl (by kernel_rfl) (map2 (cx.an 0) (cx.co _))) ?_
      refine (num_st _ s [] 1 _ ⟨(cx.bi 1 rfl), stT_le s _, by omega⟩ (by omega)).mono ?_
      rintro e W1 ⟨rfl, hrd, hu⟩
      refine ⟨_, rfl, post_mut (cx.init 1 _ rfl) rfl rfl hu hrd.1 (fun σ β' X' hs hb hv hx => ?_)⟩
      exact ⟨(hv 12 rfl).1.trans rfl, hx⟩
    · refine sv_any rfl rfl fun ρ β W X cx => ?_
      refine DoesU.call (run_callF (args := #[vp B10_2, vi 1]) rfl cx.sees rfl (by kernel_rfl) (map2 (cx.an 2) (cx.co _))) ?_
      refine (num_st _ s [1] 1 _ ⟨(cx.blk (dTn (cx.an 1)).2 rfl), stT_le s _, by omega⟩ (by omega)).mono ?_
      rintro e W1 ⟨rfl, hrd, hu⟩
      refine ⟨_, rfl, post_mut (dTn (cx.an 1)).2 rfl rfl hu hrd.1 (fun σ β' X' hs hb hv hx => ?_)⟩
      exact ⟨(hv 14 rfl).1.trans rfl, hx⟩
    · exact xs4 rfl id fun cx => run_buildL rfl (pmc (dTn (cx.an 1)).1 (pmc (dTn (cx.an 3)).1 pmn)) (by kernel_rfl)
    · refine sv_any rfl rfl fun ρ β W X cx => ?_
      exact dv_alloc (cs := #[vi 0, vi 0, vi 0, vi 0, .bool false, .slice none 0 0]) rfl (by kernel_rfl) rfl rfl (fun σ β' X' hs hb hv hx => ⟨hv, hx⟩)
    · refine sv_any rfl rfl fun ρ β W X cx => ?_
      exact dv_store (n := 6) rfl (dTn (cx.an 5)).1 (cx.an 4) (by kernel_rfl) (by kernel_rfl) (by kernel_rfl) cx (dTn (cx.an 5)).2 rfl (nle rfl) (by kernel_rfl) rfl rfl rfl (fun σ β' X' hs hb hx => by rw [hb 5]; exact hx)
  intro σ β X W3 hD hst3 fr hfr
  obtain ⟨B5_3, hu_B5_3⟩ : ∃ z, pb (β 5) = z := ⟨_, rfl⟩
  simp only [exq 3 ((dTn (hD 3 lq)).2), exq 5 ((dTn (hD 6 lq))), hu_B5_3] at hst3
  simp only [ed 12 ((dTn (hD 1 lq)).1), ed 14 ((dTn (hD 3 lq)).1), ed 5 ((dTn (hD 5 lq)).1), hu_B5_3] at hfr
  clear hD hu_B5_3; subst hfr; clear σ β X
  refine then_normal (wp_seq (wp_region_Y [0, 1, 3, 0, 11, 31, 63, 127] [[], [1], [], [], [3], [], [], [2]] [[], [3], [], [], [4], [], [], [5]] [[], [1], [], [], [3], [], [], [2]] [.k 16 (vp B10_2), .a 17, .c 18 (vi ((stV s [1, 1] 2) - 1)), .k 19 (vp B10_2), .a 20, .c 21 (.agg #[vi ((stV s [1, 1] 2) - 1), vi ((stV s [2, 1, 1] 1))]), .k 22 (.pointer (some ⟨B5_3, 2, none⟩)), .n] (fun ix σ β X => match ix with | 0 => True | 1 => σ 17 = vi ((stV s [1, 1] 2)) ∧ X 3 = eB B10_2 168 #[.string s, vi (((stT s [2, 1, 1]).1 : Int)), .bool ((stT s [2, 1, 1]).2)] | 2 => True | 3 => True | 4 => σ 20 = vi ((stV s [2, 1, 1] 1)) ∧ X 4 = eB B10_2 168 #[.string s, vi (((stT s [1, 2, 1, 1]).1 : Int)), .bool ((stT s [1, 2, 1, 1]).2)] | 5 => True | 6 => True | 7 => X 5 = eB B5_3 41 #[vi ((stV s [] 1)), vi ((stV s [1] 1)), vi ((stV s [1, 1] 2) - 1), vi ((stV s [2, 1, 1] 1)), .bool false, .slice none 0 0] | _ => True) [0, 4, 5] [1, 2, 4, 5, 7] [(16, 0, 7, 23)] hst3 ?_ ?_ ?_))
  · exact fun ix _ _ _ _ _ _ hs hb hx h => match ix, h with
    | 1, h => by dsimp only at h ⊢; rw [← hs 17 rfl, ← hx 3 rfl]; exact h
    | 4, h => by dsimp only at h ⊢; rw [← hs 20 rfl, ← hx 4 rfl]; exact h
    | 7, h => by dsimp only at h ⊢; rw [← hx 5 rfl]; exact h
    | 0, _ | 2, _ | 3, _ | 5, _ | 6, _ | _ + 8, _ => trivial
  · refine ⟨?_, ?_, ?_, ?_, ?_, trivial⟩
    · refine sv_any rfl rfl fun ρ β W X cx => ?_
      refine DoesU.call (run_callF (args := #[vp B10_2, vi 2]) rfl cx.sees rfl (by kernel_rfl) (map2 (cx.an 0) (cx.co _))) ?_
      refine (num_st _ s [1, 1] 2 _ ⟨(cx.bi 1 rfl), stT_le s _, by omega⟩ (by omega)).mono ?_
      rintro e W1 ⟨rfl, hrd, hu⟩
      refine ⟨_, rfl, post_mut (cx.init 1 _ rfl) rfl rfl hu hrd.1 (fun σ β' X' hs hb hv hx => ?_)⟩
      exact ⟨(hv 17 rfl).1.trans rfl, hx⟩
    · exact xs4 rfl id fun cx => run_bin rfl (dTn (cx.an 1)).1 (cx.co _) (congrArg (fun z => some (Value.int .i64 z)) ((IntWalk.i64_in _ (by omega)).trans (by omega)))
    · refine sv_any rfl rfl fun ρ β W X cx => ?_
      refine DoesU.call (run_callF (args := #[vp B10_2, vi 1]) rfl cx.sees rfl (by kernel_rfl) (map2 (cx.an 3) (cx.co _))) ?_
      refine (num_st _ s [2, 1, 1] 1 _ ⟨(cx.blk (dTn (cx.an 1)).2 rfl), stT_le s _, by omega⟩ (by omega)).mono ?_
      rintro e W1 ⟨rfl, hrd, hu⟩
      refine ⟨_, rfl, post_mut (dTn (cx.an 1)).2 rfl rfl hu hrd.1 (fun σ β' X' hs hb hv hx => ?_)⟩
      exact ⟨(hv 20 rfl).1.trans rfl, hx⟩
    · exact xs4 rfl id fun cx => run_buildL rfl (pmc (cx.an 2) (pmc (dTn (cx.an 4)).1 pmn)) (by kernel_rfl)
    · refine sv_any rfl rfl fun ρ β W X cx => ?_
      exact dv_store (n := 2) rfl (cx.an 6) (cx.an 5) (by kernel_rfl) (by kernel_rfl) (by kernel_rfl) cx (cx.init 2 _ rfl) rfl (nle rfl) (by kernel_rfl) rfl rfl rfl (fun σ β' X' hs hb hx => hx)
  intro σ β X W4 hD hst4 fr hfr
  simp only [exq 4 ((dTn (hD 4 lq)).2), exq 5 ((dTn (hD 7 lq)))] at hst4
  simp only [ed 17 ((dTn (hD 1 lq)).1), ed 20 ((dTn (hD 4 lq)).1)] at hfr
  clear hD; subst hfr; clear σ β X
  refine then_normal (wp_seq (wp_region_Y [0, 1, 3, 7, 15] [[], [1], [], [], [2]] [[], [3], [], [], [4]] [[], [1], [], [], [2]] [.k 23 (vp B10_2), .a 24, .c 25 (.bool ((stV s [1, 2, 1, 1] 1) == 1)), .k 26 (.pointer (some ⟨B5_3, 4, none⟩)), .n] (fun ix σ β X => match ix with | 0 => True | 1 => σ 24 = vi ((stV s [1, 2, 1, 1] 1)) ∧ X 3 = eB B10_2 168 #[.string s, vi (((stT s [1, 1, 2, 1, 1]).1 : Int)), .bool ((stT s [1, 1, 2, 1, 1]).2)] | 2 => True | 3 => True | 4 => X 4 = eB B5_3 41 #[vi ((stV s [] 1)), vi ((stV s [1] 1)), vi ((stV s [1, 1] 2) - 1), vi ((stV s [2, 1, 1] 1)), .bool ((stV s [1, 2, 1, 1] 1) == 1), .slice none 0 0] | _ => True) [0, 3, 4] [1, 2, 4] [(23, 0, 4, 27)] hst4 ?_ ?_ ?_))
  · exact fun ix _ _ _ _ _ _ hs hb hx h => match ix, h with
    | 1, h => by dsimp only at h ⊢; rw [← hs 24 rfl, ← hx 3 rfl]; exact h
    | 4, h => by dsimp only at h ⊢; rw [← hx 4 rfl]; exact h
    | 0, _ | 2, _ | 3, _ | _ + 5, _ => trivial
  · refine ⟨?_, ?_, ?_, trivial⟩
    · refine sv_any rfl rfl fun ρ β W X cx => ?_
      refine DoesU.call (run_callF (args := #[vp B10_2, vi 1]) rfl cx.sees rfl (by kernel_rfl) (map2 (cx.an 0) (cx.co _))) ?_
      refine (num_st _ s [1, 2, 1, 1] 1 _ ⟨(cx.bi 1 rfl), stT_le s _, by omega⟩ (by omega)).mono ?_
      rintro e W1 ⟨rfl, hrd, hu⟩
      refine ⟨_, rfl, post_mut (cx.init 1 _ rfl) rfl rfl hu hrd.1 (fun σ β' X' hs hb hv hx => ?_)⟩
      exact ⟨(hv 24 rfl).1.trans rfl, hx⟩
    · exact xs4 rfl id fun cx => run_bin rfl (dTn (cx.an 1)).1 (cx.co _) rfl
    · refine sv_any rfl rfl fun ρ β W X cx => ?_
      exact dv_store (n := 1) rfl (cx.an 3) (cx.an 2) (by kernel_rfl) (by kernel_rfl) (by kernel_rfl) cx (cx.init 2 _ rfl) rfl (nle rfl) (by kernel_rfl) rfl rfl rfl (fun σ β' X' hs hb hx => hx)
  intro σ β X W5 hD hst5 fr hfr
  simp only [exq 3 ((dTn (hD 1 lq)).2), exq 4 ((dTn (hD 4 lq)))] at hst5
  simp only [ed 24 ((dTn (hD 1 lq)).1)] at hfr
  clear hD; subst hfr; clear σ β X
  refine then_normal (wp_seq (wp_region_Y [0, 1, 3] [[], [1]] [[], [3]] [[], [1]] [.k 27 (vp B10_2), .a 28, .c 6 (.string ByteArray.empty)] (fun ix σ β X => match ix with | 0 => True | 1 => σ 28 = .string ByteArray.empty ∧ X 3 = eB B10_2 168 #[.string s, vi (((stT s [1, 1, 2, 1, 1]).1 : Int)), .bool true] | _ => True) [0, 2, 3] [1, 2] [(6, 2, 1, 7), (20, 0, 2, 22)] hst5 ?_ ?_ ?_))
  · exact fun ix _ _ _ _ _ _ hs hb hx h => match ix, h with
    | 1, h => by dsimp only at h ⊢; rw [← hs 28 rfl, ← hx 3 rfl]; exact h
    | 0, _ | _ + 2, _ => trivial
  · refine ⟨?_, ?_, trivial⟩
    · refine sv_any rfl rfl fun ρ β W X cx => ?_
      refine DoesU.call (run_callF (args := #[vp B10_2]) rfl cx.sees rfl (by kernel_rfl) (map1 (cx.an 0))) ?_
      refine (text_bad _ s (stT s [1, 1, 2, 1, 1]).1 (stT s [1, 1, 2, 1, 1]).2 _ ⟨(cx.bi 1 rfl), stT_le s _, by omega⟩ (by rcases st_short hs with h_ | h_ <;> simp [h_])).mono ?_
      rintro e W1 ⟨rfl, hrd, hu⟩
      refine ⟨_, rfl, post_mut (cx.init 1 _ rfl) rfl rfl hu hrd.1 (fun σ β' X' hs hb hv hx => ?_)⟩
      exact ⟨(hv 28 rfl).1.trans rfl, hx⟩
    · exact xs4 rfl id fun cx => run_assign' rfl (dTn (cx.an 1)).1
  intro σ β X W6 hD hst6 fr hfr
  simp only [exq 3 ((dTn (hD 1 lq)).2)] at hst6
  simp only [ed 28 ((dTn (hD 1 lq)).1)] at hfr
  clear hD; subst hfr; clear σ β X
  refine then_normal (wp_seq (wp_seq (wp_region_Y [0, 1] [[], [2]] [] [] [.k 29 (vp B10_2), .a 30] (fun ix σ β X => match ix with | 0 => True | 1 => σ 30 = .bool true | _ => True) [0, 1, 2] [1] [(29, 0, 2, 31)] hst6 ?_ ?_ ?_)))
  · exact fun ix _ _ _ _ _ _ hs hb hx h => match ix, h with
    | 1, h => (hs _ rfl).symm.trans h
    | 0, _ | _ + 2, _ => trivial
  · refine ⟨?_, trivial⟩
    · refine sv_any rfl rfl fun ρ β W X cx => ?_
      refine DoesU.call (run_callF (args := #[vp B10_2]) rfl cx.sees rfl (by kernel_rfl) (map1 (cx.an 0))) ?_
      refine (failed_any _ s (stT s [1, 1, 2, 1, 1]).1 true _ ⟨(cx.bi 2 rfl), stT_le s _, by omega⟩).mono ?_
      rintro e W1 ⟨rfl, rfl⟩
      refine ⟨_, rfl, post_call [] rfl rfl (Ext.refl _) (by simp) List.Pairwise.nil (fun σ β' X' hs hb hv hN => ?_)⟩
      have hv1 := (hv 30 rfl).1; have hv2 := (hv 30 rfl).2
      exact hv1.trans rfl
  intro σ β X W7 hD hst7 fr hfr
  simp only [ed 30 ((dTn (hD 1 lq)))] at hfr
  clear hD; subst hfr; clear σ β X
  refine then_normal (wp_cond_true (show Act.eval _ _ = .bool true from rfl) (wp_seq (wp_region_Y [0, 1, 3] [[], [0]] [[], [3]] [[], [0]] [.k 31 (.agg #[vi 0, vi 0, vi 0, vi 0, .bool false, .slice none 0 0]), .n, .k 3 (vi 10)] (fun ix σ β X => match ix with | 0 => True | 1 => X 3 = eB B2_1 41 #[vi 0, vi 0, vi 0, vi 0, .bool false, .slice none 0 0] | _ => True) [1, 2, 3] [1] [(3, 2, 1, 4), (27, 0, 1, 28)] hst7 ?_ ?_ ?_)))
  · exact fun ix _ _ _ _ _ _ hs hb hx h => match ix, h with
    | 1, h => by dsimp only at h ⊢; rw [← hx 3 rfl]; exact h
    | 0, _ | _ + 2, _ => trivial
  · refine ⟨?_, trivial⟩
    · refine sv_any rfl rfl fun ρ β W X cx => ?_
      exact dv_store (n := 6) rfl (cx.ou 2) (cx.an 0) (by kernel_rfl) (by kernel_rfl) (by kernel_rfl) cx (cx.init 0 _ rfl) rfl (nle rfl) (by kernel_rfl) rfl rfl rfl (fun σ β' X' hs hb hx => hx)
  intro σ β X W8 hD hst8 fr hfr
  simp only [exq 3 ((dTn (hD 1 lq)))] at hst8
  clear hD; subst hfr; clear σ β X
  refine then_normal (wp_ret (then_ret ?_))
  have hr9 : W8.cell? ⟨B2_1, 0, none⟩ = some (vi 0) := (hst8.blk 2 rfl).cell 0
  have hr10 : W8.cell? ⟨B2_1, 1, none⟩ = some (vi 0) := (hst8.blk 2 rfl).cell 1
  have hr11 : W8.cell? ⟨B2_1, 2, none⟩ = some (vi 0) := (hst8.blk 2 rfl).cell 2
  have hr12 : W8.cell? ⟨B2_1, 3, none⟩ = some (vi 0) := (hst8.blk 2 rfl).cell 3
  have hr13 : W8.cell? ⟨B2_1, 4, none⟩ = some (.bool false) := (hst8.blk 2 rfl).cell 4
  have hr14 : W8.cell? ⟨B2_1, 5, none⟩ = some (.slice none 0 0) := (hst8.blk 2 rfl).cell 5
  refine bodyPost_ret (v := .tuple #[.agg #[vi 0, vi 0, vi 0, vi 0, .bool false, .slice none 0 0], vi 10]) (by simp [results, Tryd.results35, go_sem, hr9, hr10, hr11, hr12, hr13, hr14]) rfl ?_
  exact Ret.of rfl hst8.ext
end
end Go.Proofs.YtjnplglnnamfdaaDoor
namespace Go.Proofs.YtjnplglnnamfdaaDoor
section
open Go.RowKit
set_option linter.unusedVariables false
set_option linter.unusedSimpArgs false
abbrev VerD := Int × Int × Int × Int × Bool × List Val
def okD (v : VerD) : Prop := trightF v.1 v.2.1 v.2.2.1 v.2.2.2.1 v.2.2.2.2.2 = true ∧ NsOk v.2.2.2.2.2 ∧ plainR v.2.2.2.2.2 = v.2.2.2.2.2
def txD (v : VerD) : ByteArray := tbytesF v.1 v.2.1 v.2.2.1 v.2.2.2.1 v.2.2.2.2.1 v.2.2.2.2.2
def zD : VerD := (0, 0, 0, 0, false, [])
def Desc (s : ByteArray) : Option VerD → Prop
  | none => s.size < 8
  | some v => okD v ∧ s = txD v
/-- what Read says of it -/
def vD (o : Option VerD) : VerD := o.getD zD
def eD (o : Option VerD) : Int := if o.isSome then 0 else 10
section
variable {a b n1 n2 : Int} {ho : Bool} {rs : List Val}
end
theorem Desc.le {s : ByteArray} {o : Option VerD} (h : Desc s o) : s.size ≤ 309 := by
  cases o with
  | none => have : s.size < 8 := h; omega
  | some v =>
    have := vbytes_size v.2.2.2.2.2
    rw [h.2, txD, tb_size h.1.1]; omega
theorem Desc.bd {s : ByteArray} {o : Option VerD} (h : Desc s o) : 0 ≤ (vD o).1 ∧ (vD o).1 < 128 ∧ 0 ≤ (vD o).2.1 ∧ (vD o).2.1 < 128 ∧ -1 ≤ (vD o).2.2.1 ∧ (vD o).2.2.1 < 400 ∧ 0 ≤ (vD o).2.2.2.1 ∧ (vD o).2.2.2.1 < 24 ∧ (vD o).2.2.2.2.2.length ≤ 6 := by
  cases o with
  | none => exact ⟨by decide, by decide, by decide, by decide, by decide, by decide, by decide, by decide, by decide⟩
  | some v =>
    have hp := tright_parts h.1.1
    exact ⟨hp.1, hp.2.1, hp.2.2.1, hp.2.2.2.1, hp.2.2.2.2.1, hp.2.2.2.2.2.1, hp.2.2.2.2.2.2.1, hp.2.2.2.2.2.2.2.1, rright_len hp.2.2.2.2.2.2.2.2⟩
theorem tread_desc {s : ByteArray} {o : Option VerD} (w : World) (h : Desc s o) (hN : NoneAt w) :
    Calls Tryd.prog 35 #[.string s] w (VerRd (vD o).1 (vD o).2.1 (vD o).2.2.1 (vD o).2.2.2.1 (vD o).2.2.2.2.1 (vD o).2.2.2.2.2 (eD o) w) := by
  cases o with
  | none => exact (tread_sh s w h).mono fun e w' ⟨he, hx⟩ => ⟨none, 0, he, ⟨by simp [vD, zD, flatR], .inl ⟨rfl, rfl⟩⟩, hx⟩
  | some v =>
    obtain ⟨⟨h1, h2, h3⟩, rfl⟩ := h
    have := tread_of (ho := v.2.2.2.2.1) w h1 h2 hN
    rw [h3] at this
    exact this
end
end Go.Proofs.YtjnplglnnamfdaaDoor
namespace Go.Proofs.YtjnplglnnamfdaaDoor
section
open Go.RowKit
set_option linter.unusedVariables false
set_option linter.unusedSimpArgs false
abbrev Itm := ByteArray × Option VerD
/-- a page as it lies in a row of pages -/
structure PgD where
  k : Int
  l : Int
  A : Option Addr
  c : Nat
  its : List Itm
def p0 : PgD := ⟨0, 0, none, 0, []⟩
def strs (its : List Itm) : List Value := its.map fun i => .string i.1
theorem strs_len (its : List Itm) : (strs its).length = its.length := by simp [strs]
theorem strs_one (its : List Itm) : ∀ u ∈ strs its, Value.oneCell' u = true := by
  intro u hu
  obtain ⟨i, _, rfl⟩ := List.mem_map.1 hu
  rfl
def pgC (p : PgD) : List Value := [.int .i64 p.k, .int .i64 p.l, .slice p.A p.its.length p.c]
theorem pgC_len (p : PgD) : (pgC p).length = 3 := rfl
structure PgsAt (w : World) (A : Option Addr) (Ps : List PgD) : Prop where
  at_ : At w A (Ps.flatMap pgC)
  len : Ps.length ≤ 1000
  its : ∀ p ∈ Ps, At w p.A (strs p.its) ∧ p.its.length ≤ 24 ∧ p.its.length ≤ p.c ∧ ∀ i ∈ p.its, Desc i.1 i.2
theorem PgsAt.ext {w W : World} {A : Option Addr} {Ps : List PgD} (h : PgsAt w A Ps) (hx : Ext w W) : PgsAt W A Ps :=
  ⟨h.at_.ext hx, h.len, fun p hp => ⟨(h.its p hp).1.ext hx, (h.its p hp).2⟩⟩
/-- what Page answers: kind, LSN, items, whether there is such a page -/
structure PV where
  k : Int
  l : Int
  its : List Itm
  ok : Bool
def pvF (Ps : List PgD) (n : Int) : PV := if 0 ≤ n ∧ n < Ps.length then ⟨(Ps.getD n.toNat p0).k, (Ps.getD n.toNat p0).l, (Ps.getD n.toNat p0).its, true⟩ else ⟨0, 0, [], false⟩
def PV.wf (v : PV) : Prop := v.its.length ≤ 24 ∧ ∀ i ∈ v.its, Desc i.1 i.2
theorem PgsAt.get {w : World} {A : Option Addr} {Ps : List PgD} (h : PgsAt w A Ps) {n : Nat} (hn : n < Ps.length) : At w (Ps.getD n p0).A (strs (Ps.getD n p0).its) ∧ (Ps.getD n p0).its.length ≤ 24 ∧ (Ps.getD n p0).its.length ≤ (Ps.getD n p0).c ∧ ∀ i ∈ (Ps.getD n p0).its, Desc i.1 i.2 := by
  refine h.its _ ?_
  rw [List.getD_eq_getElem?_getD, List.getElem?_eq_getElem hn, Option.getD_some]
  exact List.getElem_mem _
theorem PgsAt.wf {w : World} {A : Option Addr} {Ps : List PgD} (h : PgsAt w A Ps) (n : Int) : (pvF Ps n).wf := by
  rw [pvF]
  split
  · have := h.get (n := n.toNat) (by omega)
    exact ⟨this.2.1, this.2.2.2⟩
  · exact ⟨by simp, fun i hi => by cases hi⟩
def PagePost (v : PV) (w : World) (e : Ending) (w' : World) : Prop := ∃ A c, e = .returned (.tuple #[.agg #[.int .i64 v.k, .int .i64 v.l, .slice A v.its.length c], .bool v.ok]) ∧
  w'.ownsRow w.heap.size 9 1 (.slice A v.its.length c) v.its.length (strs v.its) ∧ Ext w w'
/-- the interface value .iface tt tv has these pages -/
structure PgsOk (w : World) (tt : TypeId) (tv : Value) (pv : Int → PV) : Prop where
  ex : ∃ f rv, Meth Tryd.prog tt tv "Page" f rv ∧ callP Tryd.prog f = true ∧ ∀ W x, Ext w W → Calls Tryd.prog f #[rv, .int .i64 x] W (PagePost (pv x) W)
  wf : ∀ n, (pv n).wf
theorem PgsOk.ext {w W : World} {tt : TypeId} {tv : Value} {pv : Int → PV} (h : PgsOk w tt tv pv) (hx : Ext w W) : PgsOk W tt tv pv := by
  obtain ⟨f, rv, h1, h2, h3⟩ := h.ex
  exact ⟨⟨f, rv, h1, h2, fun W' x hx' => h3 W' x (hx.trans hx')⟩, h.wf⟩
set_option maxRecDepth 100000 in
set_option maxHeartbeats 2000000 in
theorem rpage_any (PA : Option Addr) (pc : Nat) (Ps : List PgD) (n : Int) (w : World) (hP : PgsAt w PA Ps) :
    Calls Tryd.prog 28 #[.agg #[.slice PA Ps.length pc], .int .i64 n] w (PagePost (pvF Ps n) w) := by
  have hPl := hP.len
  go_enter Tryd.func28, Tryd.ntmps28
  have hst0 := St.start w
  refine wp_seq (wp_region_Y [0, 0, 0] [] [[0], [1]] [] [.a 2, .a 4, .k 5 (.bool false)] (fun ix σ β X => match ix with | 0 => σ 2 = vp (pb (β 2)) ∧ X 0 = eB (pb (β 2)) 30 #[.slice PA Ps.length pc] | 1 => σ 4 = vp (pb (β 4)) ∧ X 1 = eB (pb (β 4)) 86 #[vi 0, vi 0, .slice none 0 0] | _ => True) [0, 1] [0, 1] [(2, 0, 1, 3), (1, 1, 2, 3)] hst0 ?_ ?_ ?_)
  · exact fun ix _ _ _ _ _ _ hs hb hx h => match ix, h with
    | 0, h => by dsimp only at h ⊢; rw [← hs 2 rfl, ← hb 2 rfl, ← hx 0 rfl]; exact h
    | 1, h => by dsimp only at h ⊢; rw [← hs 4 rfl, ← hb 4 rfl, ← hx 1 rfl]; exact h
    | _ + 2, _ => trivial
  · refine ⟨?_, ?_, trivial⟩
    · refine sv_any rfl rfl fun ρ β W X cx => ?_
      exact dv_box (cs := #[.slice PA Ps.length pc]) rfl (cx.ou 0) rfl rfl rfl (fun σ β' X' hs hb hv hx => ⟨hv, hx⟩)
    · refine sv_any rfl rfl fun ρ β W X cx => ?_
      exact dv_alloc (cs := #[vi 0, vi 0, .slice none 0 0]) rfl (by kernel_rfl) rfl rfl (fun σ β' X' hs hb hv hx => ⟨hv, hx⟩)
  intro σ β X W1 hD hst1 fr hfr
  obtain ⟨B2_1, hu_B2_1⟩ : ∃ z, pb (β 2) = z := ⟨_, rfl⟩
  obtain ⟨B4_1, hu_B4_1⟩ : ∃ z, pb (β 4) = z := ⟨_, rfl⟩
  simp only [exq 0 ((dTn (hD 0 lq)).2), exq 1 ((dTn (hD 1 lq)).2), hu_B2_1, hu_B4_1] at hst1
  simp only [ed 2 ((dTn (hD 0 lq)).1), ed 4 ((dTn (hD 1 lq)).1), hu_B2_1, hu_B4_1] at hfr
  clear hD hu_B2_1 hu_B4_1; subst hfr; clear σ β X
  refine then_normal (wp_seq (wp_seq (wp_region_Z [0, 1, 3, 7, 7, 23, 55, 127, 255] [[], [], [], [], [], [0]] [.k 7 (vi n), .k 8 (.bool (decide (n < 0))), .k 9 (.bool (decide (n < 0))), .z 10 (!(decide (n < 0))) (vi n), .z 11 (!(decide (n < 0))) (vp B2_1), .y 12 (!(decide (n < 0))) (.slice PA Ps.length pc), .z 13 (!(decide (n < 0))) (vi ((Ps.length : Int))), .z 14 (!(decide (n < 0))) (.bool (decide ((Ps.length : Int) ≤ n))), tO 15 (decide (n < 0)) (decide ((Ps.length : Int) ≤ n))] [0, 1] [5] [(7, 0, 9, 16)] hst1 ?_ fun W2 hst2 => ?_)))
  · refine ⟨?_, trivial⟩
    · exact m2 rfl (fun _ _ _ h => h) (fun cx => (cx.an 2)) fun cx hq => run_load1 rfl (by kernel_rfl) (mbv (cx.an 4) hq) ((cx.bi 0 rfl).cell 0)
  refine then_normal ?_
  rcases Bool.eq_false_or_eq_true ((decide (n < 0)) || (decide ((Ps.length : Int) ≤ n))) with hs3 | hs3
  · skip
    have hs3p := hs3
    simp only [zB] at hs3p
    refine wp_cond_true (show Act.eval _ _ = .bool true from (congrArg Value.bool hs3)) (wp_seq (wp_region_Y [0, 1, 3] [[], [1]] [[], [2]] [[], [1]] [.k 16 (.agg #[vi 0, vi 0, .slice none 0 0]), .n, .k 5 (.bool false)] (fun ix σ β X => match ix with | 0 => True | 1 => X 2 = eB B4_1 86 #[vi 0, vi 0, .slice none 0 0] | _ => True) [0, 2] [1] [(5, 2, 1, 6), (10, 0, 1, 11)] hst2 ?_ ?_ ?_))
    · exact fun ix _ _ _ _ _ _ hs hb hx h => match ix, h with
      | 1, h => by dsimp only at h ⊢; rw [← hx 2 rfl]; exact h
      | 0, _ | _ + 2, _ => trivial
    · refine ⟨?_, trivial⟩
      · refine sv_any rfl rfl fun ρ β W X cx => ?_
        exact dv_store (n := 3) rfl (cx.ou 4) (cx.an 0) (by kernel_rfl) (by kernel_rfl) (by kernel_rfl) cx (cx.init 1 _ rfl) rfl (nle rfl) (by kernel_rfl) rfl rfl rfl (fun σ β' X' hs hb hx => hx)
    intro σ β X W4 hD hst4 fr hfr
    simp only [exq 2 ((dTn (hD 1 lq)))] at hst4
    clear hD; subst hfr; clear σ β X
    refine then_normal (wp_ret (then_ret ?_))
    have hr5 : W4.cell? ⟨B4_1, 0, none⟩ = some (vi 0) := (hst4.blk 1 rfl).cell 0
    have hr6 : W4.cell? ⟨B4_1, 1, none⟩ = some (vi 0) := (hst4.blk 1 rfl).cell 1
    have hr7 : W4.cell? ⟨B4_1, 2, none⟩ = some (.slice none 0 0) := (hst4.blk 1 rfl).cell 2
    refine bodyPost_ret (v := .tuple #[.agg #[vi 0, vi 0, .slice none 0 0], .bool false]) (by simp [results, Tryd.results28, go_sem, hr5, hr6, hr7]) rfl ?_
    have hpv : pvF Ps n = ⟨0, 0, [], false⟩ := by rw [pvF, if_neg (by omega)]
    rw [hpv]
    exact ⟨none, 0, rfl, World.ownsRow_nil _ _ _ _, hst4.ext⟩
  have hs3p := hs3
  simp only [zB] at hs3p
  obtain ⟨hs3p1, hs3p2⟩ := hs3p
  refine wp_cond_false (show Act.eval _ _ = .bool false from (congrArg Value.bool hs3)) (wp_skip (then_normal (wp_seq ?_)))
  obtain ⟨N, rfl⟩ : ∃ N : Nat, n = (N : Int) := ⟨n.toNat, by omega⟩
  have hG := hP.get (n := N) (by omega)
  refine wp_region_Y [0, 1, 0, 7, 15, 0, 63] [[], [0], [], [], [], [], [2]] [[], [], [], [], [], [2], [3]] [[], [], [], [], [], [], [2]] [.k 17 (vp B2_1), .c 18 (.slice PA Ps.length pc), .k 19 (vi (N : Int)), .c 20 (.pointer (some ((ad PA).add (N * 3)))), .c 21 (.agg #[vi ((Ps.getD N p0).k), vi ((Ps.getD N p0).l), .slice ((Ps.getD N p0).A) ((Ps.getD N p0).its.length) ((Ps.getD N p0).c)]), .a 6, .n] (fun ix σ β X => match ix with | 0 => True | 1 => True | 2 => True | 3 => True | 4 => True | 5 => σ 6 = vp (pb (β 6)) ∧ X 2 = eB (pb (β 6)) 86 #[vi 0, vi 0, .slice none 0 0] | 6 => X 3 = eB (pb (β 6)) 86 #[vi ((Ps.getD N p0).k), vi ((Ps.getD N p0).l), .slice ((Ps.getD N p0).A) ((Ps.getD N p0).its.length) ((Ps.getD N p0).c)] | _ => True) [0, 1, 3] [1, 3, 4, 5, 6] [(6, 5, 1, 7), (10, 0, 5, 15)] hst2 ?_ ?_ ?_
  · exact fun ix _ _ _ _ _ _ hs hb hx h => match ix, h with
    | 5, h => by dsimp only at h ⊢; rw [← hs 6 rfl, ← hb 6 rfl, ← hx 2 rfl]; exact h
    | 6, h => by dsimp only at h ⊢; rw [← hb 6 rfl, ← hx 3 rfl]; exact h
    | 0, _ | 1, _ | 2, _ | 3, _ | 4, _ | _ + 7, _ => trivial
  · refine ⟨?_, ?_, ?_, ?_, ?_, trivial⟩
    · exact xs4 rfl id fun cx => run_load1 rfl (by kernel_rfl) (cx.an 0) ((cx.bi 0 rfl).cell 0)
    · exact xs4 rfl id fun cx => run_indexSlM (e := 86) (m := N) (sz := 3) rfl (by kernel_rfl) (by kernel_rfl) (cx.an 1) (cx.an 2) (by omega) (by omega) (hP.at_.ext cx.upd.to_ext) (by have h_ := flatLen (f := pgC) (sz := 3) pgC_len Ps; show 0 < (List.flatMap pgC Ps).length; omega)
    · exact xs4 rfl id fun cx => run_loadElt (f := pgC) (m := N) (sz := 3) (off := 0) (n := 3) rfl (by kernel_rfl) (by kernel_rfl) (cx.an 3) rfl pgC_len (hP.at_.ext cx.upd.to_ext) (getD_some (ts := Ps) (m := N) p0 (by omega)) (fun k hk => match k, hk with | 0, _ => rfl | 1, _ => rfl | 2, _ => rfl | k + 3, hk => absurd hk (by omega))
    · refine sv_any rfl rfl fun ρ β W X cx => ?_
      exact dv_alloc (cs := #[vi 0, vi 0, .slice none 0 0]) rfl (by kernel_rfl) rfl rfl (fun σ β' X' hs hb hv hx => ⟨hv, hx⟩)
    · refine sv_any rfl rfl fun ρ β W X cx => ?_
      exact dv_store (n := 3) rfl (dTn (cx.an 5)).1 (cx.an 4) (by kernel_rfl) (by kernel_rfl) (by kernel_rfl) cx (dTn (cx.an 5)).2 rfl (nle rfl) (by kernel_rfl) rfl rfl rfl (fun σ β' X' hs hb hx => by rw [hb 6]; exact hx)
  intro σ β X W8 hD hst8 fr hfr
  obtain ⟨B6_8, hu_B6_8⟩ : ∃ z, pb (β 6) = z := ⟨_, rfl⟩
  simp only [exq 3 ((dTn (hD 6 lq))), hu_B6_8] at hst8
  simp only [ed 6 ((dTn (hD 5 lq)).1), hu_B6_8] at hfr
  clear hD hu_B6_8; subst hfr; clear σ β X
  refine then_normal (wp_seq (wp_region_Y [0, 0, 2, 7, 15, 31] [[], [], [2], [3], [], [2]] [[3], [], [], [4], [], [5]] [[], [], [], [3], [], [2]] [.a 22, .k 23 (.pointer (some ⟨B6_8, 2, none⟩)), .c 24 (.slice ((Ps.getD N p0).A) ((Ps.getD N p0).its.length) ((Ps.getD N p0).c)), .a 25, .k 26 (.pointer (some ⟨B6_8, 2, none⟩)), .n] (fun ix σ β X => match ix with | 0 => σ 22 = .slice (sA (β 22)) 0 0 ∧ X 3 = eO 9 1 (.slice (sA (β 22)) 0 0) 0 ([]) | 1 => True | 2 => True | 3 => σ 25 = .slice (sA (β 25)) ((Ps.getD N p0).its.length) (sC (β 25)) ∧ X 4 = eO 9 1 (.slice (sA (β 25)) ((Ps.getD N p0).its.length) (sC (β 25))) ((Ps.getD N p0).its.length) (strs (Ps.getD N p0).its) | 4 => True | 5 => X 5 = eB B6_8 86 #[vi ((Ps.getD N p0).k), vi ((Ps.getD N p0).l), .slice (sA (β 25)) ((Ps.getD N p0).its.length) (sC (β 25))] | _ => True) [0, 1, 4, 5] [0, 2, 3, 5] [(22, 0, 5, 27)] hst8 ?_ ?_ ?_))
  · exact fun ix _ _ _ _ _ _ hs hb hx h => match ix, h with
    | 0, h => by dsimp only at h ⊢; rw [← hs 22 rfl, ← hb 22 rfl, ← hx 3 rfl]; exact h
    | 3, h => by dsimp only at h ⊢; rw [← hs 25 rfl, ← hb 25 rfl, ← hx 4 rfl]; exact h
    | 5, h => by dsimp only at h ⊢; rw [← hb 25 rfl, ← hx 5 rfl]; exact h
    | 1, _ | 2, _ | 4, _ | _ + 6, _ => trivial
  · refine ⟨?_, ?_, ?_, ?_, trivial⟩
    · refine sv_any rfl rfl fun ρ β W X cx => ?_
      exact dv_lit (e := 9) (xs := []) rfl (by simp [go_sem]) rfl (by decide) rfl rfl (fun σ β' X' hs hb hv hx => ⟨hv, hx⟩)
    · exact xs4 rfl id fun cx => run_load1 rfl (by kernel_rfl) (cx.an 1) ((cx.bi 2 rfl).cell 2)
    · refine sv_any rfl rfl fun ρ β W X cx => ?_
      obtain ⟨i0, hi0, hz0, hz1, hz2⟩ := info_parts Tryd.infoStr
      refine dv_append (n := 0) (m := (Ps.getD N p0).its.length) (nm := (Ps.getD N p0).its.length) (xs := []) (news := strs (Ps.getD N p0).its) (xs' := strs (Ps.getD N p0).its) rfl (ty := 84) rfl (by kernel_rfl) hi0 hz0 hz1 hz2 rfl (dTn (cx.an 0)).1 cx (dTn (cx.an 0)).2 rfl (cx.an 2) (strs_len _) (hG.1.ext cx.upd.to_ext) (strs_one _) (by simp only [maxLen]; omega) (by omega) rfl rfl rfl (by omega) (rfl) (fun σ β' X' hs hb hv hx => ?_)
      exact ⟨hv, hx⟩
    · refine sv_any rfl rfl fun ρ β W X cx => ?_
      exact dv_store (n := 1) rfl (cx.an 4) (dTn (cx.an 3)).1 (by kernel_rfl) (by kernel_rfl) (by kernel_rfl) cx (cx.init 2 _ rfl) rfl (nle rfl) (by kernel_rfl) rfl rfl rfl (fun σ β' X' hs hb hx => by rw [hb 25]; exact hx)
  intro σ β X W9 hD hst9 fr hfr
  obtain ⟨A22_9, hu_A22_9⟩ : ∃ z, sA (β 22) = z := ⟨_, rfl⟩
  obtain ⟨A25_9, hu_A25_9⟩ : ∃ z, sA (β 25) = z := ⟨_, rfl⟩
  obtain ⟨c25_9, hu_c25_9⟩ : ∃ z, sC (β 25) = z := ⟨_, rfl⟩
  simp only [exq 4 ((dTn (hD 3 lq)).2), exq 5 ((dTn (hD 5 lq))), hu_A22_9, hu_A25_9, hu_c25_9] at hst9
  simp only [ed 22 ((dTn (hD 0 lq)).1), ed 25 ((dTn (hD 3 lq)).1), hu_A22_9, hu_A25_9, hu_c25_9] at hfr
  clear hD hu_A22_9 hu_A25_9 hu_c25_9; subst hfr; clear σ β X
  refine then_normal (wp_seq (wp_region_Y [0, 1, 3] [[3], [1]] [[], [4]] [[], [1]] [.c 27 (.agg #[vi ((Ps.getD N p0).k), vi ((Ps.getD N p0).l), .slice A25_9 ((Ps.getD N p0).its.length) c25_9]), .n, .k 5 (.bool true)] (fun ix σ β X => match ix with | 0 => True | 1 => X 4 = eB B4_1 86 #[vi ((Ps.getD N p0).k), vi ((Ps.getD N p0).l), .slice A25_9 ((Ps.getD N p0).its.length) c25_9] | _ => True) [0, 2, 3, 4] [0, 1] [(5, 2, 1, 6), (21, 0, 1, 22)] hst9 ?_ ?_ ?_))
  · exact fun ix _ _ _ _ _ _ hs hb hx h => match ix, h with
    | 1, h => by dsimp only at h ⊢; rw [← hx 4 rfl]; exact h
    | 0, _ | _ + 2, _ => trivial
  · refine ⟨?_, ?_, trivial⟩
    · exact xs4 rfl id fun cx => run_loadB (n := 3) rfl (by kernel_rfl) (by kernel_rfl) (cx.ou 6) (cx.bi 3 rfl) (nle rfl) rfl
    · refine sv_any rfl rfl fun ρ β W X cx => ?_
      exact dv_store (n := 3) rfl (cx.ou 4) (cx.an 0) (by kernel_rfl) (by kernel_rfl) (by kernel_rfl) cx (cx.init 1 _ rfl) rfl (nle rfl) (by kernel_rfl) rfl rfl rfl (fun σ β' X' hs hb hx => hx)
  intro σ β X W10 hD hst10 fr hfr
  simp only [exq 4 ((dTn (hD 1 lq)))] at hst10
  clear hD; subst hfr; clear σ β X
  refine then_normal (wp_ret ?_)
  have hr11 : W10.cell? ⟨B4_1, 0, none⟩ = some (vi ((Ps.getD N p0).k)) := (hst10.blk 3 rfl).cell 0
  have hr12 : W10.cell? ⟨B4_1, 1, none⟩ = some (vi ((Ps.getD N p0).l)) := (hst10.blk 3 rfl).cell 1
  have hr13 : W10.cell? ⟨B4_1, 2, none⟩ = some (.slice A25_9 ((Ps.getD N p0).its.length) c25_9) := (hst10.blk 3 rfl).cell 2
  refine bodyPost_ret (v := .tuple #[.agg #[vi ((Ps.getD N p0).k), vi ((Ps.getD N p0).l), .slice A25_9 ((Ps.getD N p0).its.length) c25_9], .bool true]) (by simp [results, Tryd.results28, go_sem, hr11, hr12, hr13]) rfl ?_
  have ho_ := hst10.own' 1 rfl
  have hpv : pvF Ps (N : Int) = ⟨(Ps.getD N p0).k, (Ps.getD N p0).l, (Ps.getD N p0).its, true⟩ := by rw [pvF, if_pos (by omega)]; rfl
  rw [hpv]
  exact ⟨_, _, rfl, ho_, hst10.ext⟩
theorem rpages_ok (PA : Option Addr) (pc : Nat) (Ps : List PgD) (w : World) (h : PgsAt w PA Ps) : PgsOk w 30 (.agg #[.slice PA Ps.length pc]) (pvF Ps) :=
  ⟨⟨28, _, fun W => by kernel_rfl, by kernel_rfl, fun W x hx => rpage_any PA pc Ps x W (h.ext hx)⟩, h.wf⟩
end
end Go.Proofs.YtjnplglnnamfdaaDoor
namespace Go.Proofs.YtjnplglnnamfdaaDoor
section
open Go.RowKit
set_option linter.unusedVariables false
set_option linter.unusedSimpArgs false
set_option maxRecDepth 100000 in
set_option maxHeartbeats 400000 in
theorem rosize_any (n : Int) (w : World) : Calls Tryd.prog 58 #[.int .i64 n] w fun e w' => e = .returned (.int .i64 (sizeF n)) ∧ w = w' := by
  go_enter Tryd.func58, Tryd.ntmps58
  go_wp2
  all_goals
    go_ret
    exact ⟨ret_int (by unfold sizeF; omega), rfl⟩
set_option maxRecDepth 100000 in
set_option maxHeartbeats 1000000 in
theorem rtake_ok (B : Nat) (s : ByteArray) (p n : Nat) (w : World) (h : Rd 91 w B s p false) (hn : p + n ≤ s.size) :
    Calls Tryd.prog 57 #[.pointer (some ⟨B, 0, none⟩), .int .i64 n] w (RdPost 91 (.string (s.extract p (p + n))) B s (p + n) false w) := by
  obtain ⟨hb, hp, hs⟩ := h
  have HB := Lib.hid hb
  have c0 : w.cell? ⟨B, 0, none⟩ = some (.string s) := hb.cell 0
  have c1 : w.cell? ⟨B, 1, none⟩ = some (.int .i64 p) := hb.cell 1
  have c2 : w.cell? ⟨B, 2, none⟩ = some (.bool false) := hb.cell 2
  have f1 := hb.frozen 1
  have hd1 : decide ((n : Int) < 0) = false := by simp
  have hd2 : decide ((s.size : Int) - (p : Int) < (n : Int)) = false := by simp; omega
  have e1 : (0 : Int) ≤ (p : Int) + (n : Int) := by omega
  have e2 : (p : Int) + (n : Int) ≤ (s.size : Int) := by omega
  have e3 : (p : Int) ≤ (p : Int) + (n : Int) := by omega
  clear hb
  go_enter Tryd.func57, Tryd.ntmps57
  go_wp2_with fail
  go_quiet (fail)
  go_wp2_with fail
  go_quiet (fail)
  go_wp2
  go_ret
  refine ⟨rfl, ⟨?_, hn, hs⟩, ?_⟩
  · rw [show ((p + n : Nat) : Int) = (p : Int) + (n : Int) by omega]
    exact ((HB.out.drewN _).set_ 1 _).drewN _
  · exact (((Upd.refl _ _).drewN _).set (.inl (by simp)) _).drewN _
set_option maxRecDepth 100000 in
set_option maxHeartbeats 1000000 in
theorem rnum_ok (B : Nat) (s : ByteArray) (p k : Nat) (w : World) (h : Rd 91 w B s p false) (hk : k ≤ 4) (hn : p + k ≤ s.size) :
    Calls Tryd.prog 29 #[.pointer (some ⟨B, 0, none⟩), .int .i64 k] w (RdPost 91 (.int .i64 (numS s p k)) B s (p + k) false w) := by
  have H := Lib.hid h; clear h
  have hsk := Lib.hid (show sizeF k = k by unfold sizeF; omega)
  go_enter Tryd.func29, Tryd.ntmps29
  go_wp2_with fail
  refine (rosize_any _ _).mono ?_
  rw [hsk.out]
  rintro e w1 ⟨rfl, rfl⟩
  go_wp2_with fail
  refine (rtake_ok _ _ _ _ _ H.out hn).mono ?_
  rintro e w1 ⟨rfl, hr, hu⟩
  obtain ⟨t, ht⟩ : ∃ t, t = s.extract p (p + k) := ⟨_, rfl⟩
  rw [← ht]
  have htk : t.size = k := by rw [ht, ByteArray.size_extract]; have := H.out.2.1; omega
  have HT := Lib.hid (show numS s p k = numL t.data.toList by rw [numS, ← ht])
  have hb4 := numL_lt t.data.toList
  have hts : (t.size : Int) ≤ 4 := by omega
  have h4 : 256 ^ t.data.toList.length ≤ 4294967296 := by
    have e : t.data.toList.length = t.size := by simp
    rw [e]
    exact Nat.le_trans (Nat.pow_le_pow_right (by omega) (show t.size ≤ 4 by omega)) (by decide)
  have HR := Lib.hid hr
  have HU := Lib.hid hu
  have hfin : ((numL t.data.toList : Nat) : Int) ≤ 4294967296 := by omega
  clear hr hu ht htk hb4 h4
  go_wp2
  go_loop [6, 7] (fun x v => ∃ j : Nat, v = .int .i64 j ∧ j ≤ t.size ∧ x = .int .u64 (numL (t.data.toList.take j))) (fun _ v => t.size - (intOf v).toNat)
  case atStart => exact ⟨0, rfl, Nat.zero_le _, rfl⟩
  case round =>
    obtain ⟨j, rfl, hj, rfl⟩ := hrel
    rcases Nat.lt_or_ge j t.size with hlt | hge
    · have hb := numL_lt (t.data.toList.take j)
      have hlen : (t.data.toList.take j).length = j := by simp; omega
      have h256 : 256 ^ (t.data.toList.take j).length ≤ 16777216 := by
        rw [hlen]
        exact Nat.le_trans (Nat.pow_le_pow_right (by omega) (show j ≤ 3 by omega)) (by decide)
      have hsn : t.data.toList.take (j + 1) = t.data.toList.take j ++ [t[j]] := by rw [List.take_succ_eq_append_getElem (by simpa using hlt)]; rfl
      have HN := Lib.hid (show numL (t.data.toList.take (j + 1)) = numL (t.data.toList.take j) * 256 + t[j].toNat by rw [hsn, numL_snoc])
      obtain ⟨a, ha⟩ : ∃ a, a = numL (t.data.toList.take j) := ⟨_, rfl⟩
      rw [← ha] at hb HN ⊢
      have hc8 : t[j].toNat < 256 := UInt8.toNat_lt _
      have ha1 : (a : Int) ≤ 16777216 := by omega
      have i1 : (0 : Int) ≤ (j : Int) := by omega
      have i2 : (j : Int) < (t.size : Int) := by omega
      clear hsn hlen h256 hb ha
      go_wp2
      go_round
      case rel => exact ⟨j + 1, by go_num, by omega, by rw [HN.out]; go_num⟩
      case measure => simp [intOf]; omega
    · obtain rfl : j = t.size := by omega
      have e : t.data.toList.take t.size = t.data.toList := List.take_of_length_le (by simp)
      rw [e]
      obtain ⟨a, ha⟩ : ∃ a, a = numL t.data.toList := ⟨_, rfl⟩
      rw [← ha] at HT hfin ⊢
      clear e ha
      go_wp2
      go_ret
      exact ⟨by rw [HT.out]; rfl, HR.out, HU.out⟩
end
end Go.Proofs.YtjnplglnnamfdaaDoor
namespace Go.Proofs.YtjnplglnnamfdaaDoor
section
open Go.RowKit
set_option linter.unusedVariables false
set_option linter.unusedSimpArgs false
def it0 : Itm := (ByteArray.empty, none)
theorem getD_strs {its : List Itm} {m : Nat} (h : m < its.length) : (strs its)[m]? = some (.string (its.getD m it0).1) := by
  rw [strs, List.getElem?_map, List.getElem?_eq_getElem h, List.getD_eq_getElem?_getD, List.getElem?_eq_getElem h]; rfl
def hdF (v : PV) : Bool := !((((!(v.ok)) || ((v.k) != 1)) || ((v.its.length : Int) == 0)) || ((((v.its.getD 0 it0).1).size : Int) != 2))
def ofF (v : PV) : Int := if hdF v then (numS (v.its.getD 0 it0).1 0 2 : Int) else 0
def tbF (v : PV) : Int := if hdF v then (numS (v.its.getD 0 it0).1 0 2 : Int) else -1
set_option maxRecDepth 100000 in
set_option maxHeartbeats 2000000 in
theorem of_any (tt : TypeId) (tv : Value) (pv : Int → PV) (n : Int) (w : World) (hS : PgsOk w tt tv pv) :
    Calls Tryd.prog 31 #[.iface tt (tv), .int .i64 n] w (Ret (.tuple #[.int .i64 (ofF (pv n)), .bool (hdF (pv n))]) w) := by
  obtain ⟨f0, rv, hM, hC, hG⟩ := hS.ex
  have hwl := (hS.wf n).1
  go_enter Tryd.func31, Tryd.ntmps31
  have hst0 := St.start w
  refine wp_seq (wp_region_P [0, 1] [.k 4 (vi 0), .k 5 (.bool false)] [(4, 0, 2, 6)] hst0 fun W1 hst1 => ?_)
  refine then_normal (wp_seq (wp_region_Y [0, 0, 3, 7, 15, 15, 0, 95, 255] [[], [], [], [], [], [], [], [1]] [[], [], [0], [], [], [], [1], [2]] [[], [], [], [], [], [], [], [1]] [.k 8 (.iface tt (tv)), .k 9 (vi n), .a 10, .a 7, .a 11, .c 12 (.bool ((pv n).ok)), .a 6, .n, .k 5 (.bool ((pv n).ok))] (fun ix σ β X => match ix with | 0 => True | 1 => True | 2 => σ 10 = .tuple #[.agg #[vi ((pv n).k), vi ((pv n).l), .slice (sA (tg (tg (β 10) 0) 2)) ((pv n).its.length) (sC (tg (tg (β 10) 0) 2))], .bool ((pv n).ok)] ∧ X 0 = eO 9 1 (.slice (sA (tg (tg (β 10) 0) 2)) ((pv n).its.length) (sC (tg (tg (β 10) 0) 2))) ((pv n).its.length) (strs (pv n).its) | 3 => σ 7 = .tuple #[.agg #[vi ((pv n).k), vi ((pv n).l), .slice (sA (tg (tg (β 10) 0) 2)) ((pv n).its.length) (sC (tg (tg (β 10) 0) 2))], .bool ((pv n).ok)] | 4 => σ 11 = .agg #[vi ((pv n).k), vi ((pv n).l), .slice (sA (tg (tg (β 10) 0) 2)) ((pv n).its.length) (sC (tg (tg (β 10) 0) 2))] | 5 => True | 6 => σ 6 = vp (pb (β 6)) ∧ X 1 = eB (pb (β 6)) 86 #[vi 0, vi 0, .slice none 0 0] | 7 => X 2 = eB (pb (β 6)) 86 #[vi ((pv n).k), vi ((pv n).l), .slice (sA (tg (tg (β 10) 0) 2)) ((pv n).its.length) (sC (tg (tg (β 10) 0) 2))] | _ => True) [0, 2] [2, 3, 4, 5, 6, 7] [(5, 8, 1, 6), (0, 6, 1, 1), (0, 3, 1, 1), (0, 0, 3, 3), (0, 4, 2, 2)] hst1 ?_ ?_ ?_))
  · exact fun ix _ _ _ _ _ _ hs hb hx h => match ix, h with
    | 2, h => by dsimp only at h ⊢; rw [← hs 10 rfl, ← hb 10 rfl, ← hx 0 rfl]; exact h
    | 3, h => by dsimp only at h ⊢; rw [← hs 7 rfl, ← hb 10 rfl]; exact h
    | 4, h => by dsimp only at h ⊢; rw [← hs 11 rfl, ← hb 10 rfl]; exact h
    | 6, h => by dsimp only at h ⊢; rw [← hs 6 rfl, ← hb 6 rfl, ← hx 1 rfl]; exact h
    | 7, h => by dsimp only at h ⊢; rw [← hb 6 rfl, ← hb 10 rfl, ← hx 2 rfl]; exact h
    | 0, _ | 1, _ | 5, _ | _ + 8, _ => trivial
  · refine ⟨?_, ?_, ?_, ?_, ?_, ?_, trivial⟩
    · refine sv_any rfl rfl fun ρ β W X cx => ?_
      refine DoesU.call (run_invoke (args := #[vi n]) (args' := #[rv, vi n]) rfl rfl (cx.an 0) hM hC (map1 (cx.an 1)) rfl) ?_
      refine (hG _ n cx.upd.to_ext).mono ?_
      rintro e W1 ⟨A4, c4, rfl, ho, hx⟩
      refine ⟨_, rfl, post_call [eO 9 1 (.slice A4 (pv n).its.length c4) (pv n).its.length (strs (pv n).its)] rfl rfl hx (one_new (eO_new ho)) (List.pairwise_singleton _ _) (fun σ β' X' hs hb hv hN => ?_)⟩
      have hv1 := (hv 10 rfl).1; have hv2 := (hv 10 rfl).2
      exact ⟨hv1.trans (by rw [hv2]; rfl), (by rw [hv2]; exact (List.cons.inj hN).1)⟩
    · exact sv rfl rfl rfl rfl rfl _ (fun _ _ _ h => h) (fun β β' h => by rw [h 10 (by decide)]) fun ρ β W X cx => run_move' rfl (dTn (cx.an 2)).1
    · exact sv rfl rfl rfl rfl rfl _ (fun _ _ _ h => h) (fun β β' h => by rw [h 10 (by decide)]) fun ρ β W X cx => run_extract' rfl (dTn (cx.an 3)) rfl
    · exact xs4 rfl id fun cx => run_extract' rfl (dTn (cx.an 3)) rfl
    · refine sv_any rfl rfl fun ρ β W X cx => ?_
      exact dv_alloc (cs := #[vi 0, vi 0, .slice none 0 0]) rfl (by kernel_rfl) rfl rfl (fun σ β' X' hs hb hv hx => ⟨hv, hx⟩)
    · refine sv_any rfl rfl fun ρ β W X cx => ?_
      exact dv_store (n := 3) rfl (dTn (cx.an 6)).1 (dTn (cx.an 4)) (by kernel_rfl) (by kernel_rfl) (by kernel_rfl) cx (dTn (cx.an 6)).2 rfl (nle rfl) (by kernel_rfl) rfl rfl rfl (fun σ β' X' hs hb hx => by rw [hb 6, hb 10]; exact hx)
  intro σ β X W2 hD hst2 fr hfr
  obtain ⟨A10_2, hu_A10_2⟩ : ∃ z, sA (tg (tg (β 10) 0) 2) = z := ⟨_, rfl⟩
  obtain ⟨c10_2, hu_c10_2⟩ : ∃ z, sC (tg (tg (β 10) 0) 2) = z := ⟨_, rfl⟩
  obtain ⟨B6_2, hu_B6_2⟩ : ∃ z, pb (β 6) = z := ⟨_, rfl⟩
  simp only [exq 0 ((dTn (hD 2 lq)).2), exq 2 ((dTn (hD 7 lq))), hu_A10_2, hu_c10_2, hu_B6_2] at hst2
  simp only [ed 10 ((dTn (hD 2 lq)).1), ed 7 ((dTn (hD 3 lq))), ed 11 ((dTn (hD 4 lq))), ed 6 ((dTn (hD 6 lq)).1), hu_A10_2, hu_c10_2, hu_B6_2] at hfr
  clear hD hu_A10_2 hu_c10_2 hu_B6_2; subst hfr; clear σ β X
  refine then_normal (wp_seq (wp_seq (wp_region_Z [0, 1, 3, 7, 15, 31, 63, 127, 255, 511, 1023, 2047, 4095, 8191, 16383, 32767, 65535, 131071, 262143, 524287, 1048575] [[], [], [], [], [1], [], [], [], [], [1], [], [], [], [], [], [1], [0], [0]] [.k 13 (.bool ((pv n).ok)), .k 14 (.bool (!((pv n).ok))), .k 15 (.bool (!((pv n).ok))), .z 16 (!(!((pv n).ok))) (vp B6_2), .y 17 (!(!((pv n).ok))) (vi ((pv n).k)), .z 18 (!(!((pv n).ok))) (.bool (((pv n).k) != 1)), tO 19 (!((pv n).ok)) (((pv n).k) != 1), .k 20 (.bool ((!((pv n).ok)) || (((pv n).k) != 1))), .z 21 (!((!((pv n).ok)) || (((pv n).k) != 1))) (.pointer (some ⟨B6_2, 2, none⟩)), .y 22 (!((!((pv n).ok)) || (((pv n).k) != 1))) (.slice A10_2 ((pv n).its.length) c10_2), .z 23 (!((!((pv n).ok)) || (((pv n).k) != 1))) (vi (((pv n).its.length : Int))), .z 24 (!((!((pv n).ok)) || (((pv n).k) != 1))) (.bool (((pv n).its.length : Int) == 0)), tO 25 ((!((pv n).ok)) || (((pv n).k) != 1)) (((pv n).its.length : Int) == 0), .k 26 (.bool (((!((pv n).ok)) || (((pv n).k) != 1)) || (((pv n).its.length : Int) == 0))), .z 27 (!(((!((pv n).ok)) || (((pv n).k) != 1)) || (((pv n).its.length : Int) == 0))) (.pointer (some ⟨B6_2, 2, none⟩)), .y 28 (!(((!((pv n).ok)) || (((pv n).k) != 1)) || (((pv n).its.length : Int) == 0))) (.slice A10_2 ((pv n).its.length) c10_2), .y 29 (!(((!((pv n).ok)) || (((pv n).k) != 1)) || (((pv n).its.length : Int) == 0))) (.pointer (some ((ad A10_2).add 0))), .y 30 (!(((!((pv n).ok)) || (((pv n).k) != 1)) || (((pv n).its.length : Int) == 0))) (.string (((pv n).its.getD 0 it0).1)), .z 31 (!(((!((pv n).ok)) || (((pv n).k) != 1)) || (((pv n).its.length : Int) == 0))) (vi (((((pv n).its.getD 0 it0).1).size : Int))), .z 32 (!(((!((pv n).ok)) || (((pv n).k) != 1)) || (((pv n).its.length : Int) == 0))) (.bool (((((pv n).its.getD 0 it0).1).size : Int) != 2)), tO 33 (((!((pv n).ok)) || (((pv n).k) != 1)) || (((pv n).its.length : Int) == 0)) (((((pv n).its.getD 0 it0).1).size : Int) != 2)] [0, 1] [4, 9, 15, 16, 17] [(13, 0, 21, 34)] hst2 ?_ fun W3 hst3 => ?_)))
  · refine ⟨?_, ?_, ?_, ?_, ?_, trivial⟩
    · exact m2 rfl (fun _ _ _ h => h) (fun cx => (cx.an 2)) fun cx hq => run_load1 rfl (by kernel_rfl) (mbv (cx.an 3) hq) ((cx.bi 1 rfl).cell 0)
    · exact m2 rfl (fun _ _ _ h => h) (fun cx => (cx.an 7)) fun cx hq => run_load1 rfl (by kernel_rfl) (mbv (cx.an 8) hq) ((cx.bi 1 rfl).cell 2)
    · exact m2 rfl (fun _ _ _ h => h) (fun cx => (cx.an 13)) fun cx hq => run_load1 rfl (by kernel_rfl) (mbv (cx.an 14) hq) ((cx.bi 1 rfl).cell 2)
    · exact m2 rfl (fun _ _ _ h => h) (fun cx => (cx.an 13)) fun cx hq => run_indexSl (e := 9) (m := 0) rfl (by kernel_rfl) (by kernel_rfl) (mbv (cx.an 15) hq) (cx.co _) (by have hq_ := hq; simp only [zB] at hq_; omega) (by have hq_ := hq; simp only [zB] at hq_; omega) (At.of_own (cx.ri 0 rfl)) (strs_len _)
    · exact m2 rfl (fun _ _ _ h => h) (fun cx => (cx.an 13)) fun cx hq => run_load1 rfl (by kernel_rfl) (mbv (cx.an 16) hq) (At.cellAd (At.of_own (cx.ri 0 rfl)) (getD_strs (by have hq_ := hq; simp only [zB] at hq_; omega)))
  refine then_normal ?_
  rcases Bool.eq_false_or_eq_true ((((!((pv n).ok)) || (((pv n).k) != 1)) || (((pv n).its.length : Int) == 0)) || (((((pv n).its.getD 0 it0).1).size : Int) != 2)) with hs4 | hs4
  · skip
    have hs4p := hs4
    simp only [zB] at hs4p
    refine wp_cond_true (show Act.eval _ _ = .bool true from (congrArg Value.bool hs4)) (wp_seq (wp_region_P [0, 1] [.k 4 (vi 0), .k 5 (.bool false)] [(4, 0, 2, 6)] hst3 fun W5 hst5 => ?_))
    refine then_normal (wp_ret (then_ret ?_))
    refine bodyPost_ret (v := .tuple #[vi 0, .bool false]) (by simp [results, Tryd.results31, go_sem]) rfl ?_
    exact Ret.of (by rw [ofF, hdF, hs4]; rfl) hst5.ext
  have hs4p := hs4
  simp only [zB] at hs4p
  obtain ⟨⟨⟨hs4p1, hs4p2⟩, hs4p3⟩, hs4p4⟩ := hs4p
  refine wp_cond_false (show Act.eval _ _ = .bool false from (congrArg Value.bool hs4)) (wp_skip (then_normal (wp_seq (wp_region_Y [0, 1, 3, 7, 15, 31, 63, 127] [[], [1], [0], [0], [], [2]] [[], [], [], [], [2], [3]] [[], [], [], [], [], [2]] [.k 34 (.pointer (some ⟨B6_2, 2, none⟩)), .c 35 (.slice A10_2 ((pv n).its.length) c10_2), .c 36 (.pointer (some ((ad A10_2).add 0))), .c 37 (.string (((pv n).its.getD 0 it0).1)), .a 38, .a 39, .c 4 (vi ((numS (((pv n).its.getD 0 it0).1) 0 2 : Int))), .k 5 (.bool true)] (fun ix σ β X => match ix with | 0 => True | 1 => True | 2 => True | 3 => True | 4 => σ 38 = vp (pb (β 38)) ∧ X 2 = eB (pb (β 38)) 168 #[.string (((pv n).its.getD 0 it0).1), vi 0, .bool false] | 5 => σ 39 = vi ((numS (((pv n).its.getD 0 it0).1) 0 2 : Int)) ∧ X 3 = eB (pb (β 38)) 168 #[.string (((pv n).its.getD 0 it0).1), vi 2, .bool false] | _ => True) [0, 1, 3] [1, 2, 3, 4, 5, 6] [(4, 6, 2, 6), (28, 0, 6, 34)] hst3 ?_ ?_ ?_))))
  · exact fun ix _ _ _ _ _ _ hs hb hx h => match ix, h with
    | 4, h => by dsimp only at h ⊢; rw [← hs 38 rfl, ← hb 38 rfl, ← hx 2 rfl]; exact h
    | 5, h => by dsimp only at h ⊢; rw [← hs 39 rfl, ← hb 38 rfl, ← hx 3 rfl]; exact h
    | 0, _ | 1, _ | 2, _ | 3, _ | _ + 6, _ => trivial
  · refine ⟨?_, ?_, ?_, ?_, ?_, ?_, trivial⟩
    · exact xs4 rfl id fun cx => run_load1 rfl (by kernel_rfl) (cx.an 0) ((cx.bi 1 rfl).cell 2)
    · exact xs4 rfl id fun cx => run_indexSl (e := 9) (m := 0) rfl (by kernel_rfl) (by kernel_rfl) (cx.an 1) (cx.co _) (by omega) (by omega) (At.of_own (cx.ri 0 rfl)) (strs_len _)
    · exact xs4 rfl id fun cx => run_load1 rfl (by kernel_rfl) (cx.an 2) (At.cellAd (At.of_own (cx.ri 0 rfl)) (getD_strs (by omega)))
    · refine sv_any rfl rfl fun ρ β W X cx => ?_
      refine DoesU.call (run_callF (args := #[.string (((pv n).its.getD 0 it0).1)]) rfl cx.sees rfl (by kernel_rfl) (map1 (cx.an 3))) ?_
      refine (oread_b (((pv n).its.getD 0 it0).1) _).mono ?_
      rintro e W1 ⟨B4, rfl, ⟨hb4, hw4⟩, hx⟩
      refine ⟨_, rfl, post_call [eB B4 168 #[.string (((pv n).its.getD 0 it0).1), vi 0, .bool false]] rfl rfl hx (one_new ⟨hb4, eB_loc _ _ _, fun k hk => by simp [eB] at hk; subst hk; exact ⟨hw4, hb4.lt⟩⟩) (List.pairwise_singleton _ _) (fun σ β' X' hs hb hv hN => ?_)⟩
      have hv1 := (hv 38 rfl).1; have hv2 := (hv 38 rfl).2
      exact ⟨hv1.trans (by rw [hv2]; rfl), (by rw [hv2]; exact (List.cons.inj hN).1)⟩
    · refine sv_any rfl rfl fun ρ β W X cx => ?_
      refine DoesU.call (run_callF (args := #[vp (pb (β 38)), vi 2]) rfl cx.sees rfl (by kernel_rfl) (map2 (dTn (cx.an 4)).1 (cx.co _))) ?_
      refine (num_ok _ (((pv n).its.getD 0 it0).1) 0 2 _ ⟨(cx.blk (dTn (cx.an 4)).2 rfl), by omega, by omega⟩ (by omega) (by omega)).mono ?_
      rintro e W1 ⟨rfl, hrd, hu⟩
      refine ⟨_, rfl, post_mut (dTn (cx.an 4)).2 rfl rfl hu hrd.1 (fun σ β' X' hs hb hv hx => ?_)⟩
      rw [hb 38 (by decide)]
      exact ⟨(hv 39 rfl).1.trans rfl, hx⟩
    · exact xs4 rfl id fun cx => run_assign' rfl (dTn (cx.an 5)).1
  intro σ β X W6 hD hst6 fr hfr
  obtain ⟨B38_6, hu_B38_6⟩ : ∃ z, pb (β 38) = z := ⟨_, rfl⟩
  simp only [exq 3 ((dTn (hD 5 lq)).2), hu_B38_6] at hst6
  simp only [ed 38 ((dTn (hD 4 lq)).1), ed 39 ((dTn (hD 5 lq)).1), hu_B38_6] at hfr
  clear hD hu_B38_6; subst hfr; clear σ β X
  refine then_normal (wp_ret ?_)
  refine bodyPost_ret (v := .tuple #[vi ((numS (((pv n).its.getD 0 it0).1) 0 2 : Int)), .bool true]) (by simp [results, Tryd.results31, go_sem]) rfl ?_
  exact Ret.of (by rw [ofF, hdF, hs4]; rfl) hst6.ext
set_option maxRecDepth 100000 in
set_option maxHeartbeats 2000000 in
theorem rtable_any (PA : Option Addr) (pc : Nat) (Ps : List PgD) (n : Int) (w : World) (hP : PgsAt w PA Ps) :
    Calls Tryd.prog 8 #[.agg #[.slice PA Ps.length pc], .int .i64 n] w (Ret (.int .i64 (tbF (pvF Ps n))) w) := by
  have hwl := (hP.wf n).1
  go_enter Tryd.func8, Tryd.ntmps8
  have hst0 := St.start w
  refine wp_seq (wp_region_Y [0, 0] [] [[0]] [] [.a 2, .k 4 (vi 0)] (fun ix σ β X => match ix with | 0 => σ 2 = vp (pb (β 2)) ∧ X 0 = eB (pb (β 2)) 30 #[.slice PA Ps.length pc] | _ => True) [0] [0] [(2, 0, 1, 3), (1, 1, 1, 2)] hst0 ?_ ?_ ?_)
  · exact fun ix _ _ _ _ _ _ hs hb hx h => match ix, h with
    | 0, h => by dsimp only at h ⊢; rw [← hs 2 rfl, ← hb 2 rfl, ← hx 0 rfl]; exact h
    | _ + 1, _ => trivial
  · refine ⟨?_, trivial⟩
    · refine sv_any rfl rfl fun ρ β W X cx => ?_
      exact dv_box (cs := #[.slice PA Ps.length pc]) rfl (cx.ou 0) rfl rfl rfl (fun σ β' X' hs hb hv hx => ⟨hv, hx⟩)
  intro σ β X W1 hD hst1 fr hfr
  obtain ⟨B2_1, hu_B2_1⟩ : ∃ z, pb (β 2) = z := ⟨_, rfl⟩
  simp only [exq 0 ((dTn (hD 0 lq)).2), hu_B2_1] at hst1
  simp only [ed 2 ((dTn (hD 0 lq)).1), hu_B2_1] at hfr
  clear hD hu_B2_1; subst hfr; clear σ β X
  refine then_normal (wp_seq (wp_region_Y [0, 0, 3, 7, 15, 15, 0, 95, 255] [[0], [], [], [], [], [], [], [2]] [[], [], [1], [], [], [], [2], [3]] [[], [], [], [], [], [], [], [2]] [.c 9 (.agg #[.slice PA Ps.length pc]), .k 10 (vi n), .a 11, .a 8, .a 12, .c 13 (.bool ((pvF Ps n).ok)), .a 5, .n, .k 6 (.bool ((pvF Ps n).ok))] (fun ix σ β X => match ix with | 0 => True | 1 => True | 2 => σ 11 = .tuple #[.agg #[vi ((pvF Ps n).k), vi ((pvF Ps n).l), .slice (sA (tg (tg (β 11) 0) 2)) ((pvF Ps n).its.length) (sC (tg (tg (β 11) 0) 2))], .bool ((pvF Ps n).ok)] ∧ X 1 = eO 9 1 (.slice (sA (tg (tg (β 11) 0) 2)) ((pvF Ps n).its.length) (sC (tg (tg (β 11) 0) 2))) ((pvF Ps n).its.length) (strs (pvF Ps n).its) | 3 => σ 8 = .tuple #[.agg #[vi ((pvF Ps n).k), vi ((pvF Ps n).l), .slice (sA (tg (tg (β 11) 0) 2)) ((pvF Ps n).its.length) (sC (tg (tg (β 11) 0) 2))], .bool ((pvF Ps n).ok)] | 4 => σ 12 = .agg #[vi ((pvF Ps n).k), vi ((pvF Ps n).l), .slice (sA (tg (tg (β 11) 0) 2)) ((pvF Ps n).its.length) (sC (tg (tg (β 11) 0) 2))] | 5 => True | 6 => σ 5 = vp (pb (β 5)) ∧ X 2 = eB (pb (β 5)) 86 #[vi 0, vi 0, .slice none 0 0] | 7 => X 3 = eB (pb (β 5)) 86 #[vi ((pvF Ps n).k), vi ((pvF Ps n).l), .slice (sA (tg (tg (β 11) 0) 2)) ((pvF Ps n).its.length) (sC (tg (tg (β 11) 0) 2))] | _ => True) [0, 1, 3] [0, 2, 3, 4, 5, 6, 7] [(5, 6, 3, 7), (1, 3, 1, 2), (0, 0, 3, 3), (0, 4, 2, 2)] hst1 ?_ ?_ ?_))
  · exact fun ix _ _ _ _ _ _ hs hb hx h => match ix, h with
    | 2, h => by dsimp only at h ⊢; rw [← hs 11 rfl, ← hb 11 rfl, ← hx 1 rfl]; exact h
    | 3, h => by dsimp only at h ⊢; rw [← hs 8 rfl, ← hb 11 rfl]; exact h
    | 4, h => by dsimp only at h ⊢; rw [← hs 12 rfl, ← hb 11 rfl]; exact h
    | 6, h => by dsimp only at h ⊢; rw [← hs 5 rfl, ← hb 5 rfl, ← hx 2 rfl]; exact h
    | 7, h => by dsimp only at h ⊢; rw [← hb 5 rfl, ← hb 11 rfl, ← hx 3 rfl]; exact h
    | 0, _ | 1, _ | 5, _ | _ + 8, _ => trivial
  · refine ⟨?_, ?_, ?_, ?_, ?_, ?_, ?_, trivial⟩
    · exact xs4 rfl id fun cx => run_loadB (n := 1) rfl (by kernel_rfl) (by kernel_rfl) (cx.ou 2) (cx.bi 0 rfl) (nle rfl) rfl
    · refine sv_any rfl rfl fun ρ β W X cx => ?_
      refine DoesU.call (run_callF (args := #[.agg #[.slice PA Ps.length pc], vi n]) rfl cx.sees rfl (by kernel_rfl) (map2 (cx.an 0) (cx.an 1))) ?_
      refine (rpage_any _ _ Ps n _ (hP.ext cx.upd.to_ext)).mono ?_
      rintro e W1 ⟨A4, c4, rfl, ho, hx⟩
      refine ⟨_, rfl, post_call [eO 9 1 (.slice A4 (pvF Ps n).its.length c4) (pvF Ps n).its.length (strs (pvF Ps n).its)] rfl rfl hx (one_new (eO_new ho)) (List.pairwise_singleton _ _) (fun σ β' X' hs hb hv hN => ?_)⟩
      have hv1 := (hv 11 rfl).1; have hv2 := (hv 11 rfl).2
      exact ⟨hv1.trans (by rw [hv2]; rfl), (by rw [hv2]; exact (List.cons.inj hN).1)⟩
    · exact sv rfl rfl rfl rfl rfl _ (fun _ _ _ h => h) (fun β β' h => by rw [h 11 (by decide)]) fun ρ β W X cx => run_move' rfl (dTn (cx.an 2)).1
    · exact sv rfl rfl rfl rfl rfl _ (fun _ _ _ h => h) (fun β β' h => by rw [h 11 (by decide)]) fun ρ β W X cx => run_extract' rfl (dTn (cx.an 3)) rfl
    · exact xs4 rfl id fun cx => run_extract' rfl (dTn (cx.an 3)) rfl
    · refine sv_any rfl rfl fun ρ β W X cx => ?_
      exact dv_alloc (cs := #[vi 0, vi 0, .slice none 0 0]) rfl (by kernel_rfl) rfl rfl (fun σ β' X' hs hb hv hx => ⟨hv, hx⟩)
    · refine sv_any rfl rfl fun ρ β W X cx => ?_
      exact dv_store (n := 3) rfl (dTn (cx.an 6)).1 (dTn (cx.an 4)) (by kernel_rfl) (by kernel_rfl) (by kernel_rfl) cx (dTn (cx.an 6)).2 rfl (nle rfl) (by kernel_rfl) rfl rfl rfl (fun σ β' X' hs hb hx => by rw [hb 5, hb 11]; exact hx)
  intro σ β X W2 hD hst2 fr hfr
  obtain ⟨A11_2, hu_A11_2⟩ : ∃ z, sA (tg (tg (β 11) 0) 2) = z := ⟨_, rfl⟩
  obtain ⟨c11_2, hu_c11_2⟩ : ∃ z, sC (tg (tg (β 11) 0) 2) = z := ⟨_, rfl⟩
  obtain ⟨B5_2, hu_B5_2⟩ : ∃ z, pb (β 5) = z := ⟨_, rfl⟩
  simp only [exq 1 ((dTn (hD 2 lq)).2), exq 3 ((dTn (hD 7 lq))), hu_A11_2, hu_c11_2, hu_B5_2] at hst2
  simp only [ed 11 ((dTn (hD 2 lq)).1), ed 8 ((dTn (hD 3 lq))), ed 12 ((dTn (hD 4 lq))), ed 5 ((dTn (hD 6 lq)).1), hu_A11_2, hu_c11_2, hu_B5_2] at hfr
  clear hD hu_A11_2 hu_c11_2 hu_B5_2; subst hfr; clear σ β X
  refine then_normal (wp_seq (wp_seq (wp_region_Z [0, 1, 3, 7, 15, 31, 63, 127, 255, 511, 1023, 2047, 4095, 8191, 16383, 32767, 65535, 131071, 262143, 524287, 1048575] [[], [], [], [], [2], [], [], [], [], [2], [], [], [], [], [], [2], [1], [1]] [.k 14 (.bool ((pvF Ps n).ok)), .k 15 (.bool (!((pvF Ps n).ok))), .k 16 (.bool (!((pvF Ps n).ok))), .z 17 (!(!((pvF Ps n).ok))) (vp B5_2), .y 18 (!(!((pvF Ps n).ok))) (vi ((pvF Ps n).k)), .z 19 (!(!((pvF Ps n).ok))) (.bool (((pvF Ps n).k) != 1)), tO 20 (!((pvF Ps n).ok)) (((pvF Ps n).k) != 1), .k 21 (.bool ((!((pvF Ps n).ok)) || (((pvF Ps n).k) != 1))), .z 22 (!((!((pvF Ps n).ok)) || (((pvF Ps n).k) != 1))) (.pointer (some ⟨B5_2, 2, none⟩)), .y 23 (!((!((pvF Ps n).ok)) || (((pvF Ps n).k) != 1))) (.slice A11_2 ((pvF Ps n).its.length) c11_2), .z 24 (!((!((pvF Ps n).ok)) || (((pvF Ps n).k) != 1))) (vi (((pvF Ps n).its.length : Int))), .z 25 (!((!((pvF Ps n).ok)) || (((pvF Ps n).k) != 1))) (.bool (((pvF Ps n).its.length : Int) == 0)), tO 26 ((!((pvF Ps n).ok)) || (((pvF Ps n).k) != 1)) (((pvF Ps n).its.length : Int) == 0), .k 27 (.bool (((!((pvF Ps n).ok)) || (((pvF Ps n).k) != 1)) || (((pvF Ps n).its.length : Int) == 0))), .z 28 (!(((!((pvF Ps n).ok)) || (((pvF Ps n).k) != 1)) || (((pvF Ps n).its.length : Int) == 0))) (.pointer (some ⟨B5_2, 2, none⟩)), .y 29 (!(((!((pvF Ps n).ok)) || (((pvF Ps n).k) != 1)) || (((pvF Ps n).its.length : Int) == 0))) (.slice A11_2 ((pvF Ps n).its.length) c11_2), .y 30 (!(((!((pvF Ps n).ok)) || (((pvF Ps n).k) != 1)) || (((pvF Ps n).its.length : Int) == 0))) (.pointer (some ((ad A11_2).add 0))), .y 31 (!(((!((pvF Ps n).ok)) || (((pvF Ps n).k) != 1)) || (((pvF Ps n).its.length : Int) == 0))) (.string (((pvF Ps n).its.getD 0 it0).1)), .z 32 (!(((!((pvF Ps n).ok)) || (((pvF Ps n).k) != 1)) || (((pvF Ps n).its.length : Int) == 0))) (vi (((((pvF Ps n).its.getD 0 it0).1).size : Int))), .z 33 (!(((!((pvF Ps n).ok)) || (((pvF Ps n).k) != 1)) || (((pvF Ps n).its.length : Int) == 0))) (.bool (((((pvF Ps n).its.getD 0 it0).1).size : Int) != 2)), tO 34 (((!((pvF Ps n).ok)) || (((pvF Ps n).k) != 1)) || (((pvF Ps n).its.length : Int) == 0)) (((((pvF Ps n).its.getD 0 it0).1).size : Int) != 2)] [0, 1, 2] [4, 9, 15, 16, 17] [(14, 0, 21, 35)] hst2 ?_ fun W3 hst3 => ?_)))
  · refine ⟨?_, ?_, ?_, ?_, ?_, trivial⟩
    · exact m2 rfl (fun _ _ _ h => h) (fun cx => (cx.an 2)) fun cx hq => run_load1 rfl (by kernel_rfl) (mbv (cx.an 3) hq) ((cx.bi 2 rfl).cell 0)
    · exact m2 rfl (fun _ _ _ h => h) (fun cx => (cx.an 7)) fun cx hq => run_load1 rfl (by kernel_rfl) (mbv (cx.an 8) hq) ((cx.bi 2 rfl).cell 2)
    · exact m2 rfl (fun _ _ _ h => h) (fun cx => (cx.an 13)) fun cx hq => run_load1 rfl (by kernel_rfl) (mbv (cx.an 14) hq) ((cx.bi 2 rfl).cell 2)
    · exact m2 rfl (fun _ _ _ h => h) (fun cx => (cx.an 13)) fun cx hq => run_indexSl (e := 9) (m := 0) rfl (by kernel_rfl) (by kernel_rfl) (mbv (cx.an 15) hq) (cx.co _) (by have hq_ := hq; simp only [zB] at hq_; omega) (by have hq_ := hq; simp only [zB] at hq_; omega) (At.of_own (cx.ri 1 rfl)) (strs_len _)
    · exact m2 rfl (fun _ _ _ h => h) (fun cx => (cx.an 13)) fun cx hq => run_load1 rfl (by kernel_rfl) (mbv (cx.an 16) hq) (At.cellAd (At.of_own (cx.ri 1 rfl)) (getD_strs (by have hq_ := hq; simp only [zB] at hq_; omega)))
  refine then_normal ?_
  rcases Bool.eq_false_or_eq_true ((((!((pvF Ps n).ok)) || (((pvF Ps n).k) != 1)) || (((pvF Ps n).its.length : Int) == 0)) || (((((pvF Ps n).its.getD 0 it0).1).size : Int) != 2)) with hs4 | hs4
  · skip
    have hs4p := hs4
    simp only [zB] at hs4p
    refine wp_cond_true (show Act.eval _ _ = .bool true from (congrArg Value.bool hs4)) (wp_seq (wp_region_P [0] [.k 4 (vi (-1))] [(4, 0, 1, 5)] hst3 fun W5 hst5 => ?_))
    refine then_normal (wp_ret (then_ret ?_))
    refine bodyPost_ret (v := vi (-1)) (results_tmp Tryd.results8 rfl) rfl ?_
    exact Ret.of (by rw [tbF, hdF, hs4]; rfl) hst5.ext
  have hs4p := hs4
  simp only [zB] at hs4p
  obtain ⟨⟨⟨hs4p1, hs4p2⟩, hs4p3⟩, hs4p4⟩ := hs4p
  refine wp_cond_false (show Act.eval _ _ = .bool false from (congrArg Value.bool hs4)) (wp_skip (then_normal (wp_seq (wp_region_Y [0, 1, 3, 7, 15, 31, 63] [[], [2], [1], [1]] [[], [], [], [], [], [3]] [] [.k 35 (.pointer (some ⟨B5_2, 2, none⟩)), .c 36 (.slice A11_2 ((pvF Ps n).its.length) c11_2), .c 37 (.pointer (some ((ad A11_2).add 0))), .c 38 (.string (((pvF Ps n).its.getD 0 it0).1)), .k 39 (.agg #[.string (((pvF Ps n).its.getD 0 it0).1), vi 0, .bool false]), .a 40, .a 7] (fun ix σ β X => match ix with | 0 => True | 1 => True | 2 => True | 3 => True | 4 => True | 5 => σ 40 = vp (pb (β 40)) ∧ X 3 = eB (pb (β 40)) 91 #[.string (((pvF Ps n).its.getD 0 it0).1), vi 0, .bool false] | 6 => σ 7 = vp (pb (β 40)) | _ => True) [0, 1, 2, 3] [1, 2, 3, 5, 6] [(7, 6, 1, 8), (27, 0, 6, 33)] hst3 ?_ ?_ ?_))))
  · exact fun ix _ _ _ _ _ _ hs hb hx h => match ix, h with
    | 5, h => by dsimp only at h ⊢; rw [← hs 40 rfl, ← hb 40 rfl, ← hx 3 rfl]; exact h
    | 6, h => by dsimp only at h ⊢; rw [← hs 7 rfl, ← hb 40 rfl]; exact h
    | 0, _ | 1, _ | 2, _ | 3, _ | 4, _ | _ + 7, _ => trivial
  · refine ⟨?_, ?_, ?_, ?_, ?_, trivial⟩
    · exact xs4 rfl id fun cx => run_load1 rfl (by kernel_rfl) (cx.an 0) ((cx.bi 2 rfl).cell 2)
    · exact xs4 rfl id fun cx => run_indexSl (e := 9) (m := 0) rfl (by kernel_rfl) (by kernel_rfl) (cx.an 1) (cx.co _) (by omega) (by omega) (At.of_own (cx.ri 1 rfl)) (strs_len _)
    · exact xs4 rfl id fun cx => run_load1 rfl (by kernel_rfl) (cx.an 2) (At.cellAd (At.of_own (cx.ri 1 rfl)) (getD_strs (by omega)))
    · refine sv_any rfl rfl fun ρ β W X cx => ?_
      exact dv_box (cs := #[.string (((pvF Ps n).its.getD 0 it0).1), vi 0, .bool false]) rfl (cx.an 4) rfl rfl rfl (fun σ β' X' hs hb hv hx => ⟨hv, hx⟩)
    · exact sv rfl rfl rfl rfl rfl _ (fun _ _ _ h => h) (fun β β' h => by rw [h 40 (by decide)]) fun ρ β W X cx => run_assign' rfl (dTn (cx.an 5)).1
  intro σ β X W6 hD hst6 fr hfr
  obtain ⟨B40_6, hu_B40_6⟩ : ∃ z, pb (β 40) = z := ⟨_, rfl⟩
  simp only [exq 3 ((dTn (hD 5 lq)).2), hu_B40_6] at hst6
  simp only [ed 40 ((dTn (hD 5 lq)).1), ed 7 ((dTn (hD 6 lq))), hu_B40_6] at hfr
  clear hD hu_B40_6; subst hfr; clear σ β X
  refine then_normal (wp_seq (wp_region_Y [0, 1, 3] [[], [3]] [[], [4]] [[], [3]] [.k 41 (vp B40_6), .a 42, .c 4 (vi ((numS (((pvF Ps n).its.getD 0 it0).1) 0 2 : Int)))] (fun ix σ β X => match ix with | 0 => True | 1 => σ 42 = vi ((numS (((pvF Ps n).its.getD 0 it0).1) 0 2 : Int)) ∧ X 4 = eB B40_6 91 #[.string (((pvF Ps n).its.getD 0 it0).1), vi 2, .bool false] | _ => True) [0, 1, 2, 4] [1, 2] [(4, 2, 1, 5), (36, 0, 2, 38)] hst6 ?_ ?_ ?_))
  · exact fun ix _ _ _ _ _ _ hs hb hx h => match ix, h with
    | 1, h => by dsimp only at h ⊢; rw [← hs 42 rfl, ← hx 4 rfl]; exact h
    | 0, _ | _ + 2, _ => trivial
  · refine ⟨?_, ?_, trivial⟩
    · refine sv_any rfl rfl fun ρ β W X cx => ?_
      refine DoesU.call (run_callF (args := #[vp B40_6, vi 2]) rfl cx.sees rfl (by kernel_rfl) (map2 (cx.an 0) (cx.co _))) ?_
      refine (rnum_ok _ (((pvF Ps n).its.getD 0 it0).1) 0 2 _ ⟨(cx.bi 3 rfl), by omega, by omega⟩ (by omega) (by omega)).mono ?_
      rintro e W1 ⟨rfl, hrd, hu⟩
      refine ⟨_, rfl, post_mut (cx.init 3 _ rfl) rfl rfl hu hrd.1 (fun σ β' X' hs hb hv hx => ?_)⟩
      exact ⟨(hv 42 rfl).1.trans rfl, hx⟩
    · exact xs4 rfl id fun cx => run_assign' rfl (dTn (cx.an 1)).1
  intro σ β X W7 hD hst7 fr hfr
  simp only [exq 4 ((dTn (hD 1 lq)).2)] at hst7
  simp only [ed 42 ((dTn (hD 1 lq)).1)] at hfr
  clear hD; subst hfr; clear σ β X
  refine then_normal (wp_ret ?_)
  refine bodyPost_ret (v := vi ((numS (((pvF Ps n).its.getD 0 it0).1) 0 2 : Int))) (results_tmp Tryd.results8 rfl) rfl ?_
  exact Ret.of (by rw [tbF, hdF, hs4]; rfl) hst7.ext
end
end Go.Proofs.YtjnplglnnamfdaaDoor
namespace Go.Proofs.YtjnplglnnamfdaaDoor
section
open Go.RowKit
set_option linter.unusedVariables false
set_option linter.unusedSimpArgs false
def atF (v : PV) (j : Int) : Option VerD := if 0 ≤ tbF v ∧ 1 ≤ j ∧ j < v.its.length then (v.its.getD j.toNat it0).2 else none
theorem eD_some (o : Option VerD) : (eD o == 0) = o.isSome := by cases o <;> rfl
def VerAt (o : Option VerD) (w : World) (e : Ending) (w' : World) : Prop := ∃ A c, e = .returned (.tuple #[.agg #[.int .i64 (vD o).1, .int .i64 (vD o).2.1, .int .i64 (vD o).2.2.1, .int .i64 (vD o).2.2.2.1, .bool (vD o).2.2.2.2.1, .slice A (vD o).2.2.2.2.2.length c], .bool o.isSome]) ∧
  w'.ownsRow w.heap.size 82 3 (.slice A (vD o).2.2.2.2.2.length c) (vD o).2.2.2.2.2.length (flatR (vD o).2.2.2.2.2) ∧ Ext w w'
theorem PV.desc {v : PV} (h : v.wf) {j : Nat} (hj : j < v.its.length) : Desc (v.its.getD j it0).1 (v.its.getD j it0).2 := by
  refine h.2 _ ?_
  rw [List.getD_eq_getElem?_getD, List.getElem?_eq_getElem hj, Option.getD_some]
  exact List.getElem_mem _
abbrev FK := (Nat × VerD) × Option Addr × Nat
def fk0 : FK := ((0, zD), none, 0)
def cellsF (n : Int) (k : FK) : List Value := [.int .i64 n, .int .i64 (k.1.1 : Int), .int .i64 k.1.2.1, .int .i64 k.1.2.2.1, .int .i64 k.1.2.2.2.1, .int .i64 k.1.2.2.2.2.1, .bool k.1.2.2.2.2.2.1, .slice k.2.1 k.1.2.2.2.2.2.2.length k.2.2]
theorem cellsF_len (n : Int) (k : FK) : (cellsF n k).length = 8 := rfl
theorem found_snoc (n : Int) (ks : List FK) (k : FK) : ks.flatMap (cellsF n) ++ cellsF n k = (ks ++ [k]).flatMap (cellsF n) := by simp
theorem Tryd.infoFnd : (Tryd.prog.info? 78).map (fun i => (i.zero, i.size, i.bytes)) = some (some (.agg #[.int .i64 0, .int .i64 0, .int .i64 0, .int .i64 0, .int .i64 0, .int .i64 0, .bool false, .slice none 0 0]), 8, 80) := by kernel_rfl
theorem ks_len {ks : List FK} {l : List (Nat × VerD)} (h : ks.map Prod.fst = l) : ks.length = l.length := by rw [← h, List.length_map]
def hits (v : PV) : List Itm := if 0 ≤ tbF v then v.its else []
theorem tbF_hd (v : PV) : (0 ≤ tbF v) ↔ hdF v = true := by
  rw [tbF]
  cases hdF v with
  | true => simp only [if_true, iff_true]; omega
  | false => simp
end
end Go.Proofs.YtjnplglnnamfdaaDoor
namespace Go.Proofs.YtjnplglnnamfdaaDoor
section
set_option linter.unusedVariables false
set_option linter.unusedSimpArgs false
open Go.RowKit
/-- the first empty slot among the n slots from i on -/
def frL (ss : List ByteArray) : Nat → Nat → Int
  | 0, _ => -1
  | n + 1, i => if ss.length ≤ i then i else if (ss.getD i ByteArray.empty).toList.isEmpty then i else frL ss n (i + 1)
theorem frL_succ (ss : List ByteArray) (n i : Nat) : frL ss (n + 1) i = if ss.length ≤ i then (i : Int) else if (ss.getD i ByteArray.empty).toList.isEmpty then (i : Int) else frL ss n (i + 1) := rfl
def freeF (k l : Int) (ss : List ByteArray) (from_ : Int) : Int := if rightB k l ss then frL ss (24 - (max from_ 0).toNat) (max from_ 0).toNat else -1
set_option maxRecDepth 100000 in
set_option maxHeartbeats 1000000 in
theorem free_any (k l : Int) (A : Option Addr) (c : Nat) (ss : List ByteArray) (fr : Int) (w : World) (h : At w A (ss.map Value.string)) (hs : Small ss) :
    Calls Tryd.prog 66 #[.agg #[.int .i64 k, .int .i64 l, .slice A ss.length c], .int .i64 fr] w (Ret1 (.int .i64 (freeF k l ss fr)) w) := by
  have H := Lib.hid h; clear h
  have hl := hs.1
  have HS := Lib.hid hs; clear hs
  have X0 := Lib.hid ((Ext.refl w).alloc (.cells #[.int .i64 k, .int .i64 l, .slice A ss.length c] 86))
  rcases hr : rightB k l ss with _ | _
  · have HR := Lib.hid hr; clear hr
    go_enter Tryd.func66, Tryd.ntmps66
    go_wp2_with (go_at_call 97; refine (right_any _ _ _ _ _ _ (H.out.ext X0.out) HS.out).mono ?_; rw [HR.out]; rintro e w1 ⟨rfl, hx⟩; have X1 := Lib.hid (X0.out.trans hx); clear hx)
    go_ret
    exact Ret1.int (by rw [freeF, HR.out]; rfl) X1.out
  · have HR := Lib.hid hr; clear hr
    obtain ⟨K, hK⟩ : ∃ K, K = (max fr 0).toNat := ⟨_, rfl⟩
    have HF := Lib.hid (show freeF k l ss fr = frL ss (24 - K) K by rw [freeF, HR.out, if_pos rfl, hK])
    have HK := Lib.hid hK
    clear hK
    rcases Int.lt_or_le fr 0 with hfr | hfr
    all_goals
      go_enter Tryd.func66, Tryd.ntmps66
      go_wp2_with (go_at_call 97; refine (right_any _ _ _ _ _ _ (H.out.ext X0.out) HS.out).mono ?_; rw [HR.out]; rintro e w1 ⟨rfl, hx⟩; have X1 := Lib.hid (X0.out.trans hx); have hc2 : w1.cell? ⟨w.heap.size, 2, none⟩ = some (.slice A ss.length c) := hx.cell_new 2; clear hx)
      go_loop [5] (fun i => ∃ k' : Nat, i = .int .i64 k' ∧ freeF k l ss fr = frL ss (24 - k') k') (fun i => 24 - (intOf i).toNat)
      case atStart => exact ⟨K, by rw [HK.out]; go_num, HF.out⟩
      case round =>
        obtain ⟨k', rfl, hk⟩ := hrel
        have Hk := Lib.hid hk
        clear hk
        rcases Nat.lt_or_ge k' 24 with h24 | h24
        · obtain ⟨n, hn⟩ : ∃ n, 24 - k' = n + 1 := ⟨23 - k', by omega⟩
          have Hn := Lib.hid (show freeF k l ss fr = frL ss (n + 1) k' by rw [Hk.out, hn])
          have HN := Lib.hid (show 24 - (k' + 1) = n by omega)
          clear hn Hk
          rcases Nat.lt_or_ge k' ss.length with hlt | hge
          · obtain ⟨ad, rfl, hblk, hc⟩ := (H.out.ext X1.out).get (k := k') (by simpa using hlt)
            rw [List.getElem_map] at hc
            have Hg := Lib.hid (show ss[k'] = ss.getD k' ByteArray.empty by simp [List.getD, hlt])
            obtain ⟨s, hs⟩ : ∃ s, s = ss[k'] := ⟨_, rfl⟩
            rw [← hs] at hc Hg
            clear hs
            rcases he : s.toList.isEmpty with _ | _
            · go_wp2
              go_round
              case rel => exact ⟨k' + 1, by go_num, by rw [Hn.out, frL_succ, if_neg (by omega), ← Hg.out, he, HN.out]; rfl⟩
              case measure => simp [intOf]; omega
            · go_wp2
              go_ret
              exact Ret1.int (by rw [Hn.out, frL_succ, if_neg (by omega), ← Hg.out, he]; rfl) X1.out
          · go_wp2
            go_ret
            exact Ret1.int (by rw [Hn.out, frL_succ, if_pos (by omega)]) X1.out
        · go_wp2
          go_ret
          exact Ret1.int (by rw [Hk.out, show 24 - k' = 0 by omega]; rfl) X1.out
end
end Go.Proofs.YtjnplglnnamfdaaDoor
namespace Go.Proofs.YtjnplglnnamfdaaDoor
section
set_option linter.unusedVariables false
set_option linter.unusedSimpArgs false
open Go.RowKit
theorem Ext.two {w w1 : World} {o : Obj} {cs : Array Value} {t : TypeId} (h : Ext ((w.alloc o).alloc (.cells cs t)) w1) :
    (∀ i, w1.cell? ⟨w.heap.size + 1, i, none⟩ = cs[i]?) ∧ (∀ i, w1.frozen? ⟨w.heap.size + 1, i, none⟩ = false) ∧ w.heap.size + 1 < w1.heap.size := by
  have e : (w.alloc o).heap.size = w.heap.size + 1 := World.size_alloc w o
  have h1 := fun i => h.cell_new i
  have h2 := fun i => h.frozen_new i
  have h3 := h.lt_new
  rw [e] at h1 h2 h3
  exact ⟨h1, h2, h3⟩
/-- the first of two new blocks -/
theorem Ext.two0 {w w1 : World} {o : Obj} {cs : Array Value} {t : TypeId} (h : Ext ((w.alloc (.cells cs t)).alloc o) w1) :
    (∀ i, w1.cell? ⟨w.heap.size, i, none⟩ = cs[i]?) ∧ (∀ i, w1.frozen? ⟨w.heap.size, i, none⟩ = false) :=
  have h0 : Ext (w.alloc (.cells cs t)) w1 := ((Ext.refl _).alloc o).trans h
  ⟨fun i => h0.cell_new i, fun i => h0.frozen_new i⟩
def padTo (l : List ByteArray) (n : Nat) : List ByteArray := l ++ List.replicate (n - l.length) ByteArray.empty
/-- the items with one put in -/
def withL (ss : List ByteArray) (slot : Nat) (s : ByteArray) : List ByteArray := (padTo (plainL ss) (slot + 1)).set slot s
def putErr (k l : Int) (ss : List ByteArray) (slot : Int) (s : ByteArray) : Int :=
  if rightB k l ss = false then 22 else if slot < 0 ∨ 24 ≤ slot ∨ 400 < s.size then 21 else if 512 < sizeL (withL ss slot.toNat s) then 20 else 0
/-- a page and an error, the page's items in new memory -/
def PgPost (k l : Int) (ss : List ByteArray) (err : Int) (w : World) (e : Ending) (w' : World) : Prop :=
  ∃ A c, e = .returned (.tuple #[.agg #[.int .i64 k, .int .i64 l, .slice A ss.length c], .int .i64 err]) ∧
    w'.ownsRow w.heap.size 9 1 (.slice A ss.length c) ss.length (ss.map Value.string) ∧ Ext w w'
def PutPost (k l : Int) (ss : List ByteArray) (slot : Int) (s : ByteArray) (w : World) : Ending → World → Prop :=
  if putErr k l ss slot s = 0 then PgPost k l (plainL (withL ss slot.toNat s)) 0 w else PgPost 0 0 [] (putErr k l ss slot s) w
theorem PgPost.zero {err : Int} {w w' : World} (h : Ext w w') : PgPost 0 0 [] err w (.returned (.tuple #[.agg #[.int .i64 0, .int .i64 0, .slice none 0 0], .int .i64 err])) w' :=
  ⟨none, 0, rfl, World.ownsRow_nil _ _ _ _, h⟩
set_option maxRecDepth 100000 in
set_option maxHeartbeats 1000000 in
theorem put_not (k l : Int) (A : Option Addr) (c : Nat) (ss : List ByteArray) (slot : Int) (s : ByteArray) (w : World) (h : At w A (ss.map Value.string)) (hs : Small ss) (hr : rightB k l ss = false) :
    Calls Tryd.prog 67 #[.agg #[.int .i64 k, .int .i64 l, .slice A ss.length c], .int .i64 slot, .string s] w (PgPost 0 0 [] 22 w) := by
  have H := Lib.hid h; clear h
  have HR := Lib.hid hr; clear hr
  have HS := Lib.hid hs; clear hs
  have X0 := Lib.hid (((Ext.refl w).alloc (.cells #[.int .i64 k, .int .i64 l, .slice A ss.length c] 86)).alloc (.cells #[.int .i64 0, .int .i64 0, .slice none 0 0] 86))
  go_enter Tryd.func67, Tryd.ntmps67
  go_wp2_with (go_at_call 97; refine (right_any _ _ _ _ _ _ (H.out.ext X0.out) HS.out).mono ?_; rw [HR.out]; rintro e w1 ⟨rfl, hx⟩; have X1 := Lib.hid (X0.out.trans hx); have q0 : w1.cell? ⟨w.heap.size + 1, 0, none⟩ = some (.int .i64 0) := hx.two.1 0; have q1 : w1.cell? ⟨w.heap.size + 1, 1, none⟩ = some (.int .i64 0) := hx.two.1 1; have q2 : w1.cell? ⟨w.heap.size + 1, 2, none⟩ = some (.slice none 0 0) := hx.two.1 2; have f0 := hx.two.2.1 0; have f1 := hx.two.2.1 1; have f2 := hx.two.2.1 2; have hz1 := hx.two.2.2; clear hx)
  refine bodyPost_ret (v := .tuple #[.agg #[.int .i64 0, .int .i64 0, .slice none 0 0], .int .i64 22]) (by simp [results, Tryd.results67, go_sem, q0, q1, q2]) rfl (PgPost.zero ?_)
  repeat (first | exact X1.out | refine Ext.set ?_ (by simp) _)
set_option maxRecDepth 100000 in
set_option maxHeartbeats 1000000 in
theorem put_item (k l : Int) (A : Option Addr) (c : Nat) (ss : List ByteArray) (slot : Int) (s : ByteArray) (w : World) (h : At w A (ss.map Value.string)) (hs : Small ss) (hr : rightB k l ss = true)
    (hb : slot < 0 ∨ 24 ≤ slot ∨ 400 < s.size) (hss : s.size ≤ 9223372036854775807) :
    Calls Tryd.prog 67 #[.agg #[.int .i64 k, .int .i64 l, .slice A ss.length c], .int .i64 slot, .string s] w (PgPost 0 0 [] 21 w) := by
  have H := Lib.hid h; clear h
  have HR := Lib.hid hr; clear hr
  have HS := Lib.hid hs; clear hs
  have X0 := Lib.hid (((Ext.refl w).alloc (.cells #[.int .i64 k, .int .i64 l, .slice A ss.length c] 86)).alloc (.cells #[.int .i64 0, .int .i64 0, .slice none 0 0] 86))
  have h3 : slot < 0 ∨ (0 ≤ slot ∧ 24 ≤ slot) ∨ (0 ≤ slot ∧ slot < 24 ∧ 400 < (s.size : Int)) := by omega
  clear hb
  rcases h3 with h1 | ⟨h0, h1⟩ | ⟨h0, h1, h2⟩
  all_goals
    go_enter Tryd.func67, Tryd.ntmps67
    go_wp2_with (go_at_call 97; refine (right_any _ _ _ _ _ _ (H.out.ext X0.out) HS.out).mono ?_; rw [HR.out]; rintro e w1 ⟨rfl, hx⟩; have X1 := Lib.hid (X0.out.trans hx); have q0 : w1.cell? ⟨w.heap.size + 1, 0, none⟩ = some (.int .i64 0) := hx.two.1 0; have q1 : w1.cell? ⟨w.heap.size + 1, 1, none⟩ = some (.int .i64 0) := hx.two.1 1; have q2 : w1.cell? ⟨w.heap.size + 1, 2, none⟩ = some (.slice none 0 0) := hx.two.1 2; have f0 := hx.two.2.1 0; have f1 := hx.two.2.1 1; have f2 := hx.two.2.1 2; have hz1 := hx.two.2.2; clear hx)
    refine bodyPost_ret (v := .tuple #[.agg #[.int .i64 0, .int .i64 0, .slice none 0 0], .int .i64 21]) (by simp [results, Tryd.results67, go_sem, q0, q1, q2]) rfl (PgPost.zero ?_)
    repeat (first | exact X1.out | refine Ext.set ?_ (by simp) _)
theorem small_with {ss : List ByteArray} (h : ss.length ≤ 24 ∧ ∀ s ∈ ss, s.size ≤ 400) (K : Nat) (hK : K < 24) (s : ByteArray) (hs : s.size ≤ 400) : Small (withL ss K s) := by
  have hp := plainL_len ss
  have ht := trimN_le ss ss.length
  refine ⟨by simp only [withL, padTo, List.length_set, List.length_append, List.length_replicate]; omega, fun x hx => ?_⟩
  have hx' : x = s ∨ x ∈ padTo (plainL ss) (K + 1) := by
    rcases List.mem_or_eq_of_mem_set hx with h | h
    · exact .inr h
    · exact .inl h
  rcases hx' with rfl | hx'
  · omega
  · rcases List.mem_append.1 hx' with h1 | h1
    · have := h.2 x (List.mem_of_mem_take h1); omega
    · have := (List.mem_replicate.1 h1).2
      subst this
      simp
theorem right_parts {k l : Int} {ss : List ByteArray} (h : rightB k l ss = true) : (0 ≤ k ∧ k ≤ 2) ∧ (0 ≤ l ∧ l ≤ 2147483647) ∧ (ss.length ≤ 24 ∧ ∀ s ∈ ss, s.size ≤ 400) ∧ sizeL ss ≤ 512 := by
  simp only [rightB, Bool.and_eq_true, decide_eq_true_eq, Bool.not_eq_true', longB, List.any_eq_false, Nat.not_lt] at h
  exact ⟨⟨h.1, h.2.1⟩, ⟨h.2.2.1, h.2.2.2.1⟩, ⟨h.2.2.2.2.1, h.2.2.2.2.2.1⟩, h.2.2.2.2.2.2⟩
def lenOf : Value → Nat | .slice _ n _ => n | _ => 0
theorem own_pos {w : World} {base : Nat} {e : TypeId} {A : Option Addr} {n c : Nat} {xs : List Value} (h : w.ownsRow base e 1 (.slice A n c) n xs) (hn : 0 < n) :
    ∃ g, A = some ⟨g, 0, none⟩ ∧ base ≤ g ∧ g < w.heap.size := by
  rcases h.2 with ⟨hv, h0⟩ | ⟨g, cap, cur, hv, hb, hg, _⟩
  · omega
  · injection hv with h1
    exact ⟨g, h1, hb, (Array.getElem?_eq_some_iff.1 hg).1⟩
theorem size_n (A : Option Addr) (n c : Nat) (ss : List ByteArray) (w : World) (hn : n = ss.length) (h : At w A (ss.map Value.string)) (hs : Small ss) :
    Calls Tryd.prog 99 #[.slice A n c] w fun e w' => e = .returned (.int .i64 (sizeL ss)) ∧ Ext w w' := by
  subst hn; exact size_any A c ss w h hs
theorem plain_n (A : Option Addr) (n c : Nat) (ss : List ByteArray) (w : World) (hn : n = ss.length) (h : At w A (ss.map Value.string)) (hl : ss.length ≤ 100000) :
    Calls Tryd.prog 98 #[.slice A n c] w fun e w' => e = .returned (.slice (some ⟨w.heap.size, 0, none⟩) (plainL ss).length (plainL ss).length) ∧
      w'.ownsRow w.heap.size 9 1 (.slice (some ⟨w.heap.size, 0, none⟩) (plainL ss).length (plainL ss).length) (plainL ss).length ((plainL ss).map Value.string) ∧ Ext w w' := by
  subst hn; exact plain_any A c ss w h hl
theorem with_stored {wr : World} {base g m c K : Nat} {ss : List ByteArray} {s : ByteArray}
    (h : wr.ownsRow base 9 1 (.slice (some ⟨g, 0, none⟩) m c) m ((plainL ss ++ List.replicate (m - (plainL ss).length) ByteArray.empty).map Value.string))
    (h1 : (plainL ss).length ≤ m) (h2 : m ≤ (plainL ss).length ∨ m ≤ K + 1) (h3 : K < m) :
    (wr.setCell ⟨g, K, none⟩ (.string s)).ownsRow base 9 1 (.slice (some ⟨g, 0, none⟩) m c) m ((withL ss K s).map Value.string) := by
  have e : m - (plainL ss).length = K + 1 - (plainL ss).length := by omega
  have := (h.stored K (.string s)).1
  rw [e, ← List.map_set] at this
  exact this
theorem put_held {w W : World} {k l : Int} {A : Option Addr} {n c : Nat}
    (h : Ext ((w.alloc (.cells #[.int .i64 k, .int .i64 l, .slice A n c] 86)).alloc (.cells #[.int .i64 0, .int .i64 0, .slice none 0 0] 86)) W) :
    W.cell? ⟨w.heap.size, 0, none⟩ = some (.int .i64 k) ∧ W.cell? ⟨w.heap.size, 1, none⟩ = some (.int .i64 l) ∧ W.cell? ⟨w.heap.size + 1, 0, none⟩ = some (.int .i64 0) ∧ W.cell? ⟨w.heap.size + 1, 1, none⟩ = some (.int .i64 0) ∧
      W.cell? ⟨w.heap.size + 1, 2, none⟩ = some (.slice none 0 0) ∧ W.frozen? ⟨w.heap.size + 1, 0, none⟩ = false ∧ W.frozen? ⟨w.heap.size + 1, 1, none⟩ = false ∧ W.frozen? ⟨w.heap.size + 1, 2, none⟩ = false :=
  ⟨h.two0.1 0, h.two0.1 1, h.two.1 0, h.two.1 1, h.two.1 2, h.two.2.1 0, h.two.2.1 1, h.two.2.1 2⟩
theorem put_20 {k l : Int} {ss : List ByteArray} {K : Nat} {s : ByteArray} {w : World} (hr : rightB k l ss = true) (hK : K < 24) (hs : s.size ≤ 400) (hz : 512 < sizeL (withL ss K s)) :
    PutPost k l ss K s w = PgPost 0 0 [] 20 w := by
  have e : putErr k l ss K s = 20 := by
    rw [putErr, hr, if_neg (by simp), if_neg (by omega), Int.toNat_natCast, if_pos hz]
  rw [PutPost, e, if_neg (by decide)]
theorem put_0 {k l : Int} {ss : List ByteArray} {K : Nat} {s : ByteArray} {w : World} (hr : rightB k l ss = true) (hK : K < 24) (hs : s.size ≤ 400) (hz : sizeL (withL ss K s) ≤ 512) :
    PutPost k l ss K s w = PgPost k l (plainL (withL ss K s)) 0 w := by
  have e : putErr k l ss K s = 0 := by
    rw [putErr, hr, if_neg (by simp), if_neg (by omega), Int.toNat_natCast, if_neg (by omega)]
  rw [PutPost, e, if_pos rfl, Int.toNat_natCast]
theorem pad_step {w2 : World} {base n : Nat} {v' : Value} {pl : List ByteArray} {u : Value} (hu : u = .string ByteArray.empty) (h : w2.ownsRow base 9 1 v' (n + 1) ((pl ++ List.replicate (n - pl.length) ByteArray.empty).map Value.string ++ [u])) (hl : pl.length ≤ n) :
    w2.ownsRow base 9 1 v' (n + 1) ((pl ++ List.replicate (n + 1 - pl.length) ByteArray.empty).map Value.string) := by
  subst hu
  have e : n + 1 - pl.length = (n - pl.length) + 1 := by omega
  rw [e, List.replicate_succ', ← List.append_assoc, List.map_append (l₂ := [ByteArray.empty])]
  exact h
/-- the relation of the loop that fills up with empty items -/
def PadRel (pl : List ByteArray) (K : Nat) (w1 : World) (v : Value) (wr : World) : Prop :=
  ∃ m A c, v = .slice A m c ∧ pl.length ≤ m ∧ (m ≤ pl.length ∨ m ≤ K + 1) ∧ wr.ownsRow w1.heap.size 9 1 (.slice A m c) m ((pl ++ List.replicate (m - pl.length) ByteArray.empty).map Value.string) ∧ Ext w1 wr
set_option maxRecDepth 100000 in
set_option maxHeartbeats 2000000 in
theorem put_main (k l : Int) (A : Option Addr) (c : Nat) (ss : List ByteArray) (K : Nat) (s : ByteArray) (w : World) (h : At w A (ss.map Value.string)) (hs : Small ss) (hr : rightB k l ss = true)
    (hK : K < 24) (hss : s.size ≤ 400) :
    Calls Tryd.prog 67 #[.agg #[.int .i64 k, .int .i64 l, .slice A ss.length c], .int .i64 K, .string s] w (PutPost k l ss K s w) := by
  have H := Lib.hid h; clear h
  have hpl := plainL_len ss
  have htr := trimN_le ss ss.length
  have hl24 := (right_parts hr).2.2.1.1
  have hp24 : (plainL ss).length ≤ 24 := by omega
  have hv24 := (right_parts hr).2.2.1
  clear hpl htr hl24
  have HR := Lib.hid hr; clear hr
  have HS := Lib.hid hs; clear hs
  obtain ⟨i0, hi0, hz0, hz1, hz2⟩ := info_parts Tryd.infoStr
  have X0 := Lib.hid (((Ext.refl w).alloc (.cells #[.int .i64 k, .int .i64 l, .slice A ss.length c] 86)).alloc (.cells #[.int .i64 0, .int .i64 0, .slice none 0 0] 86))
  go_enter Tryd.func67, Tryd.ntmps67
  go_wp2_with (first
    | (go_at_call 97; refine (right_any _ _ _ _ _ _ (H.out.ext X0.out) HS.out).mono ?_; rw [HR.out]; rintro e w1 ⟨rfl, hx⟩; have X1 := Lib.hid (X0.out.trans hx); have HX := Lib.hid hx; have p2 : w1.cell? ⟨w.heap.size, 2, none⟩ = some (.slice A ss.length c) := hx.two0.1 2; have hzz := hx.two.2.2; clear hx)
    | (go_at_call 98; refine (plain_any _ _ _ _ (H.out.ext X1.out) HS.out.1).mono ?_; rintro e w2 ⟨rfl, hown, hx⟩; have Hown := Lib.hid hown; have X2 := Lib.hid hx; clear hown hx))
  go_loopw [8] (fun v wr => PadRel (plainL ss) K w1 v wr) (fun v _ => K + 1 - lenOf v)
  case atStart => exact ⟨_, _, _, rfl, Nat.le_refl _, .inl (Nat.le_refl _), by simpa using Hown.out, X2.out⟩
  case round =>
    obtain ⟨m, A', c', rfl, hm1, hm2, hown, hx⟩ := hrel
    have Hw := Lib.hid hown
    have XR := Lib.hid hx
    clear hown hx
    rcases Nat.lt_or_ge K m with hlt | hge
    · obtain ⟨g, rfl, hg1, hg2⟩ := own_pos Hw.out (by omega)
      have hme : m = (withL ss K s).length := by simp [withL, padTo]; omega
      have ho := (At.of_own Hw.out).get0 (k := K) (by simp; omega)
      have hfz := Hw.out.frozenAt (xs := (plainL ss ++ List.replicate (m - (plainL ss).length) ByteArray.empty).map Value.string) K
      have hst := with_stored (s := s) Hw.out hm1 hm2 hlt
      generalize ((plainL ss ++ List.replicate (m - (plainL ss).length) ByteArray.empty).map Value.string)[K]'(by simp; omega) = ov at ho
      have Hst := Lib.hid hst
      have Hme := Lib.hid hme
      clear hst hme
      obtain ⟨z, hz⟩ : ∃ z, z = sizeL (withL ss K s) := ⟨_, rfl⟩
      have Hz := Lib.hid hz
      clear hz
      rcases Nat.lt_or_ge 512 z with h5 | h5
      · have h5' : 512 < (z : Int) := by omega
        go_wp2_with (go_at_call 99; refine (size_n _ _ _ _ _ Hme.out (At.of_own Hst.out) (small_with hv24 K hK s hss)).mono ?_; rw [← Hz.out]; rintro e w3 ⟨rfl, hx⟩; have hx3 := HX.out.trans ((XR.out.set (p := ⟨g, K, none⟩) hg1 (.string s)).trans hx); have X3 := Lib.hid (X0.out.trans hx3); obtain ⟨_, _, q0, q1, q2, f0, f1, f2⟩ := put_held hx3; have hz3 := hx3.two.2.2; clear hx hx3)
        refine bodyPost_ret (v := .tuple #[.agg #[.int .i64 0, .int .i64 0, .slice none 0 0], .int .i64 20]) (by simp [results, Tryd.results67, go_sem, q0, q1, q2]) rfl ?_
        rw [put_20 HR.out hK hss (by rw [← Hz.out]; exact h5)]
        refine PgPost.zero ?_
        repeat (first | exact X3.out | refine Ext.set ?_ (by simp) _)
      · have h5' : (z : Int) ≤ 512 := by omega
        go_wp2_with (go_at_call 99; refine (size_n _ _ _ _ _ Hme.out (At.of_own Hst.out) (small_with hv24 K hK s hss)).mono ?_; rw [← Hz.out]; rintro e w3 ⟨rfl, hx⟩; have hx3 := HX.out.trans ((XR.out.set (p := ⟨g, K, none⟩) hg1 (.string s)).trans hx); have X3 := Lib.hid hx3; have X3' := Lib.hid hx; obtain ⟨p0, p1, q0, q1, q2, f0, f1, f2⟩ := put_held hx3; have hz3 := hx3.two.2.2; clear hx hx3)
        have hatl := (At.of_own Hst.out).ext X3'.out
        have Hat := Lib.hid hatl
        clear hatl
        go_region_held3 (fun W => W.cell? ⟨w.heap.size, 0, none⟩ = some (.int .i64 k) ∧ W.cell? ⟨w.heap.size, 1, none⟩ = some (.int .i64 l))
          (first | exact ⟨p0, p1⟩ | exact ⟨p0', p1'⟩ | go_keep)
          (first | (go_at_call 98; refine (plain_n _ _ _ _ _ Hme.out (Hat.out.ext (Ext.refl _).drew) (small_with hv24 K hK s hss).1).mono ?_; rintro e w4 ⟨rfl, hown4, hx4⟩; have X4 := Lib.hid (X3.out.drew.trans hx4); obtain ⟨p0', p1', q0', q1', q2', f0', f1', f2'⟩ := put_held X4.out; have Hown4 := Lib.hid hown4; clear hx4 hown4))
        go_wp2
        refine bodyPost_ret (v := .tuple #[.agg #[.int .i64 k, .int .i64 l, .slice (some ⟨w3.heap.size, 0, none⟩) (plainL (withL ss K s)).length (plainL (withL ss K s)).length], .int .i64 0]) (by simp [results, Tryd.results67, go_sem, q0', q1', q2']) rfl ?_
        rw [put_0 HR.out hK hss (by rw [← Hz.out]; exact h5)]
        refine ⟨_, _, rfl, own_mono (ownsRow_setCell_below (ownsRow_setCell_below (ownsRow_setCell_below Hown4.out hz3 _) hz3 _) hz3 _) (by show _ ≤ w3.heap.size; omega), ?_⟩
        have X5 := X0.out.trans X4.out
        repeat (first | exact X5 | refine Ext.set ?_ (by simp) _)
    · go_wp2_with (at_builtin; go_must (refine wpList_append_own _ rfl (.tmp 32) (.tmp 33) 84 rfl w1.heap.size 9 i0 _ 1 16 Tryd.underlying84 hi0 hz0 hz1 hz2 rfl (by decide) _ _ _ rfl (Hw.out.alloc _) ⟨wr.heap.size, 0, none⟩ 1 1 [.string ⟨#[]⟩] rfl rfl (cell_one_new _ _ _) (by intro u hu; simp at hu; subst hu; rfl) (by simp only [maxLen]; omega) (by omega) (by have := XR.out.size; simp; omega) ?_); intro v' w4 hown' hg' _; have HO := Lib.hid hown'; have HG := Lib.hid hg'; clear hown' hg')
      go_roundw
      case rel =>
        obtain ⟨A2, c2, rfl, _⟩ := own_form HO.out
        exact ⟨m + 1, A2, c2, rfl, by omega, .inr (by omega), pad_step rfl HO.out hm1, ((XR.out.alloc _).grown HG.out (own_block Hw.out))⟩
      case measure =>
        obtain ⟨A2, c2, rfl, _⟩ := own_form HO.out
        simp [lenOf]; omega
theorem put_any (k l : Int) (A : Option Addr) (n c : Nat) (ss : List ByteArray) (slot : Int) (s : ByteArray) (w : World) (hn : n = ss.length) (h : At w A (ss.map Value.string)) (hs : Small ss) (hss : s.size ≤ 9223372036854775807) :
    Calls Tryd.prog 67 #[.agg #[.int .i64 k, .int .i64 l, .slice A n c], .int .i64 slot, .string s] w (PutPost k l ss slot s w) := by
  subst hn
  rcases hr : rightB k l ss with _ | _
  · have e : putErr k l ss slot s = 22 := by rw [putErr, if_pos hr]
    rw [PutPost, e, if_neg (by decide)]
    exact put_not k l A c ss slot s w h hs hr
  · by_cases hb : slot < 0 ∨ 24 ≤ slot ∨ 400 < s.size
    · have e : putErr k l ss slot s = 21 := by rw [putErr, hr, if_neg (by simp), if_pos hb]
      rw [PutPost, e, if_neg (by decide)]
      exact put_item k l A c ss slot s w h hs hr hb hss
    · obtain ⟨K, rfl⟩ := Int.eq_ofNat_of_zero_le (show 0 ≤ slot by omega)
      exact put_main k l A c ss K s w h hs hr (by omega) (by omega)
end
end Go.Proofs.YtjnplglnnamfdaaDoor
namespace Go.Proofs.YtjnplglnnamfdaaDoor
section
open Go.RowKit
set_option linter.unusedVariables false
set_option linter.unusedSimpArgs false
theorem PV.small {v : PV} (h : v.wf) : Small (v.its.map Prod.fst) := by
  refine ⟨by rw [List.length_map]; have := h.1; omega, fun s hs => ?_⟩
  obtain ⟨i, hi, rfl⟩ := List.mem_map.1 hs
  have := (h.2 i hi).le
  omega
theorem strs_map (its : List Itm) : strs its = (its.map Prod.fst).map Value.string := by simp [strs]
theorem St.repl {w0 W : World} {bor : List Nat} {L1 L2 : List Ent} {E E' : Ent} (h : St w0 bor (L1 ++ E :: L2) W) (hfp : E'.fp = E.fp) (hh : E.holds W → E'.holds W) (hl : E'.loc) : St w0 bor (L1 ++ E' :: L2) W := by
  refine ⟨h.upd, fun x hx => ?_, ?_⟩
  · rcases List.mem_append.1 hx with hx | hx
    · exact h.ok x (List.mem_append_left _ hx)
    · rcases List.mem_cons.1 hx with e | hx
      · rw [e]
        have h1 := h.ok E (by simp)
        exact ⟨hh h1.holds, hl, fun k hk => h1.own k (hfp ▸ hk)⟩
      · exact h.ok x (by simp [hx])
  · have ha := h.apart
    rw [List.pairwise_append, List.pairwise_cons] at ha ⊢
    refine ⟨ha.1, ⟨fun b hb k hk hk' => ha.2.1.1 b hb k (hfp ▸ hk) hk', ha.2.1.2⟩, fun a ha' b hb => ?_⟩
    rcases List.mem_cons.1 hb with e | hb
    · rw [e]
      exact fun k hk hk' => ha.2.2 a ha' E (by simp) k hk (hfp ▸ hk')
    · exact ha.2.2 a ha' b (by simp [hb])
end
end Go.Proofs.YtjnplglnnamfdaaDoor
namespace Go.Proofs.YtjnplglnnamfdaaDoor
section
set_option linter.unusedVariables false
set_option linter.unusedSimpArgs false
open Go.RowKit
/-- a page, its items in new memory -/
def PgOne (k l : Int) (ss : List ByteArray) (w : World) (e : Ending) (w' : World) : Prop :=
  ∃ A c, e = .returned (.agg #[.int .i64 k, .int .i64 l, .slice A ss.length c]) ∧ w'.ownsRow w.heap.size 9 1 (.slice A ss.length c) ss.length (ss.map Value.string) ∧ Ext w w'
theorem after_lit {w w5 : World} {k l : Int} {A : Option Addr} {n c : Nat}
    (hg : (((w.alloc (.cells #[.int .i64 k, .int .i64 l, .slice A n c] 86)).alloc (.cells #[.int .i64 0, .int .i64 0, .slice none 0 0] 86)).alloc (.cells #[] 9)).drew.grownBy w5 (Value.ownBlock (.slice (some ⟨w.heap.size + 2, 0, none⟩) 0 0))) :
    Ext ((w.alloc (.cells #[.int .i64 k, .int .i64 l, .slice A n c] 86)).alloc (.cells #[.int .i64 0, .int .i64 0, .slice none 0 0] 86)) w5 :=
  (((Ext.refl _).alloc _).drew).grown hg (by intro k hk; simp [Value.ownBlock] at hk; subst hk; simp)
theorem At.take_map {w : World} {A : Option Addr} {α : Type} {f : α → Value} {xs : List α} (h : At w A (xs.map f)) (n : Nat) : At w A ((xs.take n).map f) := by
  rw [List.map_take]; exact h.take n
theorem rplain_end {w w5 : World} {k l : Int} {ss : List ByteArray} {A : Option Addr} {m c : Nat} {x y z : Value} (ht : m = trimN ss ss.length)
    (h : w5.ownsRow (w.heap.size + 2) 9 1 (.slice A m c) m ((ss.take m).map Value.string)) (hx : Ext w w5) :
    PgOne k l (plainL ss) w (.returned (.agg #[.int .i64 k, .int .i64 l, .slice A m c])) (((w5.setCell ⟨w.heap.size + 1, 0, none⟩ x).setCell ⟨w.heap.size + 1, 1, none⟩ y).setCell ⟨w.heap.size + 1, 2, none⟩ z) := by
  have hl : (plainL ss).length = m := by rw [plainL_len, ht]
  refine ⟨A, c, by rw [hl], ?_, ?_⟩
  · rw [hl]
    have e : plainL ss = ss.take m := by rw [plainL, ht]
    rw [e]
    exact own_mono (ownsRow_setCell_below (ownsRow_setCell_below (ownsRow_setCell_below h (by simp) _) (by simp) _) (by simp) _) (by omega)
  · exact ((hx.set (by simp) _).set (by simp) _).set (by simp) _
set_option maxRecDepth 100000 in
set_option maxHeartbeats 1000000 in
theorem rplain_any (k l : Int) (A : Option Addr) (c : Nat) (ss : List ByteArray) (w : World) (h : At w A (ss.map Value.string)) (hl : ss.length ≤ 100000) (hc : ss.length ≤ c) :
    Calls Tryd.prog 108 #[.agg #[.int .i64 k, .int .i64 l, .slice A ss.length c]] w (PgOne k l (plainL ss) w) := by
  obtain ⟨i0, hi0, hz0, hz1, hz2⟩ := info_parts Tryd.infoStr
  have H := Lib.hid h; clear h
  have X0 := Lib.hid (((Ext.refl w).alloc (.cells #[.int .i64 k, .int .i64 l, .slice A ss.length c] 86)).alloc (.cells #[.int .i64 0, .int .i64 0, .slice none 0 0] 86))
  go_enter Tryd.func108, Tryd.ntmps108
  go_wp2
  go_loop [3] (fun i => ∃ j : Nat, j ≤ ss.length ∧ i = .int .i64 j ∧ trimN ss j = trimN ss ss.length) (fun i => (intOf i).toNat)
  case atStart => exact ⟨_, Nat.le_refl _, rfl, rfl⟩
  case round =>
    obtain ⟨j, hj, rfl, ht⟩ := hrel
    have Ht := Lib.hid ht; clear ht
    rcases j with _ | j
    · go_wp2
      go_region_held3 (fun W => W.cell? ⟨w.heap.size, 0, none⟩ = some (.int .i64 k) ∧ W.cell? ⟨w.heap.size, 1, none⟩ = some (.int .i64 l) ∧ W.cell? ⟨w.heap.size, 2, none⟩ = some (.slice A ss.length c))
        (first | go_keep | exact ⟨p0, p1, p2⟩)
        ((refine stp_append _ (by rfl) (.tmp 24) (.tmp 28) _ (by rfl) (w.heap.size + 2) 9 i0 _ 16 Tryd.underlying84 hi0 hz0 hz1 hz2 rfl _ 0 [] (by rfl) (own_lit0 (by simp) (by simp)) _ 0 _ [] (by rfl) (by rfl) (At.nil _ _) (by simp) (by simp [maxLen]) (by simp) (by simp) ?_; intro v5 w5 hown5 hg5 _; simp only [Nat.add_zero, List.nil_append] at hown5; obtain ⟨A5, c5, rfl, _⟩ := own_form hown5; have X5 := Lib.hid (after_lit (w := w) (k := k) (l := l) (A := A) (n := ss.length) (c := c) hg5); obtain ⟨p0, p1, q0, q1, q2, f0, f1, f2⟩ := put_held X5.out; have p2 : w5.cell? ⟨w.heap.size, 2, none⟩ = _ := X5.out.two0.1 2; have Hown5 := Lib.hid hown5; clear hown5 hg5))
      go_wp2
      refine bodyPost_ret (v := .agg #[.int .i64 k, .int .i64 l, .slice A5 0 c5]) (by simp [results, Tryd.results108, go_sem, q0, q1, q2]) rfl ?_
      exact rplain_end (m := 0) Ht.out Hown5.out (X0.out.trans X5.out)
    · have hs : (ss.map Value.string)[j]? = some (.string (ss.getD j ByteArray.empty)) := by simp [List.getD, List.getElem?_eq_getElem (show j < ss.length by omega)]
      obtain ⟨ad, rfl, hb, hcell⟩ := (H.out.ext X0.out) _ _ hs
      clear hs
      obtain ⟨s, hs⟩ : ∃ s, s = ss.getD j ByteArray.empty := ⟨_, rfl⟩
      rw [← hs] at hcell
      have Hs := Lib.hid hs; clear hs
      rcases he : s.toList.isEmpty with _ | _
      · have He := Lib.hid (show trimN ss ss.length = j + 1 by rw [← Ht.out, trimN_succ, ← Hs.out, he]; rfl)
        have hc0 : ¬ c = 0 := by omega
        have hj1 : (0 : Int) ≤ (j : Int) + 1 := by omega
        have hj2 : (j : Int) + 1 ≤ (c : Int) := by omega
        go_wp2
        go_region_held3 (fun W => W.cell? ⟨w.heap.size, 0, none⟩ = some (.int .i64 k) ∧ W.cell? ⟨w.heap.size, 1, none⟩ = some (.int .i64 l) ∧ W.cell? ⟨w.heap.size, 2, none⟩ = some (.slice (some ad) ss.length c))
          (first | go_keep | exact ⟨p0, p1, p2⟩)
          ((refine stp_append _ (by rfl) (.tmp 24) (.tmp 28) _ (by rfl) (w.heap.size + 2) 9 i0 _ 16 Tryd.underlying84 hi0 hz0 hz1 hz2 rfl _ 0 [] (by rfl) (own_lit0 (by simp) (by simp)) (some ad) (j + 1) _ ((ss.take (j + 1)).map Value.string) (by rfl) (by simp; omega) (by exact (At.take_map (H.out.ext X0.out) (j + 1)).ext ((Ext.refl _).alloc _).drew) (str_one _) (by simp only [maxLen]; omega) (by omega) (by simp) ?_; intro v5 w5 hown5 hg5 _; simp only [Nat.zero_add, List.nil_append] at hown5; obtain ⟨A5, c5, rfl, _⟩ := own_form hown5; have X5 := Lib.hid (after_lit (w := w) (k := k) (l := l) (A := some ad) (n := ss.length) (c := c) hg5); obtain ⟨p0, p1, q0, q1, q2, f0, f1, f2⟩ := put_held X5.out; have p2 : w5.cell? ⟨w.heap.size, 2, none⟩ = _ := X5.out.two0.1 2; have Hown5 := Lib.hid hown5; clear hown5 hg5))
        go_wp2
        refine bodyPost_ret (v := .agg #[.int .i64 k, .int .i64 l, .slice A5 (j + 1) c5]) (by simp [results, Tryd.results108, go_sem, q0, q1, q2]) rfl ?_
        exact rplain_end (m := j + 1) He.out.symm Hown5.out (X0.out.trans X5.out)
      · go_wp2
        go_round
        case rel => exact ⟨j, by omega, rfl, by rw [← Ht.out, trimN_succ, ← Hs.out, if_pos he]⟩
        case measure => simp [intOf]
theorem own_cap {w : World} {base : Nat} {e : TypeId} {A : Option Addr} {n m c : Nat} {xs : List Value} (h : w.ownsRow base e 1 (.slice A n c) m xs) : n ≤ c := by
  rcases h.2 with ⟨hv, _⟩ | ⟨g, cap, cur, hv, hb, hg, hc, _⟩
  · injection hv with _ h2 h3; omega
  · injection hv with _ h2 h3; omega
set_option maxRecDepth 100000 in
set_option maxHeartbeats 1000000 in
theorem rsize_any (k l : Int) (A : Option Addr) (n c : Nat) (ss : List ByteArray) (w : World) (hn : n = ss.length) (h : At w A (ss.map Value.string)) (hs : Small ss) (hc : n ≤ c) :
    Calls Tryd.prog 84 #[.agg #[.int .i64 k, .int .i64 l, .slice A n c]] w fun e w' => e = .returned (.int .i64 (sizeL ss)) ∧ Ext w w' := by
  subst hn
  have H := Lib.hid h; clear h
  have hl := hs.1
  have HS := Lib.hid hs; clear hs
  have X0 := Lib.hid ((Ext.refl w).alloc (.cells #[.int .i64 k, .int .i64 l, .slice A ss.length c] 86))
  go_enter Tryd.func84, Tryd.ntmps84
  go_wp2_with (go_at_call 108; refine (rplain_any _ _ _ _ _ _ (H.out.ext X0.out) hl hc).mono ?_; rintro e w1 ⟨A1, c1, rfl, hown, hx⟩; have Hown := Lib.hid hown; have X1 := Lib.hid (X0.out.trans hx); clear hown hx)
  have hsm := Small.plain HS.out
  have hpl : (plainL ss).length ≤ 100000 := hsm.1
  have Hp := Lib.hid hsm; clear hsm
  obtain ⟨ps, hps⟩ : ∃ ps, ps = plainL ss := ⟨_, rfl⟩
  rw [← hps] at Hown Hp hpl ⊢
  have Hps := Lib.hid hps; clear hps
  have HA := Lib.hid ((At.of_own Hown.out).ext ((Ext.refl w1).alloc (.cells #[.int .i64 k, .int .i64 l, .slice A1 ps.length c1] 86)))
  go_loop [3, 5] (fun n i => ∃ j : Nat, j ≤ ps.length ∧ i = .int .i64 j ∧ n = .int .i64 ((14 + sizeT (ps.take j) : Nat) : Int)) (fun _ i => ps.length - (intOf i).toNat)
  case atStart => exact ⟨0, Nat.zero_le _, rfl, rfl⟩
  case round =>
    obtain ⟨j, hj, rfl, rfl⟩ := hrel
    have hb := Small.take Hp.out j
    rcases Nat.lt_or_ge j ps.length with hlt | hge
    · obtain ⟨ad, rfl, _, hcell⟩ := HA.out.get (k := j) (by simpa using hlt)
      rw [List.getElem_map] at hcell
      have hsz : (ps[j]).size ≤ 1000000 := Hp.out.2 _ (List.getElem_mem hlt)
      have Hn := Lib.hid (sizeT_take_succ ps j hlt)
      obtain ⟨s, hs⟩ : ∃ s, s = ps[j] := ⟨_, rfl⟩
      rw [← hs] at hsz Hn hcell
      clear hs
      obtain ⟨t, ht⟩ : ∃ t, t = sizeT (ps.take j) := ⟨_, rfl⟩
      rw [← ht] at Hn hb ⊢
      clear ht
      go_wp2
      go_round
      case rel => exact ⟨j + 1, by omega, by go_num, by rw [Hn.out]; go_num⟩
      case measure => simp [intOf]; omega
    · obtain rfl : j = ps.length := by omega
      go_wp2
      go_ret
      exact ⟨ret_int (by rw [sizeL, ← Hps.out]; omega), X1.out.alloc _⟩
end
end Go.Proofs.YtjnplglnnamfdaaDoor
namespace Go.Proofs.YtjnplglnnamfdaaDoor
section
set_option linter.unusedVariables false
set_option linter.unusedSimpArgs false
open Go.RowKit
set_option maxRecDepth 100000 in
set_option maxHeartbeats 2000000 in
theorem rright_any (k l : Int) (A : Option Addr) (n c : Nat) (ss : List ByteArray) (w : World) (hn : n = ss.length) (h : At w A (ss.map Value.string)) (hs : Small ss) (hc : n ≤ c) :
    Calls Tryd.prog 68 #[.agg #[.int .i64 k, .int .i64 l, .slice A n c]] w (Ret1 (.bool (rightB k l ss)) w) := by
  subst hn
  have H := Lib.hid h; clear h
  have hl := hs.1
  have HS := Lib.hid hs; clear hs
  have X0 := Lib.hid ((Ext.refl w).alloc (.cells #[.int .i64 k, .int .i64 l, .slice A ss.length c] 86))
  by_cases h1 : 0 ≤ k
  · by_cases h2 : k ≤ 2
    · by_cases h3 : 0 ≤ l
      · by_cases h4 : l ≤ 2147483647
        · by_cases h5 : ss.length ≤ 24
          · have h5' : (ss.length : Int) ≤ 24 := by omega
            obtain ⟨z, hz⟩ : ∃ z, z = sizeL ss := ⟨_, rfl⟩
            have Hz := Lib.hid hz
            clear hz
            by_cases h7 : 512 < z
            · have h7' : 512 < (z : Int) := by omega
              go_enter Tryd.func68, Tryd.ntmps68
              go_wp2_with (go_at_call 84; refine (rsize_any _ _ _ _ _ _ _ rfl (H.out.ext X0.out) HS.out hc).mono ?_; rw [← Hz.out]; rintro e w1 ⟨rfl, hx⟩; have X1 := Lib.hid (X0.out.trans hx); clear hx)
              go_ret
              exact Ret1.bool (by simp [rightB, ← Hz.out]; intros; omega) X1.out
            · have h7' : (z : Int) ≤ 512 := by omega
              go_enter Tryd.func68, Tryd.ntmps68
              go_wp2_with (go_at_call 84; refine (rsize_any _ _ _ _ _ _ _ rfl (H.out.ext X0.out) HS.out hc).mono ?_; rw [← Hz.out]; rintro e w1 ⟨rfl, hx⟩; have X1 := Lib.hid (X0.out.trans hx); have p2 : w1.cell? ⟨w.heap.size, 2, none⟩ = some (.slice A ss.length c) := hx.cell_new 2; clear hx)
              go_loop [3] (fun i => ∃ j : Nat, j ≤ ss.length ∧ i = .int .i64 j ∧ longB (ss.take j) = false) (fun i => ss.length - (intOf i).toNat)
              case atStart => exact ⟨0, Nat.zero_le _, rfl, rfl⟩
              case round =>
                obtain ⟨j, hj, rfl, ht⟩ := hrel
                have Ht := Lib.hid ht; clear ht
                rcases Nat.lt_or_ge j ss.length with hlt | hge
                · obtain ⟨ad, rfl, _, hcell⟩ := (H.out.ext X1.out).get (k := j) (by simpa using hlt)
                  rw [List.getElem_map] at hcell
                  have hsz : (ss[j]).size ≤ 1000000 := HS.out.2 _ (List.getElem_mem hlt)
                  obtain ⟨s, hs⟩ : ∃ s, s = ss[j] := ⟨_, rfl⟩
                  rw [← hs] at hcell hsz
                  have Hs := Lib.hid hs; clear hs
                  rcases Nat.lt_or_ge 400 s.size with h8 | h8
                  · go_wp2
                    go_ret
                    have hL := longB_of ss j hlt (by rw [← Hs.out]; exact h8)
                    exact Ret1.bool (by simp [rightB, hL]) X1.out
                  · have hn : longB (ss.take (j + 1)) = false := by rw [longB_take_succ ss j hlt, Ht.out, ← Hs.out]; simpa using h8
                    have Hn := Lib.hid hn; clear hn
                    go_wp2
                    go_round
                    case rel => exact ⟨j + 1, by omega, by go_num, Hn.out⟩
                    case measure => simp [intOf]; omega
                · obtain rfl : j = ss.length := by omega
                  rw [List.take_length] at Ht
                  go_wp2
                  go_ret
                  exact Ret1.bool (by simp [rightB, h1, h2, h3, h4, h5, Ht.out, ← Hz.out]; omega) X1.out
          · have h5' : ¬ (ss.length : Int) ≤ 24 := by omega
            go_enter Tryd.func68, Tryd.ntmps68
            go_wp2
            go_ret
            exact Ret1.bool (by simp [rightB, h5]) X0.out
        · go_enter Tryd.func68, Tryd.ntmps68
          go_wp2
          go_ret
          exact Ret1.bool (by simp [rightB]; intros; omega) X0.out
      · go_enter Tryd.func68, Tryd.ntmps68
        go_wp2
        go_ret
        exact Ret1.bool (by simp [rightB]; intros; omega) X0.out
    · go_enter Tryd.func68, Tryd.ntmps68
      go_wp2
      go_ret
      exact Ret1.bool (by simp [rightB]; intros; omega) X0.out
  · go_enter Tryd.func68, Tryd.ntmps68
    go_wp2
    go_ret
    exact Ret1.bool (by simp [rightB]; intros; omega) X0.out
def itemF (ss : List ByteArray) (i : Int) : ByteArray := if i < 0 then ByteArray.empty else ss.getD i.toNat ByteArray.empty
end
end Go.Proofs.YtjnplglnnamfdaaDoor
namespace Go.Proofs.YtjnplglnnamfdaaDoor
section
set_option linter.unusedVariables false
set_option linter.unusedSimpArgs false
open Go.RowKit
theorem rplain_n (k l : Int) (A : Option Addr) (n c : Nat) (ss : List ByteArray) (w : World) (hn : n = ss.length) (h : At w A (ss.map Value.string)) (hl : ss.length ≤ 100000) (hc : n ≤ c) :
    Calls Tryd.prog 108 #[.agg #[.int .i64 k, .int .i64 l, .slice A n c]] w (PgOne k l (plainL ss) w) := by
  subst hn; exact rplain_any k l A c ss w h hl hc
def WithRel (pl : List ByteArray) (K : Nat) (k l : Int) (B base : Nat) (W0 wr : World) : Prop :=
  ∃ m A c, Blk wr B 86 #[.int .i64 k, .int .i64 l, .slice A m c] ∧ pl.length ≤ m ∧ (m ≤ pl.length ∨ m ≤ K + 1) ∧
    wr.ownsRow base 9 1 (.slice A m c) m ((pl ++ List.replicate (m - pl.length) ByteArray.empty).map Value.string) ∧ Ext W0 wr
def padLeft (w : World) (B K : Nat) : Nat := match w.cell? ⟨B, 2, none⟩ with | some (.slice _ n _) => K + 1 - n | _ => 0
set_option maxRecDepth 100000 in
set_option maxHeartbeats 2000000 in
theorem rwith_any (k l : Int) (A : Option Addr) (n c : Nat) (ss : List ByteArray) (K : Nat) (s : ByteArray) (w : World) (hn : n = ss.length) (h : At w A (ss.map Value.string)) (hs : Small ss) (hc : n ≤ c) (hK : K < 24) :
    Calls Tryd.prog 83 #[.agg #[.int .i64 k, .int .i64 l, .slice A n c], .int .i64 K, .string s] w (PgOne k l (plainL (withL ss K s)) w) := by
  subst hn
  have H := Lib.hid h; clear h
  have hp24 := (Small.plain hs).1
  have hl := hs.1
  have HS := Lib.hid hs; clear hs
  obtain ⟨i0, hi0, hz0, hz1, hz2⟩ := info_parts Tryd.infoStr
  have X0 := Lib.hid (((Ext.refl w).alloc (.cells #[.int .i64 k, .int .i64 l, .slice A ss.length c] 86)).alloc (.cells #[.int .i64 0, .int .i64 0, .slice none 0 0] 86))
  go_enter Tryd.func83, Tryd.ntmps83
  go_wp2_with (go_at_call 108; refine (rplain_any _ _ _ _ _ _ (H.out.ext X0.out) hl hc).mono ?_; rintro e w1 ⟨A1, c1, rfl, hown, hx⟩; have Hown := Lib.hid hown; have X1 := Lib.hid hx; have hzz := hx.two.2.2; clear hown hx)
  go_loopw [15] (fun _ wr => WithRel (plainL ss) K k l w1.heap.size (w.heap.size + 2) ((w.alloc (.cells #[.int .i64 k, .int .i64 l, .slice A ss.length c] 86)).alloc (.cells #[.int .i64 0, .int .i64 0, .slice none 0 0] 86)) wr) (fun _ wr => padLeft wr w1.heap.size K)
  case atStart => exact ⟨_, A1, c1, Blk.new _ _ _, Nat.le_refl _, .inl (Nat.le_refl _), by simpa using (own_mono (base' := w.heap.size + 2) Hown.out (by simp)).alloc _, X1.out.alloc _⟩
  case round =>
    obtain ⟨m, A', c', hblk, hm1, hm2, hown, hx⟩ := hrel
    have Hw := Lib.hid hown
    have XR := Lib.hid hx
    have HB := Lib.hid hblk
    have b0 : wr.cell? ⟨w1.heap.size, 0, none⟩ = some (.int .i64 k) := hblk.cell 0
    have b1 : wr.cell? ⟨w1.heap.size, 1, none⟩ = some (.int .i64 l) := hblk.cell 1
    have b2 : wr.cell? ⟨w1.heap.size, 2, none⟩ = some (.slice A' m c') := hblk.cell 2
    have e2 := hblk.frozen 2
    have hbz := hblk.lt
    clear hown hx hblk
    rcases Nat.lt_or_ge K m with hlt | hge
    · obtain ⟨g, rfl, hg1, hg2⟩ := own_pos Hw.out (by omega)
      have hme : m = (withL ss K s).length := by simp [withL, padTo]; omega
      have ho := (At.of_own Hw.out).get0 (k := K) (by simp; omega)
      have hfz := Hw.out.frozenAt (xs := (plainL ss ++ List.replicate (m - (plainL ss).length) ByteArray.empty).map Value.string) K
      have hwl : (withL ss K s).length ≤ 100000 := by omega
      have hst := with_stored (s := s) Hw.out hm1 hm2 hlt
      generalize ((plainL ss ++ List.replicate (m - (plainL ss).length) ByteArray.empty).map Value.string)[K]'(by simp; omega) = ov at ho
      obtain ⟨cur, hcur, _⟩ := own_blk Hw.out
      have hne := hcur.ne_ HB.out (by decide)
      have HB2 := Lib.hid (HB.out.far (p := ⟨g, K, none⟩) hne.symm (.string s))
      have Hst := Lib.hid hst
      have Hme := Lib.hid hme
      have Hcap := Lib.hid (own_cap Hw.out)
      clear hst hme hcur
      go_wp2_with (go_at_call 108; refine (rplain_n _ _ _ _ _ _ _ Hme.out (At.of_own Hst.out) hwl Hcap.out).mono ?_; rintro e w3 ⟨A3, c3, rfl, hown, hx⟩; have hx3 := (XR.out.set (p := ⟨g, K, none⟩) (by simpa only [World.size_alloc] using hg1) (.string s)).trans hx; have X3 := Lib.hid hx3; obtain ⟨_, _, q0, q1, q2, f0, f1, f2⟩ := put_held hx3; have Hown3 := Lib.hid hown; clear hown hx hx3)
      refine bodyPost_ret (v := .agg #[.int .i64 k, .int .i64 l, .slice A3 (plainL (withL ss K s)).length c3]) (by simp [results, Tryd.results83, go_sem, q0, q1, q2]) rfl ?_
      refine ⟨A3, c3, rfl, ?_, ((((X0.out.trans X3.out).set (by simp) _).set (by simp) _).set (by simp) _)⟩
      have hz : w.heap.size + 1 < (wr.setCell ⟨g, K, none⟩ (.string s)).heap.size := by have := XR.out.size2; simp only [World.setCell, Array.size_modify]; omega
      exact own_mono (ownsRow_setCell_below (ownsRow_setCell_below (ownsRow_setCell_below Hown3.out hz _) hz _) hz _) (by omega)
    · go_wp2_with (at_builtin; go_must (refine wpl_append _ rfl (.tmp 16) (.tmp 17) 84 rfl (w.heap.size + 2) 9 i0 _ 16 Tryd.underlying84 hi0 hz0 hz1 hz2 rfl _ _ _ rfl (Hw.out.alloc _) (some ⟨wr.heap.size, 0, none⟩) 1 1 [.string ⟨#[]⟩] rfl rfl (At.one_new _ _ _) (by intro u hu; simp at hu; subst hu; rfl) (by simp only [maxLen]; omega) (by omega) (by have := XR.out.size2; simp only [World.size_alloc]; omega) ?_; intro v' w4 hown' hg' _; obtain ⟨A4, c4, rfl, _⟩ := own_form hown'; have hn4 := own_ne (Hw.out.alloc (.cells #[.string ⟨#[]⟩] 9)) (HB.out.alloc (.cells #[.string ⟨#[]⟩] 9)) (by decide); have hb4 := (HB.out.alloc (.cells #[.string ⟨#[]⟩] 9)).grown hg' hn4; have r2 : w4.cell? ⟨w1.heap.size, 2, none⟩ = some (.slice A' m c') := hb4.cell 2; have g2 := hb4.frozen 2; have HO := Lib.hid hown'; have HG := Lib.hid hg'; have HB4 := Lib.hid hb4; clear hown' hg' hb4 hn4))
      go_roundw
      case rel => exact ⟨m + 1, A4, c4, HB4.out.set_ 2 _, by omega, .inr (by omega), own_set (pad_step rfl HO.out hm1) (own_ne HO.out HB4.out (by decide)) 2 _, ((XR.out.alloc _).grown HG.out (fun k hk => by have := own_block Hw.out k hk; simpa only [World.size_alloc] using this)).set (by have := X1.out.size2; simp only [World.size_alloc]; omega) _⟩
      case measure =>
        have r3 : (w4.setCell ⟨w1.heap.size, 2, none⟩ (.slice A4 (m + 1) c4)).cell? ⟨w1.heap.size, 2, none⟩ = some (.slice A4 (m + 1) c4) := (HB4.out.set_ 2 _).cell 2
        simp only [padLeft, r3, b2]
        omega
end
end Go.Proofs.YtjnplglnnamfdaaDoor
namespace Go.Proofs.YtjnplglnnamfdaaDoor
section
set_option linter.unusedVariables false
set_option linter.unusedSimpArgs false
open Go.RowKit
/-- the reference's answer: a page and an error, in one struct -/
def GotPost (k l : Int) (ss : List ByteArray) (err : Int) (w : World) (e : Ending) (w' : World) : Prop :=
  ∃ A c, e = .returned (.agg #[.int .i64 k, .int .i64 l, .slice A ss.length c, .int .i64 err]) ∧
    w'.ownsRow w.heap.size 9 1 (.slice A ss.length c) ss.length (ss.map Value.string) ∧ Ext w w'
def RPutPost (k l : Int) (ss : List ByteArray) (slot : Int) (s : ByteArray) (w : World) : Ending → World → Prop :=
  if putErr k l ss slot s = 0 then GotPost k l (plainL (withL ss slot.toNat s)) 0 w else GotPost 0 0 [] (putErr k l ss slot s) w
theorem GotPost.zero {err : Int} {w w' : World} (h : Ext w w') : GotPost 0 0 [] err w (.returned (.agg #[.int .i64 0, .int .i64 0, .slice none 0 0, .int .i64 err])) w' :=
  ⟨none, 0, rfl, World.ownsRow_nil _ _ _ _, h⟩
theorem got_held {w W : World} {k l : Int} {A : Option Addr} {n c : Nat}
    (h : Ext ((w.alloc (.cells #[.int .i64 k, .int .i64 l, .slice A n c] 86)).alloc (.cells #[.int .i64 0, .int .i64 0, .slice none 0 0, .int .i64 0] 102)) W) :
    (W.cell? ⟨w.heap.size, 0, none⟩ = some (.int .i64 k) ∧ W.cell? ⟨w.heap.size, 1, none⟩ = some (.int .i64 l) ∧ W.cell? ⟨w.heap.size, 2, none⟩ = some (.slice A n c)) ∧
    (W.cell? ⟨w.heap.size + 1, 0, none⟩ = some (.int .i64 0) ∧ W.cell? ⟨w.heap.size + 1, 1, none⟩ = some (.int .i64 0) ∧ W.cell? ⟨w.heap.size + 1, 2, none⟩ = some (.slice none 0 0) ∧ W.cell? ⟨w.heap.size + 1, 3, none⟩ = some (.int .i64 0)) ∧
    (W.frozen? ⟨w.heap.size + 1, 0, none⟩ = false ∧ W.frozen? ⟨w.heap.size + 1, 1, none⟩ = false ∧ W.frozen? ⟨w.heap.size + 1, 2, none⟩ = false ∧ W.frozen? ⟨w.heap.size + 1, 3, none⟩ = false) ∧ w.heap.size + 1 < W.heap.size :=
  ⟨⟨h.two0.1 0, h.two0.1 1, h.two0.1 2⟩, ⟨h.two.1 0, h.two.1 1, h.two.1 2, h.two.1 3⟩, ⟨h.two.2.1 0, h.two.2.1 1, h.two.2.1 2, h.two.2.1 3⟩, h.two.2.2⟩
set_option maxRecDepth 100000 in
set_option maxHeartbeats 1000000 in
theorem rput_not (k l : Int) (A : Option Addr) (c : Nat) (ss : List ByteArray) (slot : Int) (s : ByteArray) (w : World) (h : At w A (ss.map Value.string)) (hs : Small ss) (hc : ss.length ≤ c) (hr : rightB k l ss = false) :
    Calls Tryd.prog 55 #[.agg #[.int .i64 k, .int .i64 l, .slice A ss.length c], .int .i64 slot, .string s] w (GotPost 0 0 [] 22 w) := by
  have H := Lib.hid h; clear h
  have HR := Lib.hid hr; clear hr
  have HS := Lib.hid hs; clear hs
  have X0 := Lib.hid (((Ext.refl w).alloc (.cells #[.int .i64 k, .int .i64 l, .slice A ss.length c] 86)).alloc (.cells #[.int .i64 0, .int .i64 0, .slice none 0 0, .int .i64 0] 102))
  go_enter Tryd.func55, Tryd.ntmps55
  go_wp2_with (go_at_call 68; refine (rright_any _ _ _ _ _ _ _ rfl (H.out.ext X0.out) HS.out hc).mono ?_; rw [HR.out]; rintro e w1 ⟨rfl, hx⟩; have X1 := Lib.hid (X0.out.trans hx); obtain ⟨_, ⟨q0, q1, q2, q3⟩, ⟨f0, f1, f2, f3⟩, hzz⟩ := got_held hx; clear hx)
  refine bodyPost_ret (v := .agg #[.int .i64 0, .int .i64 0, .slice none 0 0, .int .i64 22]) (by simp [results, Tryd.results55, go_sem, q0, q1, q2, q3]) rfl (GotPost.zero ?_)
  repeat (first | exact X1.out | refine Ext.set ?_ (by simp) _)
set_option maxRecDepth 100000 in
set_option maxHeartbeats 1000000 in
theorem rput_item (k l : Int) (A : Option Addr) (c : Nat) (ss : List ByteArray) (slot : Int) (s : ByteArray) (w : World) (h : At w A (ss.map Value.string)) (hs : Small ss) (hc : ss.length ≤ c) (hr : rightB k l ss = true)
    (hb : slot < 0 ∨ 24 ≤ slot ∨ 400 < s.size) (hss : s.size ≤ 9223372036854775807) :
    Calls Tryd.prog 55 #[.agg #[.int .i64 k, .int .i64 l, .slice A ss.length c], .int .i64 slot, .string s] w (GotPost 0 0 [] 21 w) := by
  have H := Lib.hid h; clear h
  have HR := Lib.hid hr; clear hr
  have HS := Lib.hid hs; clear hs
  have X0 := Lib.hid (((Ext.refl w).alloc (.cells #[.int .i64 k, .int .i64 l, .slice A ss.length c] 86)).alloc (.cells #[.int .i64 0, .int .i64 0, .slice none 0 0, .int .i64 0] 102))
  have h3 : slot < 0 ∨ (0 ≤ slot ∧ 24 ≤ slot) ∨ (0 ≤ slot ∧ slot < 24 ∧ 400 < (s.size : Int)) := by omega
  clear hb
  rcases h3 with h1 | ⟨h0, h1⟩ | ⟨h0, h1, h2⟩
  all_goals
    go_enter Tryd.func55, Tryd.ntmps55
    go_wp2_with (go_at_call 68; refine (rright_any _ _ _ _ _ _ _ rfl (H.out.ext X0.out) HS.out hc).mono ?_; rw [HR.out]; rintro e w1 ⟨rfl, hx⟩; have X1 := Lib.hid (X0.out.trans hx); obtain ⟨_, ⟨q0, q1, q2, q3⟩, ⟨f0, f1, f2, f3⟩, hzz⟩ := got_held hx; clear hx)
    refine bodyPost_ret (v := .agg #[.int .i64 0, .int .i64 0, .slice none 0 0, .int .i64 21]) (by simp [results, Tryd.results55, go_sem, q0, q1, q2, q3]) rfl (GotPost.zero ?_)
    repeat (first | exact X1.out | refine Ext.set ?_ (by simp) _)
theorem rput_20 {k l : Int} {ss : List ByteArray} {K : Nat} {s : ByteArray} {w : World} (hr : rightB k l ss = true) (hK : K < 24) (hs : s.size ≤ 400) (hz : 512 < sizeL (plainL (withL ss K s))) (hp : sizeL (plainL (withL ss K s)) = sizeL (withL ss K s)) :
    RPutPost k l ss K s w = GotPost 0 0 [] 20 w := by
  have e : putErr k l ss K s = 20 := by
    rw [putErr, hr, if_neg (by simp), if_neg (by omega), Int.toNat_natCast, if_pos (by omega)]
  rw [RPutPost, e, if_neg (by decide)]
theorem rput_0 {k l : Int} {ss : List ByteArray} {K : Nat} {s : ByteArray} {w : World} (hr : rightB k l ss = true) (hK : K < 24) (hs : s.size ≤ 400) (hz : sizeL (plainL (withL ss K s)) ≤ 512) (hp : sizeL (plainL (withL ss K s)) = sizeL (withL ss K s)) :
    RPutPost k l ss K s w = GotPost k l (plainL (withL ss K s)) 0 w := by
  have e : putErr k l ss K s = 0 := by
    rw [putErr, hr, if_neg (by simp), if_neg (by omega), Int.toNat_natCast, if_neg (by omega)]
  rw [RPutPost, e, if_pos rfl, Int.toNat_natCast]
theorem trimN_take (ss : List ByteArray) (n : Nat) (h : n ≤ trimN ss n) : ∀ m, n ≤ m → trimN (ss.take m) n = n := by
  intro m hm
  rcases n with _ | n
  · rfl
  · have h1 : (ss.getD n ByteArray.empty).toList.isEmpty = false := by
      rw [trimN_succ] at h
      split at h
      · have := trimN_le ss n; omega
      · rename_i hne; exact Bool.eq_false_iff.2 hne
    rw [trimN_succ]
    have h2 : (ss.take m).getD n ByteArray.empty = ss.getD n ByteArray.empty := by
      simp only [List.getD, List.getElem?_take]
      rw [if_pos (by omega)]
    rw [h2, h1]
    rfl
theorem trimN_idem (ss : List ByteArray) : ∀ n, trimN ss (trimN ss n) = trimN ss n
  | 0 => rfl
  | n + 1 => by
    rw [trimN_succ]
    split
    · exact trimN_idem ss n
    · rename_i h; rw [trimN_succ, if_neg h]
theorem plain_plain (ss : List ByteArray) : plainL (plainL ss) = plainL ss := by
  have h := trimN_take ss (trimN ss ss.length) (by rw [trimN_idem]; exact Nat.le_refl _) (trimN ss ss.length) (Nat.le_refl _)
  have hl := plainL_len ss
  unfold plainL at hl ⊢
  rw [hl, h, List.take_take, Nat.min_self]
set_option maxRecDepth 100000 in
set_option maxHeartbeats 2000000 in
theorem rput_main (k l : Int) (A : Option Addr) (c : Nat) (ss : List ByteArray) (K : Nat) (s : ByteArray) (w : World) (h : At w A (ss.map Value.string)) (hs : Small ss) (hc : ss.length ≤ c) (hr : rightB k l ss = true)
    (hK : K < 24) (hss : s.size ≤ 400) :
    Calls Tryd.prog 55 #[.agg #[.int .i64 k, .int .i64 l, .slice A ss.length c], .int .i64 K, .string s] w (RPutPost k l ss K s w) := by
  have H := Lib.hid h; clear h
  have hv24 := (right_parts hr).2.2.1
  have HR := Lib.hid hr; clear hr
  have HS := Lib.hid hs; clear hs
  have HW := Lib.hid (small_with hv24 K hK s hss)
  have hi1 : ¬ (K : Int) < 0 := by omega
  have hi2 : (K : Int) < 24 := by omega
  have hi3 : ¬ 400 < (s.size : Int) := by omega
  have X0 := Lib.hid (((Ext.refl w).alloc (.cells #[.int .i64 k, .int .i64 l, .slice A ss.length c] 86)).alloc (.cells #[.int .i64 0, .int .i64 0, .slice none 0 0, .int .i64 0] 102))
  have Hpp := Lib.hid (plain_plain (withL ss K s))
  obtain ⟨z, hz⟩ : ∃ z, z = sizeL (plainL (withL ss K s)) := ⟨_, rfl⟩
  have Hz := Lib.hid hz
  clear hz
  have Hpz := Lib.hid (show sizeL (plainL (withL ss K s)) = sizeL (withL ss K s) by rw [sizeL, Hpp.out, sizeL])
  rcases Nat.lt_or_ge 512 z with h5 | h5
  · have h5' : 512 < (z : Int) := by omega
    go_enter Tryd.func55, Tryd.ntmps55
    go_wp2_with (first
      | (go_at_call 68; refine (rright_any _ _ _ _ _ _ _ rfl (H.out.ext X0.out) HS.out hc).mono ?_; rw [HR.out]; rintro e w1 ⟨rfl, hx⟩; have X1 := Lib.hid hx; obtain ⟨⟨p0, p1, p2⟩, _⟩ := got_held hx; clear hx)
      | (go_at_call 83; refine (rwith_any _ _ _ _ _ _ _ _ _ rfl (H.out.ext (X0.out.trans X1.out)) HS.out hc hK).mono ?_; rintro e w2 ⟨A2, c2, rfl, hown, hx⟩; have X2 := Lib.hid (X1.out.trans hx); have Hown := Lib.hid hown; clear hown hx)
      | (go_at_call 84; refine (rsize_any _ _ _ _ _ _ _ rfl ((At.of_own Hown.out).ext ((Ext.refl w2).alloc _)) (Small.plain HW.out) (own_cap Hown.out)).mono ?_; rw [← Hz.out]; rintro e w3 ⟨rfl, hx⟩; have X3 := Lib.hid ((X2.out.alloc (.cells #[.int .i64 k, .int .i64 l, .slice A2 (plainL (withL ss K s)).length c2] 86)).trans hx); obtain ⟨_, ⟨q0, q1, q2, q3⟩, ⟨f0, f1, f2, f3⟩, hzz⟩ := got_held X3.out; clear hx))
    refine bodyPost_ret (v := .agg #[.int .i64 0, .int .i64 0, .slice none 0 0, .int .i64 20]) (by simp [results, Tryd.results55, go_sem, q0, q1, q2, q3]) rfl ?_
    rw [rput_20 HR.out hK hss (by rw [← Hz.out]; exact h5) Hpz.out]
    refine GotPost.zero ?_
    have X4 := X0.out.trans X3.out
    repeat (first | exact X4 | refine Ext.set ?_ (by simp) _)
  · have h5' : (z : Int) ≤ 512 := by omega
    go_enter Tryd.func55, Tryd.ntmps55
    go_wp2_with (first
      | (go_at_call 68; refine (rright_any _ _ _ _ _ _ _ rfl (H.out.ext X0.out) HS.out hc).mono ?_; rw [HR.out]; rintro e w1 ⟨rfl, hx⟩; have X1 := Lib.hid hx; obtain ⟨⟨p0, p1, p2⟩, _⟩ := got_held hx; clear hx)
      | (go_at_call 83; refine (rwith_any _ _ _ _ _ _ _ _ _ rfl (H.out.ext (X0.out.trans X1.out)) HS.out hc hK).mono ?_; rintro e w2 ⟨A2, c2, rfl, hown, hx⟩; have X2 := Lib.hid (X1.out.trans hx); have Hown := Lib.hid hown; clear hown hx)
      | (go_at_call 84; refine (rsize_any _ _ _ _ _ _ _ rfl ((At.of_own Hown.out).ext ((Ext.refl w2).alloc _)) (Small.plain HW.out) (own_cap Hown.out)).mono ?_; rw [← Hz.out]; rintro e w3 ⟨rfl, hx⟩; have X3 := Lib.hid ((X2.out.alloc (.cells #[.int .i64 k, .int .i64 l, .slice A2 (plainL (withL ss K s)).length c2] 86)).trans hx); obtain ⟨_, ⟨q0, q1, q2, q3⟩, ⟨f0, f1, f2, f3⟩, hzz⟩ := got_held X3.out; have r0 : w3.cell? ⟨w2.heap.size, 0, none⟩ = some (.int .i64 k) := hx.cell_new 0; have r1 : w3.cell? ⟨w2.heap.size, 1, none⟩ = some (.int .i64 l) := hx.cell_new 1; have r2 : w3.cell? ⟨w2.heap.size, 2, none⟩ = some (.slice A2 (plainL (withL ss K s)).length c2) := hx.cell_new 2; have Hown3 := Lib.hid (own_ext (own_mono (base' := w.heap.size + 2) Hown.out (by have := X1.out.size2; exact this)) (((Ext.refl w2).alloc _).trans hx)); clear hx))
    refine bodyPost_ret (v := .agg #[.int .i64 k, .int .i64 l, .slice A2 (plainL (withL ss K s)).length c2, .int .i64 0]) (by simp [results, Tryd.results55, go_sem, q0, q1, q2, q3]) rfl ?_
    rw [rput_0 HR.out hK hss (by rw [← Hz.out]; exact h5) Hpz.out]
    have X4 := X0.out.trans X3.out
    refine ⟨A2, c2, rfl, own_mono (base := w.heap.size + 2) ?_ (by omega), ?_⟩
    · repeat (first | exact Hown3.out | refine ownsRow_setCell_below ?_ (by simp) _)
    · repeat (first | exact X4 | refine Ext.set ?_ (by simp) _)
theorem rput_any (k l : Int) (A : Option Addr) (n c : Nat) (ss : List ByteArray) (slot : Int) (s : ByteArray) (w : World) (hn : n = ss.length) (h : At w A (ss.map Value.string)) (hs : Small ss) (hc : n ≤ c) (hss : s.size ≤ 9223372036854775807) :
    Calls Tryd.prog 55 #[.agg #[.int .i64 k, .int .i64 l, .slice A n c], .int .i64 slot, .string s] w (RPutPost k l ss slot s w) := by
  subst hn
  rcases hr : rightB k l ss with _ | _
  · have e : putErr k l ss slot s = 22 := by rw [putErr, if_pos hr]
    rw [RPutPost, e, if_neg (by decide)]
    exact rput_not k l A c ss slot s w h hs hc hr
  · by_cases hb : slot < 0 ∨ 24 ≤ slot ∨ 400 < s.size
    · have e : putErr k l ss slot s = 21 := by rw [putErr, hr, if_neg (by simp), if_pos hb]
      rw [RPutPost, e, if_neg (by decide)]
      exact rput_item k l A c ss slot s w h hs hc hr hb hss
    · obtain ⟨K, rfl⟩ := Int.eq_ofNat_of_zero_le (show 0 ≤ slot by omega)
      exact rput_main k l A c ss K s w h hs hc hr (by omega) (by omega)
end
end Go.Proofs.YtjnplglnnamfdaaDoor
namespace Go.Proofs.YtjnplglnnamfdaaDoor
section
open Go.RowKit
set_option linter.unusedVariables false
set_option linter.unusedSimpArgs false
set_option maxRecDepth 100000 in
set_option maxHeartbeats 2000000 in
theorem rto_any (x : Int) (w : World) (hx : 0 ≤ x ∧ x < 256) :
    Calls Tryd.prog 54 #[.int .i64 x] w (Ret (.string (strOfNums [0, x])) w) := by
  go_enter Tryd.func54, Tryd.ntmps54
  have hst0 := St.start w
  refine wp_seq (wp_region_P [0] [.k 2 (.string ⟨#[]⟩)] [(2, 0, 1, 3)] hst0 fun W1 hst1 => ?_)
  refine then_normal (wp_seq (wp_region_Y [0, 1, 3, 7, 15] [[], [], [], [0]] [[], [], [0]] [] [.k 3 (vi x), tW 4 .u8 x x (IntWalk.u8_in _ (by omega)), .a 5, .c 6 (.string (strOfNums ([0, x]))), .k 2 (.string (strOfNums ([0, x])))] (fun ix σ β X => match ix with | 0 => True | 1 => True | 2 => σ 5 = .slice (sA (β 5)) 2 2 ∧ X 0 = eO 5 1 (.slice (sA (β 5)) 2 2) 2 ([.int .u8 0, .int .u8 x]) | _ => True) [0] [2, 3] [(2, 4, 1, 3), (0, 0, 4, 4)] hst1 ?_ ?_ ?_))
  · exact fun ix _ _ _ _ _ _ hs hb hx h => match ix, h with
    | 2, h => by dsimp only at h ⊢; rw [← hs 5 rfl, ← hb 5 rfl, ← hx 0 rfl]; exact h
    | 0, _ | 1, _ | _ + 3, _ => trivial
  · refine ⟨?_, ?_, trivial⟩
    · refine sv_any rfl rfl fun ρ β W X cx => ?_
      have fF4 : ρ (.tmp 4) = .int .u8 x := (cx.an 1)
      exact dv_lit (e := 5) (xs := [.int .u8 0, .int .u8 x]) rfl (by simp [go_sem, fF4, cx.sees.const]) rfl (by decide) rfl rfl (fun σ β' X' hs hb hv hx => ⟨hv, hx⟩)
    · exact xs4 rfl id fun cx => run_convB (e := 5) rfl (by kernel_rfl) (by kernel_rfl) (by kernel_rfl) (dTn (cx.an 2)).1 (cx.row (dTn (cx.an 2)).2 rfl)
  intro σ β X W2 hD hst2 fr hfr
  obtain ⟨A5_2, hu_A5_2⟩ : ∃ z, sA (β 5) = z := ⟨_, rfl⟩
  simp only [exq 0 ((dTn (hD 2 lq)).2), hu_A5_2] at hst2
  simp only [ed 5 ((dTn (hD 2 lq)).1), hu_A5_2] at hfr
  clear hD hu_A5_2; subst hfr; clear σ β X
  refine then_normal (wp_ret ?_)
  refine bodyPost_ret (v := .string (strOfNums ([0, x]))) (results_tmp Tryd.results54 rfl) rfl ?_
  exact Ret.of rfl hst2.ext
theorem withL_mem' {ss : List ByteArray} {K : Nat} {s x : ByteArray} (h : x ∈ withL ss K s) : x = s ∨ x ∈ ss ∨ x = ByteArray.empty := by
  rcases List.mem_or_eq_of_mem_set h with h | h
  · rcases List.mem_append.1 h with h1 | h1
    · exact .inr (.inl (List.mem_of_mem_take h1))
    · exact .inr (.inr (List.mem_replicate.1 h1).2)
  · exact .inl h
theorem withL_desc {ss : List ByteArray} {K : Nat} {s : ByteArray} (h : ∀ x ∈ ss, ∃ o, Desc x o) (hs : ∃ o, Desc s o) : ∀ x ∈ plainL (withL ss K s), ∃ o, Desc x o := by
  intro x hx
  rcases withL_mem' (List.mem_of_mem_take hx) with rfl | h1 | rfl
  · exact hs
  · exact h x h1
  · exact ⟨none, by show ByteArray.empty.size < 8; decide⟩
theorem its_of {ss : List ByteArray} (h : ∀ x ∈ ss, ∃ o, Desc x o) : ∃ its : List Itm, its.map Prod.fst = ss ∧ ∀ i ∈ its, Desc i.1 i.2 := by
  induction ss with
  | nil => exact ⟨[], rfl, fun i hi => by cases hi⟩
  | cons s ss ih =>
    obtain ⟨o, ho⟩ := h s (by simp)
    obtain ⟨its, h1, h2⟩ := ih (fun x hx => h x (by simp [hx]))
    exact ⟨(s, o) :: its, by simp [h1], fun i hi => by
      rcases List.mem_cons.1 hi with rfl | hi
      · exact ho
      · exact h2 i hi⟩
end
end Go.Proofs.YtjnplglnnamfdaaDoor
namespace Go.Proofs.YtjnplglnnamfdaaDoor
section
open Go.RowKit
set_option linter.unusedVariables false
set_option linter.unusedSimpArgs false
theorem digA_size : ∀ (f : Nat) (m : Int) (s : ByteArray), (digA f m s).size ≤ f + s.size
  | 0, _, s => by rw [digA]; omega
  | f + 1, m, s => by
    rw [digA]
    split
    · omega
    · have := digA_size f (m / 10) (oneS (48 + m % 10) ++ s)
      rw [ByteArray.size_append, oneS_size] at this
      omega
theorem digF_size (n : Int) : (digF n).size ≤ 6 := by
  rw [digF, digG]
  simp only [if_true]
  have := digA_size 5 (n / 10) (oneS (48 + n % 10) ++ ⟨#[]⟩)
  rw [ByteArray.size_append, oneS_size] at this
  have h0 : (⟨#[]⟩ : ByteArray).size = 0 := rfl
  omega
theorem valF_ok {x : Int} (h : 0 ≤ x) : vrightF (valF x) = true ∧ plainV (valF x) = valF x ∧ -9223372036854775808 ≤ (valF x).2.1 ∧ (valF x).2.1 ≤ 9223372036854775807 := by
  unfold valF
  split
  · exact ⟨by decide, rfl, by decide, by decide⟩
  · split
    · have hs : ((⟨#[97, 98, 99]⟩ : ByteArray).extract 0 (x / 5 % 4).toNat).size ≤ 40 := by
        rw [ByteArray.size_extract]
        have : (⟨#[97, 98, 99]⟩ : ByteArray).size = 3 := rfl
        omega
      refine ⟨?_, rfl, by show (-9223372036854775808 : Int) ≤ 0; decide, by show (0 : Int) ≤ _; decide⟩
      simp only [vrightF, knownF]
      simpa using hs
    · split
      · have hs := digF_size (x / 5)
        refine ⟨?_, rfl, by show (-9223372036854775808 : Int) ≤ 0; decide, by show (0 : Int) ≤ _; decide⟩
        simp only [vrightF, knownF]
        have : (digF (x / 5)).size ≤ 40 := by omega
        simpa using this
      · refine ⟨rfl, rfl, ?_, ?_⟩
        · show _ ≤ x / 5 % 9 - 2; omega
        · show x / 5 % 9 - 2 ≤ _; omega
theorem madeR_mem {k : Nat} {l : List Int} {v : Val} (h : v ∈ madeR k l) : ∃ x : Int, 0 ≤ x ∧ v = valF x := by
  simp only [madeR, List.mem_map, List.mem_range] at h
  obtain ⟨i, _, rfl⟩ := h
  exact ⟨_, by omega, rfl⟩
theorem made_plain (l : List Int) : plainR (vrowF l) = vrowF l := by
  rw [plainR, vrowF]
  have : ∀ rs : List Val, (∀ v ∈ rs, plainV v = v) → rs.map plainV = rs := fun rs h => by
    induction rs with
    | nil => rfl
    | cons a rs ih => rw [List.map_cons, h a (List.mem_cons_self ..), ih fun v hv => h v (List.mem_cons_of_mem _ hv)]
  exact this _ fun v hv => by obtain ⟨x, hx, rfl⟩ := madeR_mem hv; exact (valF_ok hx).2.1
theorem made_ns (l : List Int) : NsOk (vrowF l) := fun v hv _ => by
  rw [vrowF] at hv
  obtain ⟨x, hx, rfl⟩ := madeR_mem hv
  exact (valF_ok hx).2.2
theorem made_rright (l : List Int) : rrightF (vrowF l) = true := by
  rw [rrightF, Bool.and_eq_true, decide_eq_true_eq, List.all_eq_true]
  refine ⟨fun v hv => ?_, ?_⟩
  · rw [vrowF] at hv
    obtain ⟨x, hx, rfl⟩ := madeR_mem hv
    exact (valF_ok hx).1
  · rw [vrowF, madeR_len]; omega
theorem made_right (l : List Int) : trightF (vminF l) (vmaxF l) (vpgF l) (vslF l) (vrowF l) = true := by
  rw [trightF, made_rright, Bool.and_true, Bool.and_eq_true, Bool.and_eq_true]
  refine ⟨⟨?_, ?_⟩, ?_⟩
  · simp only [onF, Bool.or_eq_true, Bool.and_eq_true, beq_iff_eq, decide_eq_true_eq]; rw [vminF]; omega
  · simp only [onZ, onF, Bool.or_eq_true, Bool.and_eq_true, beq_iff_eq, decide_eq_true_eq]; rw [vmaxF]; split <;> omega
  · simp only [tnextF, Bool.or_eq_true, Bool.and_eq_true, beq_iff_eq, decide_eq_true_eq]; rw [vpgF, vslF]; split <;> omega
theorem withL_len (ss : List ByteArray) (K : Nat) (s : ByteArray) : (withL ss K s).length = max (plainL ss).length (K + 1) := by
  simp only [withL, padTo, List.length_set, List.length_append, List.length_replicate]; omega
theorem put_right {k l : Int} {ss : List ByteArray} {slot : Int} {s : ByteArray} (h : rightB k l ss = true) (hp : putErr k l ss slot s = 0) : rightB k l (plainL (withL ss slot.toNat s)) = true := by
  obtain ⟨hk, hl, ⟨h24, hsz⟩, _⟩ := right_parts h
  unfold putErr at hp
  rw [h, if_neg (by simp)] at hp
  split at hp
  · cases hp
  · rename_i hb
    split at hp
    · cases hp
    · rename_i hz
      have hpl := plainL_len (withL ss slot.toNat s)
      have htr := trimN_le (withL ss slot.toNat s) (withL ss slot.toNat s).length
      have hwl := withL_len ss slot.toNat s
      have hpl2 := plainL_len ss
      have htr2 := trimN_le ss ss.length
      have hz2 : sizeL (plainL (withL ss slot.toNat s)) = sizeL (withL ss slot.toNat s) := by rw [sizeL, plain_plain, sizeL]
      have hlong : longB (plainL (withL ss slot.toNat s)) = false := by
        rw [longB, List.any_eq_false]
        intro x hx
        have hx' := withL_mem' (List.mem_of_mem_take hx)
        rcases hx' with rfl | hx' | rfl
        · simp; omega
        · have := hsz x hx'; simp; omega
        · simp
      simp only [rightB, Bool.and_eq_true, decide_eq_true_eq, hlong, Bool.not_false, hz2, true_and]
      exact ⟨hk.1, hk.2, hl.1, hl.2, by omega, by omega⟩
/-- the numbers of page n, the first k filled in -/
def mdC (s : List Int) (n k : Nat) : List Int := (List.range 40).map fun i => if i < k then s.getD (40 * n + i) 0 % 65536 else 0
def mdV (s : List Int) (n : Nat) : List Int := mdC s n 40
theorem mdC_len (s : List Int) (n k : Nat) : (mdC s n k).length = 40 := by simp [mdC]
theorem mdC_get (s : List Int) (n k i : Nat) (h : i < 40) : (mdC s n k).getD i 0 = if i < k then s.getD (40 * n + i) 0 % 65536 else 0 := by simp [mdC, h]
theorem mdC_0 (s : List Int) (n : Nat) : mdC s n 0 = List.replicate 40 0 := by
  apply List.ext_getElem
  · simp [mdC]
  · intro i h1 h2
    simp only [mdC, List.getElem_map, List.getElem_range, List.getElem_replicate, Nat.not_lt_zero, if_false]
theorem mdC_set (s : List Int) (n k : Nat) (h : k < 40) : (mdC s n k).set k (s.getD (40 * n + k) 0 % 65536) = mdC s n (k + 1) := by
  apply List.ext_getElem
  · simp [mdC]
  · intro i h1 h2
    simp only [mdC, List.length_set, List.length_map, List.length_range] at h1
    rw [List.getElem_set]
    simp only [mdC, List.getElem_map, List.getElem_range]
    by_cases e : k = i
    · subst e; simp
    · rw [if_neg e]
      by_cases h3 : i < k
      · rw [if_pos h3, if_pos (by omega)]
      · rw [if_neg h3, if_neg (by omega)]
theorem mdC_no (s : List Int) (n k : Nat) (h : s.length ≤ 40 * n + k) : mdC s n k = mdC s n (k + 1) := by
  apply List.ext_getElem
  · simp [mdC]
  · intro i h1 h2
    simp only [mdC, List.length_map, List.length_range] at h1
    simp only [mdC, List.getElem_map, List.getElem_range]
    by_cases h3 : i < k
    · rw [if_pos h3, if_pos (by omega)]
    · rw [if_neg h3]
      by_cases h4 : i < k + 1
      · have h5 : s.getD (40 * n + i) 0 = 0 := by simp [show s.length ≤ 40 * n + i by omega]
        rw [if_pos h4, h5]; rfl
      · rw [if_neg h4]
theorem mdC_bd (s : List Int) (n k i : Nat) : 0 ≤ (mdC s n k).getD i 0 ∧ (mdC s n k).getD i 0 ≤ 65535 := by
  rcases Nat.lt_or_ge i 40 with h | h
  · rw [mdC_get s n k i h]; split <;> omega
  · have e : (mdC s n k).getD i 0 = 0 := by simp [mdC, h]
    rw [e]; omega
theorem mdV_bd (s : List Int) (n i : Nat) : 0 ≤ (mdV s n).getD i 0 ∧ (mdV s n).getD i 0 ≤ 65535 := mdC_bd s n 40 i
theorem mdV_len (s : List Int) (n : Nat) : (mdV s n).length = 40 := mdC_len s n 40
/-- the version that three numbers give, and the item -/
def mdL (x y z : Int) : List Int := [x, y, z, x % 2, y, x]
def itV (n : Nat) (x y z : Int) : VerD := (2 + x % 59, if 0 < vmaxF (mdL x y z) then 3 + y % 58 else vmaxF (mdL x y z), if 0 < y % 3 then (n : Int) else vpgF (mdL x y z), if 0 < y % 3 then 1 + x % 12 else vslF (mdL x y z), vhotF (mdL x y z), vrowF (mdL x y z))
theorem vmax_0 (l : List Int) : 0 ≤ vmaxF l ∧ vmaxF l < 128 := by rw [vmaxF]; have := mk8_bd l 1; split <;> omega
theorem itV_ok (n : Nat) (x y z : Int) (hn : n < 400) : okD (itV n x y z) := by
  refine ⟨?_, made_ns _, made_plain _⟩
  have h := made_right (mdL x y z)
  rw [trightF, made_rright, Bool.and_true, Bool.and_eq_true, Bool.and_eq_true] at h
  have hv := vmax_0 (mdL x y z)
  rw [trightF, itV]
  dsimp only
  rw [made_rright, Bool.and_true, Bool.and_eq_true, Bool.and_eq_true]
  refine ⟨⟨?_, ?_⟩, ?_⟩
  · simp only [onF, Bool.or_eq_true, Bool.and_eq_true, beq_iff_eq, decide_eq_true_eq]; omega
  · simp only [onZ, onF, Bool.or_eq_true, Bool.and_eq_true, beq_iff_eq, decide_eq_true_eq]; split <;> omega
  · split
    · simp only [tnextF, Bool.or_eq_true, Bool.and_eq_true, beq_iff_eq, decide_eq_true_eq]; omega
    · exact h.2
def it1 (x : Int) (b : ByteArray) : ByteArray := if x % 13 = 3 then ByteArray.empty else b
def it2 (x : Int) (b : ByteArray) : ByteArray := if x % 17 = 5 then ⟨#[111, 100, 100]⟩ else b
def it3 (x y : Int) (b : ByteArray) : ByteArray := if x % 10 = 7 then strOfNums [0, y % 13] else b
def itS (n : Nat) (x y z : Int) : ByteArray := it3 x y (it2 x (it1 x (txD (itV n x y z))))
theorem itS_desc (n : Nat) (x y z : Int) (hn : n < 400) : ∃ o, Desc (itS n x y z) o := by
  rw [itS, it3]
  split
  · exact ⟨none, by rw [Desc, strOfNums_size]; show 2 < 8; decide⟩
  · rw [it2]
    split
    · exact ⟨none, by show 3 < 8; decide⟩
    · rw [it1]
      split
      · exact ⟨none, by show 0 < 8; decide⟩
      · exact ⟨some _, itV_ok n x y z hn, rfl⟩
/-- kind and header of a page -/
def mdK (V : List Int) : Int := if V.getD 2 0 % 9 = 4 then V.getD 3 0 % 3 else 1
def mdH (V : List Int) : ByteArray := if V.getD 2 0 % 11 = 5 then ⟨#[120]⟩ else putS (1 + V.getD 1 0 % 2) 2
theorem mdK_bd (V : List Int) : 0 ≤ mdK V ∧ mdK V ≤ 2 := by rw [mdK]; split <;> omega
theorem mdH_size (V : List Int) : (mdH V).size ≤ 2 := by
  rw [mdH]
  split
  · show 1 ≤ 2; decide
  · rw [putS_size _ 2 (by omega)]; omega
def mdI (V : List Int) (n i : Nat) : ByteArray := itS n (V.getD (3 * i) 0) (V.getD (3 * i + 1) 0) (V.getD (3 * i + 2) 0)
/-- the items when number i is at hand -/
def mdSs (V : List Int) (n : Nat) : Nat → List ByteArray
  | 0 => [mdH V]
  | i + 1 => if i = 0 then [mdH V] else
      if putErr (mdK V) (V.getD 0 0) (mdSs V n i) i (mdI V n i) = 0 then plainL (withL (mdSs V n i) i (mdI V n i)) else mdSs V n i
theorem mdSs_yes {V : List Int} {n i : Nat} (h0 : 1 ≤ i) (h : putErr (mdK V) (V.getD 0 0) (mdSs V n i) i (mdI V n i) = 0) : mdSs V n (i + 1) = plainL (withL (mdSs V n i) i (mdI V n i)) := by rw [mdSs, if_neg (by omega), if_pos h]
theorem mdSs_no {V : List Int} {n i : Nat} (h0 : 1 ≤ i) (h : putErr (mdK V) (V.getD 0 0) (mdSs V n i) i (mdI V n i) ≠ 0) : mdSs V n (i + 1) = mdSs V n i := by rw [mdSs, if_neg (by omega), if_neg h]
theorem sizeT_one (s : ByteArray) : sizeT (plainL [s]) ≤ 2 + s.size := by
  rw [plainL]
  have h := trimN_le [s] [s].length
  simp only [List.length_singleton] at h ⊢
  rcases (by omega : trimN [s] 1 = 0 ∨ trimN [s] 1 = 1) with e | e <;> rw [e] <;> simp [sizeT]
theorem mdSs_right (s : List Int) (n i : Nat) : rightB (mdK (mdV s n)) ((mdV s n).getD 0 0) (mdSs (mdV s n) n i) = true := by
  have hb := mdV_bd s n 0
  have hk := mdK_bd (mdV s n)
  have hh := mdH_size (mdV s n)
  have h1 : rightB (mdK (mdV s n)) ((mdV s n).getD 0 0) [mdH (mdV s n)] = true := by
    have := sizeT_one (mdH (mdV s n))
    simp only [rightB, Bool.and_eq_true, decide_eq_true_eq, sizeL, longB, List.any_cons, List.any_nil, Bool.or_false, Bool.not_eq_true', decide_eq_false_iff_not, List.length_singleton]
    exact ⟨hk.1, hk.2, hb.1, by omega, by omega, by omega, decide_eq_true (by omega)⟩
  induction i with
  | zero => exact h1
  | succ i ih =>
    rw [mdSs]
    split
    · exact h1
    · split
      · rename_i hp
        exact put_right (slot := ((i : Nat) : Int)) ih hp
      · exact ih
theorem mdSs_desc (s : List Int) (n i : Nat) (hn : n < 400) : ∀ x ∈ mdSs (mdV s n) n i, ∃ o, Desc x o := by
  have h1 : ∀ x ∈ [mdH (mdV s n)], ∃ o, Desc x o := fun x hx => by
    rw [List.mem_singleton] at hx
    subst hx
    have := mdH_size (mdV s n)
    exact ⟨none, by rw [Desc]; omega⟩
  induction i with
  | zero => exact h1
  | succ i ih =>
    rw [mdSs]
    split
    · exact h1
    · split
      · exact withL_desc ih (itS_desc _ _ _ _ hn)
      · exact ih
/-- all of R as one entry -/
def eM (R : List Ent) : Ent := ⟨R.flatMap (·.fp), fun W => ∀ e ∈ R, e.holds W ∧ e.loc⟩
theorem eM_loc (R : List Ent) : (eM R).loc := fun W W' hk h e he =>
  ⟨(h e he).2 W W' (fun k hk' => hk k (List.mem_flatMap.2 ⟨e, he, hk'⟩)) (h e he).1, (h e he).2⟩
theorem St.emNil {w0 W : World} {bor : List Nat} {L : List Ent} (h : St w0 bor L W) : St w0 bor (L ++ [eM []]) W := by
  refine ⟨h.upd, fun x hx => ?_, ?_⟩
  · rcases List.mem_append.1 hx with hx | hx
    · exact h.ok x hx
    · rw [List.mem_singleton] at hx
      subst hx
      exact ⟨fun e he => (by cases he), eM_loc _, fun k hk => (by cases hk)⟩
  · rw [List.pairwise_append]
    refine ⟨h.apart, List.pairwise_singleton _ _, fun a _ b hb => ?_⟩
    rw [List.mem_singleton] at hb
    subst hb
    exact fun k _ hk => by cases hk
/-- the last entry joins the many -/
theorem St.merge {w0 W : World} {bor : List Nat} {L R : List Ent} {e : Ent} (h : St w0 bor (L ++ [eM R, e]) W) : St w0 bor (L ++ [eM (R ++ [e])]) W := by
  have hM := h.ok (eM R) (by simp)
  have hE := h.ok e (by simp)
  have hfp : ∀ k, k ∈ (eM (R ++ [e])).fp ↔ k ∈ (eM R).fp ∨ k ∈ e.fp := fun k => by simp [eM]
  refine ⟨h.upd, fun x hx => ?_, ?_⟩
  · rcases List.mem_append.1 hx with hx | hx
    · exact h.ok x (by simp [hx])
    · rw [List.mem_singleton] at hx
      subst hx
      refine ⟨fun x hx => ?_, eM_loc _, fun k hk => ?_⟩
      · rcases List.mem_append.1 hx with hx | hx
        · exact hM.holds x hx
        · rw [List.mem_singleton] at hx
          subst hx
          exact ⟨hE.holds, hE.loc⟩
      · rcases (hfp k).1 hk with hk | hk
        · exact hM.own k hk
        · exact hE.own k hk
  · have ha := h.apart
    rw [List.pairwise_append] at ha ⊢
    refine ⟨ha.1, List.pairwise_singleton _ _, fun a ha' b hb => ?_⟩
    rw [List.mem_singleton] at hb
    subst hb
    intro k hk hkb
    rcases (hfp k).1 hkb with hkb | hkb
    · exact ha.2.2 a ha' (eM R) (by simp) k hk hkb
    · exact ha.2.2 a ha' e (by simp) k hk hkb
/-- a page's items as an entry; the pages of Made as one entry -/
def entP (p : PgD) : Ent := eO 9 1 (.slice p.A p.its.length p.c) p.its.length (strs p.its)
def ePs (Ps : List PgD) : Ent := eM (Ps.map entP)
def MdOk (s : List Int) (n : Nat) (p : PgD) : Prop := p.k = mdK (mdV s n) ∧ p.l = (mdV s n).getD 0 0 ∧ p.its.map Prod.fst = mdSs (mdV s n) n 12 ∧ (∀ i ∈ p.its, Desc i.1 i.2)
def eMd (s : List Int) (A : Option Addr) (fp : List Nat) : Ent := ⟨fp, fun W => ∃ (c : Nat) (Ps : List PgD), Ps.length = 5 ∧ (∀ n, n < 5 → MdOk s n (Ps.getD n p0)) ∧ fp = (eM (Ps.map entP ++ [eO 86 3 (.slice A 5 c) 5 (Ps.flatMap pgC)])).fp ∧ (eM (Ps.map entP ++ [eO 86 3 (.slice A 5 c) 5 (Ps.flatMap pgC)])).holds W⟩
theorem eMd_loc (s : List Int) (A : Option Addr) (fp : List Nat) : (eMd s A fp).loc := fun W W' hk h => by
  obtain ⟨c, Ps, h1, h2, h3, h4⟩ := h
  exact ⟨c, Ps, h1, h2, h3, eM_loc _ W W' (fun k hk' => hk k (by rw [eMd, h3]; exact hk')) h4⟩
theorem eMd_self {e : Ent} {s : List Int} {A : Option Addr} {fp : List Nat} (h : e = eMd s A fp) : e = eMd s A e.fp := by subst h; rfl
theorem eMd_at {s : List Int} {A : Option Addr} {fp : List Nat} {W : World} (h : (eMd s A fp).holds W) : ∃ Ps, Ps.length = 5 ∧ (∀ n, n < 5 → MdOk s n (Ps.getD n p0)) ∧ PgsAt W A Ps := by
  obtain ⟨c, Ps, h1, h2, h3, h4⟩ := h
  refine ⟨Ps, h1, h2, ?_, by omega, fun p hp => ?_⟩
  · have h5 := (h4 _ (List.mem_append_right _ (List.mem_singleton.2 rfl))).1
    exact At.of_ownN h5
  · obtain ⟨i, hi, rfl⟩ := List.getElem_of_mem hp
    have h6 := h2 i (by omega)
    rw [List.getD_eq_getElem?_getD, List.getElem?_eq_getElem hi, Option.getD_some] at h6
    have h5 := (h4 (entP Ps[i]) (List.mem_append_left _ (List.mem_map.2 ⟨_, hp, rfl⟩))).1
    have h7 := congrArg List.length h6.2.2.1
    rw [List.length_map] at h7
    have h8 := (right_parts (mdSs_right s i 12)).2.2.1.1
    exact ⟨At.of_own h5, by omega, eown_cap h5, h6.2.2.2⟩
def MadePost (s : List Int) (w : World) (e : Ending) (w' : World) : Prop := ∃ A c fp, e = .returned (.agg #[.slice A 5 c]) ∧ St w [] [eMd s A fp] w'
theorem St.made {w0 W : World} {s : List Int} {A : Option Addr} {c n : Nat} {Ps : List PgD} (hn : n = 5) (hl : Ps.length = n) (hM : ∀ i, i < n → MdOk s i (Ps.getD i p0)) (h : St w0 [] [ePs Ps, eO 86 3 (.slice A n c) n (Ps.flatMap pgC)] W) : MadePost s w0 (.returned (.agg #[.slice A n c])) W := by
  subst hn
  have h2 := St.merge (L := []) h
  refine ⟨A, c, _, rfl, St.repl (L1 := []) (L2 := []) h2 rfl (fun hh => ⟨c, Ps, hl, hM, rfl, hh⟩) (eMd_loc _ _ _)⟩
theorem St.mergeP {w0 W : World} {bor : List Nat} {L : List Ent} {Ps : List PgD} {p : PgD} (h : St w0 bor (L ++ [ePs Ps, entP p]) W) : St w0 bor (L ++ [ePs (Ps ++ [p])]) W := by
  have h2 := h.merge
  have e : Ps.map entP ++ [entP p] = (Ps ++ [p]).map entP := by simp
  rw [e] at h2
  exact h2
theorem md_snoc {s : List Int} {n : Nat} {Ps : List PgD} {p : PgD} (hl : Ps.length = n) (h : ∀ i, i < n → MdOk s i (Ps.getD i p0)) (hp : MdOk s n p) : ∀ i, i < n + 1 → MdOk s i ((Ps ++ [p]).getD i p0) := fun i hi => by
  subst hl
  rcases Nat.lt_or_ge i Ps.length with g | g
  · have e : (Ps ++ [p]).getD i p0 = Ps.getD i p0 := by rw [List.getD_eq_getElem?_getD, List.getD_eq_getElem?_getD, List.getElem?_append_left g]
    rw [e]; exact h i g
  · have e : i = Ps.length := by omega
    subst e
    have e2 : (Ps ++ [p]).getD Ps.length p0 = p := by simp
    rw [e2]; exact hp
theorem pgs_snoc (Ps : List PgD) (p : PgD) : Ps.flatMap pgC ++ pgC p = (Ps ++ [p]).flatMap pgC := by simp
end
end Go.Proofs.YtjnplglnnamfdaaDoor
namespace Go.Proofs.YtjnplglnnamfdaaDoor
section
open Go.RowKit
set_option linter.unusedVariables false
set_option linter.unusedSimpArgs false
/-- a page without its place in memory -/
abbrev PgI := Int × Int × List Itm
def pgi0 : PgI := (0, 0, [])
def absP (p : PgD) : PgI := (p.k, p.l, p.its)
def fstI (its : List Itm) : List ByteArray := its.map Prod.fst
theorem fstI_len (its : List Itm) : (fstI its).length = its.length := List.length_map ..
def trimI (its : List Itm) : List Itm := its.take (trimN (fstI its) its.length)
def withI (its : List Itm) (K : Nat) (i : Itm) : List Itm := (trimI its ++ List.replicate (K + 1 - (trimI its).length) it0).set K i
def putI (its : List Itm) (K : Nat) (i : Itm) : List Itm := trimI (withI its K i)
theorem trimI_fst (its : List Itm) : fstI (trimI its) = plainL (fstI its) := by
  rw [trimI, plainL, fstI_len, fstI, fstI, List.map_take]
theorem withI_fst (its : List Itm) (K : Nat) (i : Itm) : fstI (withI its K i) = withL (fstI its) K i.1 := by
  rw [withI, withL, padTo, fstI, List.map_set, List.map_append, List.map_replicate]
  have e : (trimI its).map Prod.fst = plainL (fstI its) := trimI_fst its
  rw [e, ← e, List.length_map]
  rfl
theorem putI_fst (its : List Itm) (K : Nat) (i : Itm) : fstI (putI its K i) = plainL (withL (fstI its) K i.1) := by rw [putI, trimI_fst, withI_fst]
theorem withI_mem {its : List Itm} {K : Nat} {i x : Itm} (h : x ∈ withI its K i) : x = i ∨ x ∈ its ∨ x = it0 := by
  rcases List.mem_or_eq_of_mem_set h with h | h
  · rcases List.mem_append.1 h with h1 | h1
    · exact .inr (.inl (List.mem_of_mem_take h1))
    · exact .inr (.inr (List.mem_replicate.1 h1).2)
  · exact .inl h
theorem putI_desc {its : List Itm} {K : Nat} {i : Itm} (h : ∀ x ∈ its, Desc x.1 x.2) (hi : Desc i.1 i.2) : ∀ x ∈ putI its K i, Desc x.1 x.2 := by
  intro x hx
  rcases withI_mem (List.mem_of_mem_take hx) with rfl | h1 | rfl
  · exact hi
  · exact h x h1
  · show ByteArray.empty.size < 8; decide
/-- an edit with what its item says -/
abbrev EdI := Int × Int × Itm
def ei0 : EdI := (0, 0, it0)
def cellsI (e : EdI) : List Value := [.int .i64 e.1, .int .i64 e.2.1, .string e.2.2.1]
theorem cellsI_len (e : EdI) : (cellsI e).length = 3 := rfl
def okP (p : PgI) : Prop := rightB p.1 p.2.1 (fstI p.2.2) = true ∧ ∀ i ∈ p.2.2, Desc i.1 i.2
def do1 (lsn : Int) (p : PgI) (e : EdI) : Option PgI :=
  if e.2.1 = -1 then (if e.2.2.1 = (⟨#[1]⟩ : ByteArray) then some (1, lsn, []) else none)
  else if putErr p.1 p.2.1 (fstI p.2.2) e.2.1 e.2.2.1 = 0 then some (p.1, lsn, putI p.2.2 e.2.1.toNat e.2.2) else none
def doL (lsn : Int) (H : List PgI) : List EdI → Option (List PgI)
  | [] => some H
  | e :: es => if 0 ≤ e.1 ∧ e.1 < H.length then (match do1 lsn (H.getD e.1.toNat pgi0) e with | some p => doL lsn (H.set e.1.toNat p) es | none => none) else none
def okH (H : List PgI) : Prop := ∀ p ∈ H, okP p
theorem okH.get {H : List PgI} (h : okH H) {n : Nat} (hn : n < H.length) : okP (H.getD n pgi0) := by
  rw [List.getD_eq_getElem?_getD, List.getElem?_eq_getElem hn]
  exact h _ (List.getElem_mem hn)
theorem okH.set {H : List PgI} (h : okH H) {n : Nat} {p : PgI} (hp : okP p) : okH (H.set n p) := fun q hq => by
  rcases List.mem_or_eq_of_mem_set hq with h1 | rfl
  · exact h q h1
  · exact hp
theorem right_lsn {k l m : Int} {ss : List ByteArray} (h : rightB k l ss = true) (hm : 0 ≤ m ∧ m ≤ 2147483647) : rightB k m ss = true := by
  simp only [rightB, Bool.and_eq_true, decide_eq_true_eq] at h ⊢
  exact ⟨h.1, h.2.1, hm.1, hm.2, h.2.2.2.2⟩
theorem okP.its {p : PgI} (h : okP p) : p.2.2.length ≤ 24 := by
  have := (right_parts h.1).2.2.1.1
  rwa [fstI_len] at this
theorem okP.put {p : PgI} (h : okP p) {lsn j : Int} {i : Itm} (hl : 0 ≤ lsn ∧ lsn ≤ 2147483647) (hi : Desc i.1 i.2) (hp : putErr p.1 p.2.1 (fstI p.2.2) j i.1 = 0) : okP (p.1, lsn, putI p.2.2 j.toNat i) :=
  ⟨by show rightB p.1 lsn (fstI (putI p.2.2 j.toNat i)) = true
      rw [putI_fst]; exact right_lsn (put_right h.1 hp) hl, putI_desc h.2 hi⟩
theorem right_kind {lsn : Int} (hl : 0 ≤ lsn ∧ lsn ≤ 2147483647) : rightB 1 lsn [] = true := by
  simp only [rightB, Bool.and_eq_true, decide_eq_true_eq]
  exact ⟨by decide, by decide, hl.1, hl.2, by decide, by decide, by decide⟩
theorem okP.do {p p' : PgI} (h : okP p) {lsn : Int} {e : EdI} (hl : 0 ≤ lsn ∧ lsn ≤ 2147483647) (hi : Desc e.2.2.1 e.2.2.2) (hd : do1 lsn p e = some p') : okP p' := by
  rw [do1] at hd
  split at hd
  · split at hd
    · obtain rfl := (Option.some.inj hd)
      exact ⟨right_kind hl, fun i hi => by cases hi⟩
    · cases hd
  · split at hd
    · rename_i hp
      obtain rfl := (Option.some.inj hd)
      exact h.put hl hi hp
    · cases hd
theorem doL_cons {lsn : Int} {H H' : List PgI} {e : EdI} {es : List EdI} (h : doL lsn H (e :: es) = some H') : (0 ≤ e.1 ∧ e.1 < H.length) ∧ ∃ p, do1 lsn (H.getD e.1.toNat pgi0) e = some p ∧ doL lsn (H.set e.1.toNat p) es = some H' := by
  rw [doL] at h
  split at h
  · rename_i h1
    refine ⟨h1, ?_⟩
    split at h
    · rename_i p hp
      exact ⟨p, hp, h⟩
    · cases h
  · cases h
theorem doL_step {lsn : Int} {H H' : List PgI} {es : List EdI} {j : Nat} (hj : j < es.length) (h : doL lsn H (es.drop j) = some H') : (0 ≤ (es.getD j ei0).1 ∧ (es.getD j ei0).1 < H.length) ∧ ∃ p, do1 lsn (H.getD (es.getD j ei0).1.toNat pgi0) (es.getD j ei0) = some p ∧ doL lsn (H.set (es.getD j ei0).1.toNat p) (es.drop (j + 1)) = some H' := by
  rw [List.drop_eq_getElem_cons hj] at h
  have e : es.getD j ei0 = es[j] := by rw [List.getD_eq_getElem?_getD, List.getElem?_eq_getElem hj, Option.getD_some]
  rw [e]
  exact doL_cons h
theorem doL_one {lsn : Int} {H : List PgI} {e : EdI} {p : PgI} (h : 0 ≤ e.1 ∧ e.1 < H.length) (hp : do1 lsn (H.getD e.1.toNat pgi0) e = some p) : doL lsn H [e] = some (H.set e.1.toNat p) := by
  rw [doL, if_pos h, hp]; rfl
theorem doL_app {lsn : Int} {es fs : List EdI} : ∀ {H H1 : List PgI}, doL lsn H es = some H1 → doL lsn H (es ++ fs) = doL lsn H1 fs := by
  induction es with
  | nil => intro H H1 h; obtain rfl := Option.some.inj h; rfl
  | cons e es ih =>
    intro H H1 h
    obtain ⟨h1, p, h2, h3⟩ := doL_cons h
    rw [List.cons_append, doL, if_pos h1, h2]
    exact ih h3
/-- the pages as the functions see them -/
def pvL (H : List PgI) (n : Int) : PV := if 0 ≤ n ∧ n < H.length then ⟨(H.getD n.toNat pgi0).1, (H.getD n.toNat pgi0).2.1, (H.getD n.toNat pgi0).2.2, true⟩ else ⟨0, 0, [], false⟩
theorem absP_get (Ps : List PgD) (n : Nat) : (Ps.map absP).getD n pgi0 = absP (Ps.getD n p0) := by
  rw [List.getD_eq_getElem?_getD, List.getD_eq_getElem?_getD, List.getElem?_map]
  cases Ps[n]? <;> rfl
theorem pvF_abs (Ps : List PgD) : pvF Ps = pvL (Ps.map absP) := by
  funext n
  rw [pvF, pvL, List.length_map, absP_get]
  rfl
end
end Go.Proofs.YtjnplglnnamfdaaDoor
namespace Go.Proofs.YtjnplglnnamfdaaDoor
section
open Go.RowKit
section
variable {ρ : Operand → Value}
theorem map5 {x0 x1 x2 x3 x4 : Operand} {v0 v1 v2 v3 v4 : Value} (h0 : ρ x0 = v0) (h1 : ρ x1 = v1) (h2 : ρ x2 = v2) (h3 : ρ x3 = v3) (h4 : ρ x4 = v4) : #[x0, x1, x2, x3, x4].map ρ = #[v0, v1, v2, v3, v4] := by simp [h0, h1, h2, h3, h4]
theorem map8 {x0 x1 x2 x3 x4 x5 x6 x7 : Operand} {v0 v1 v2 v3 v4 v5 v6 v7 : Value} (h0 : ρ x0 = v0) (h1 : ρ x1 = v1) (h2 : ρ x2 = v2) (h3 : ρ x3 = v3) (h4 : ρ x4 = v4) (h5 : ρ x5 = v5) (h6 : ρ x6 = v6) (h7 : ρ x7 = v7) : #[x0, x1, x2, x3, x4, x5, x6, x7].map ρ = #[v0, v1, v2, v3, v4, v5, v6, v7] := by simp [h0, h1, h2, h3, h4, h5, h6, h7]
end
end
end Go.Proofs.YtjnplglnnamfdaaDoor

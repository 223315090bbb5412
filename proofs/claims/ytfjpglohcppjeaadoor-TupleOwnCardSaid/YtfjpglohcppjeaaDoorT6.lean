/- slices.Clone, Freeze, the equality of versions. -/
import Derived.Test.YtfjpglohcppjeaaDoorT5
import Derived.Test.YtfjpglohcppjeaaDoorT2b
import Derived.Test.YtfjpglohcppjeaaDoorVr
namespace Go.Proofs.YtfjpglohcppjeaaDoor
open Go.RowKit
set_option linter.unusedVariables false

theorem flat_one (rs : List Val) : ∀ u ∈ flatR rs, u.oneCell' = true := by
  intro u hu
  obtain ⟨v, _, hv⟩ := List.mem_flatMap.1 hu
  simp only [cellsV, List.mem_cons, List.not_mem_nil, or_false] at hv
  rcases hv with rfl | rfl | rfl <;> rfl
theorem flat_none {w : World} {rs : List Val} (h : At w none (flatR rs)) : rs = [] := by
  rcases rs with _ | ⟨v, l⟩
  · rfl
  · obtain ⟨_, h, _⟩ := h 0 _ rfl
    cases h
set_option maxRecDepth 100000 in
set_option maxHeartbeats 2000000 in
theorem clone_none (rn rc : Nat) (w : World) :
    Calls Tryd.prog 68 #[.slice none rn rc] w (Ret (.slice none 0 0) w) := by
  go_enter Tryd.func68, Tryd.ntmps68
  have hst0 := St.start w
  refine wp_seq ?_
  refine wp_region_X [0] [] [] [] (fun ix σ β X => match ix with | 0 => σ 2 = .slice none 0 0 | _ => True) [] [2] hst0 ?_ ?_ ?_
  · exact fun ix _ _ _ _ _ _ hs hb hx h => match ix, h with
    | 0, h => (hs _ rfl).symm.trans h
    | _ + 1, _ => trivial
  · refine ⟨trivial, ?_⟩
    · exact s0 rfl fun cx => run_assign' rfl (cx.sees.const _)
  intro σ β X W1 hD hX hst1 fr hfr
  simp only [zM] at hst1
  simp only [zP, ed 2 (hD 0 lq)] at hfr
  clear hX hD; subst hfr; clear σ β X
  refine then_normal ?_
  refine wp_seq ?_
  refine wp_seq ?_
  refine wp_region_X [0, 1] [] [] [] (fun ix σ β X => match ix with | 0 => σ 3 = .slice none rn rc | 1 => σ 4 = .bool true | _ => True) [] [3, 4] hst1 ?_ ?_ ?_
  · exact fun ix _ _ _ _ _ _ hs hb hx h => match ix, h with
    | 0, h | 1, h => (hs _ rfl).symm.trans h
    | _ + 2, _ => trivial
  · refine ⟨⟨trivial, ?_⟩, ?_⟩
    · exact mo rfl
    · exact s0 rfl fun cx => run_eqnil (e := 103) rfl (by kernel_rfl) (cx.anc 0 rfl) (cx.sees.const _) rfl
  intro σ β X W2 hD hX hst2 fr hfr
  simp only [zM] at hst2
  simp only [zP, ed 3 (hD 0 lq), ed 4 (hD 1 lq)] at hfr
  clear hX hD; subst hfr; clear σ β X
  refine then_normal ?_
  refine wp_cond_true (show Act.eval _ _ = .bool true from rfl) ?_
  refine wp_seq ?_
  refine wp_region_X [0] [] [] [] (fun ix σ β X => match ix with | 0 => σ 2 = .slice none 0 0 | _ => True) [] [2] hst2 ?_ ?_ ?_
  · exact fun ix _ _ _ _ _ _ hs hb hx h => match ix, h with
    | 0, h => (hs _ rfl).symm.trans h
    | _ + 1, _ => trivial
  · refine ⟨trivial, ?_⟩
    · exact s0 rfl fun cx => run_assign' rfl (cx.sees.const _)
  intro σ β X W3 hD hX hst3 fr hfr
  simp only [zM] at hst3
  simp only [zP, ed 2 (hD 0 lq)] at hfr
  clear hX hD; subst hfr; clear σ β X
  refine then_normal ?_
  refine wp_ret ?_
  refine then_ret ?_
  refine bodyPost_ret (v := .slice none 0 0) (by simp [results, Tryd.results68, go_sem]) rfl ?_
  exact Ret.of rfl hst3.ext

set_option maxRecDepth 100000 in
set_option maxHeartbeats 2000000 in
theorem clone_some (ra : Addr) (rc : Nat) (rs : List Val) (w : World) (hA : At w (some ra) (flatR rs)) (hl : rs.length ≤ 1000) :
    Calls Tryd.prog 68 #[.slice ((some ra)) rs.length rc] w (RowPost rs w) := by
  go_enter Tryd.func68, Tryd.ntmps68
  have hst0 := St.start w
  refine wp_seq ?_
  refine wp_region_X [0] [] [] [] (fun ix σ β X => match ix with | 0 => σ 2 = .slice none 0 0 | _ => True) [] [2] hst0 ?_ ?_ ?_
  · exact fun ix _ _ _ _ _ _ hs hb hx h => match ix, h with
    | 0, h => (hs _ rfl).symm.trans h
    | _ + 1, _ => trivial
  · refine ⟨trivial, ?_⟩
    · exact s0 rfl fun cx => run_assign' rfl (cx.sees.const _)
  intro σ β X W1 hD hX hst1 fr hfr
  simp only [zM] at hst1
  simp only [zP, ed 2 (hD 0 lq)] at hfr
  clear hX hD; subst hfr; clear σ β X
  refine then_normal ?_
  refine wp_seq ?_
  refine wp_seq ?_
  refine wp_region_X [0, 1] [] [] [] (fun ix σ β X => match ix with | 0 => σ 3 = .slice ((some ra)) rs.length rc | 1 => σ 4 = .bool false | _ => True) [] [3, 4] hst1 ?_ ?_ ?_
  · exact fun ix _ _ _ _ _ _ hs hb hx h => match ix, h with
    | 0, h | 1, h => (hs _ rfl).symm.trans h
    | _ + 2, _ => trivial
  · refine ⟨⟨trivial, ?_⟩, ?_⟩
    · exact mo rfl
    · exact s0 rfl fun cx => run_eqnil (e := 103) rfl (by kernel_rfl) (cx.anc 0 rfl) (cx.sees.const _) rfl
  intro σ β X W2 hD hX hst2 fr hfr
  simp only [zM] at hst2
  simp only [zP, ed 3 (hD 0 lq), ed 4 (hD 1 lq)] at hfr
  clear hX hD; subst hfr; clear σ β X
  refine then_normal ?_
  refine wp_cond_false (show Act.eval _ _ = .bool false from rfl) ?_
  refine wp_skip ?_
  refine then_normal ?_
  refine wp_seq ?_
  refine wp_region_X [0, 0, 3, 7] [[], [], [0]] [[0], [], [1]] [[], [], [0]] (fun ix σ β X => match ix with | 0 => σ 5 = .slice ((some ⟨(pb' (β 5)), 0, none⟩)) 0 0 ∧ X 0 = eO 103 3 (.slice ((some ⟨(pb' (β 5)), 0, none⟩)) 0 0) 0 ([]) | 1 => σ 6 = .slice ((some ra)) rs.length rc | 2 => σ 7 = .slice (sA (β 7)) rs.length (sC (β 7)) ∧ X 1 = eO 103 3 (.slice (sA (β 7)) rs.length (sC (β 7))) rs.length (flatR rs) | 3 => σ 2 = .slice (sA (β 7)) rs.length (sC (β 7)) | _ => True) [1] [5, 6, 7, 2] hst2 ?_ ?_ ?_
  · exact fun ix _ _ _ _ _ _ hs hb hx h => match ix, h with
    | 1, h => (hs _ rfl).symm.trans h
    | 0, h => by dsimp only at h ⊢; rw [← hs 5 rfl, ← hb 5 rfl, ← hx 0 rfl]; exact h
    | 2, h => by dsimp only at h ⊢; rw [← hs 7 rfl, ← hb 7 rfl, ← hx 1 rfl]; exact h
    | 3, h => by dsimp only at h ⊢; rw [← hs 2 rfl, ← hb 7 rfl]; exact h
    | _ + 4, _ => trivial
  · refine ⟨⟨⟨⟨trivial, ?_⟩, ?_⟩, ?_⟩, ?_⟩
    · refine sv_any rfl rfl fun ρ β W X cx => ?_
      exact dv_litN (e := 103) (sz := 3) (xs := []) rfl (by simp [go_sem, cx.sees.const]) rfl (by decide) rfl rfl (fun σ β' X' hs hb hv hx => ⟨hv, hx⟩)
    · exact mo rfl
    · refine sv_any rfl rfl fun ρ β W X cx => ?_
      obtain ⟨i0, hi0, hz0, hz1, hz2⟩ := info_parts Tryd.infoVal
      refine dv_appendN (n := 0) (m := rs.length) (nm := rs.length) (sz := 3) (xs := []) (news := flatR rs) (xs' := flatR rs) rfl (ty := 25) rfl (by kernel_rfl) hi0 hz0 hz1 hz2 rfl (by decide) (cx.anc 0 rfl).1 cx (cx.anc 0 rfl).2 rfl (cx.anc 1 rfl) (by rw [flatR_len]) (hA.ext cx.upd.to_ext) (flat_one rs) (by simp only [maxLen]; omega) (by omega) rfl rfl rfl (by omega) (rfl) (fun σ β' X' hs hb hv hx => ?_)
      exact ⟨hv, hx⟩
    · exact sv rfl rfl rfl rfl rfl _ (fun _ _ _ h => h) (fun β β' h => by rw [h 7 (by decide)]) fun ρ β W X cx => run_assign' rfl (cx.anc 2 rfl).1
  intro σ β X W3 hD hX hst3 fr hfr
  obtain ⟨B5_3, hu_B5_3⟩ : ∃ z, pb' (β 5) = z := ⟨_, rfl⟩
  obtain ⟨A7_3, hu_A7_3⟩ : ∃ z, sA (β 7) = z := ⟨_, rfl⟩
  obtain ⟨c7_3, hu_c7_3⟩ : ∃ z, sC (β 7) = z := ⟨_, rfl⟩
  simp only [zM, exq 1 ((hD 2 lq).2), hu_B5_3, hu_A7_3, hu_c7_3] at hst3
  simp only [zP, ed 5 ((hD 0 lq).1), ed 6 (hD 1 lq), ed 7 ((hD 2 lq).1), ed 2 (hD 3 lq), hu_B5_3, hu_A7_3, hu_c7_3] at hfr
  clear hX hD hu_B5_3 hu_A7_3 hu_c7_3; subst hfr; clear σ β X
  refine then_normal ?_
  refine wp_ret ?_
  refine bodyPost_ret (v := .slice A7_3 rs.length c7_3) (by simp [results, Tryd.results68, go_sem]) rfl ?_
  exact ⟨_, _, rfl, hst3.own' 0 rfl, hst3.ext⟩

theorem clone_any (RA : Option Addr) (rc : Nat) (rs : List Val) (w : World) (hA : At w RA (flatR rs)) (hl : rs.length ≤ 1000) : Calls Tryd.prog 68 #[.slice RA rs.length rc] w (RowPost rs w) := by
  rcases RA with _ | ra
  · have h0 := flat_none hA
    subst h0
    exact (clone_none _ rc w).mono fun e w' ⟨he, hx⟩ => ⟨none, 0, he, World.ownsRow_nil _ _ _ _, hx⟩
  · exact clone_some ra rc rs w hA hl
/-- what Freeze answers: the version, and whether anything changed -/
def fzA (hz : Int) (g : Int → Int) (a : Int) : Int := if oldF g hz a = true then 2 else a
def fzX (g : Int → Int) (b : Int) : Bool := b != 0 && g b == 3
def FzPost (hz : Int) (g : Int → Int) (a b n1 n2 : Int) (ho : Bool) (rs : List Val) (w : World) (e : Ending) (w' : World) : Prop := ∃ A c,
  e = .returned (.tuple #[.agg #[.int .i64 (fzA hz g a), .int .i64 (if fzX g b then 0 else b), .int .i64 (if fzX g b then -1 else n1), .int .i64 (if fzX g b then 0 else n2), .bool ho, .slice A rs.length c], .bool (oldF g hz a || fzX g b)]) ∧
  w'.ownsRow w.heap.size 103 3 (.slice A rs.length c) rs.length (flatR rs) ∧ Ext w w'
theorem FzPost.of {hz : Int} {g : Int → Int} {a b n1 n2 a' b' n1' n2' : Int} {ho ch : Bool} {rs : List Val} {w w' : World} {A : Option Addr} {c : Nat} (ha : a' = fzA hz g a) (hb : b' = if fzX g b then 0 else b) (h1 : n1' = if fzX g b then -1 else n1)
    (h2 : n2' = if fzX g b then 0 else n2) (hc : ch = (oldF g hz a || fzX g b)) (ho' : w'.ownsRow w.heap.size 103 3 (.slice A rs.length c) rs.length (flatR rs)) (hx : Ext w w') :
    FzPost hz g a b n1 n2 ho rs w (.returned (.tuple #[.agg #[.int .i64 a', .int .i64 b', .int .i64 n1', .int .i64 n2', .bool ho, .slice A rs.length c], .bool ch])) w' := by
  subst ha hb h1 h2 hc
  exact ⟨A, c, rfl, ho', hx⟩
/-- the package's variable none -/
def NoneAt (w : World) : Prop := At w (some ⟨0, 0, none⟩) [.int .i64 (-1), .int .i64 0]
set_option maxRecDepth 100000 in
set_option maxHeartbeats 2000000 in
theorem freeze_any (a b n1 n2 : Int) (ho : Bool) (RA : Option Addr) (rc : Nat) (rs : List Val) (hz : Int) (tt : TypeId) (tv : Value) (g : Int → Int) (w : World) (hA : At w RA (flatR rs)) (hl : rs.length ≤ 1000) (hS : StOk w tt tv g) (hN : NoneAt w) :
    Calls Tryd.prog 25 #[.agg #[.int .i64 a, .int .i64 b, .int .i64 n1, .int .i64 n2, .bool ho, .slice RA rs.length rc], .int .i64 hz, .iface tt (tv)] w (FzPost hz g a b n1 n2 ho rs w) := by
  obtain ⟨f0, rv, hM, hC, hG⟩ := hS.ex
  go_enter Tryd.func25, Tryd.ntmps25
  have hst0 := St.start w
  refine wp_seq ?_
  refine wp_region_X [0, 0, 0] [] [[0], [1]] [] (fun ix σ β X => match ix with | 0 => σ 3 = .pointer (some ⟨(pb (β 3)), 0, none⟩) ∧ X 0 = eB (pb (β 3)) 27 #[.int .i64 a, .int .i64 b, .int .i64 n1, .int .i64 n2, .bool ho, .slice RA rs.length rc] | 1 => σ 6 = .pointer (some ⟨(pb (β 6)), 0, none⟩) ∧ X 1 = eB (pb (β 6)) 27 #[.int .i64 0, .int .i64 0, .int .i64 0, .int .i64 0, .bool false, .slice none 0 0] | 2 => σ 7 = .bool false | _ => True) [0, 1] [3, 6, 7] hst0 ?_ ?_ ?_
  · exact fun ix _ _ _ _ _ _ hs hb hx h => match ix, h with
    | 2, h => (hs _ rfl).symm.trans h
    | 0, h => by dsimp only at h ⊢; rw [← hs 3 rfl, ← hb 3 rfl, ← hx 0 rfl]; exact h
    | 1, h => by dsimp only at h ⊢; rw [← hs 6 rfl, ← hb 6 rfl, ← hx 1 rfl]; exact h
    | _ + 3, _ => trivial
  · refine ⟨⟨⟨trivial, ?_⟩, ?_⟩, ?_⟩
    · refine sv_any rfl rfl fun ρ β W X cx => ?_
      exact dv_box (cs := #[.int .i64 a, .int .i64 b, .int .i64 n1, .int .i64 n2, .bool ho, .slice RA rs.length rc]) rfl (cx.out 0 rfl) rfl rfl rfl (fun σ β' X' hs hb hv hx => ⟨hv, hx⟩)
    · refine sv_any rfl rfl fun ρ β W X cx => ?_
      exact dv_alloc (cs := #[.int .i64 0, .int .i64 0, .int .i64 0, .int .i64 0, .bool false, .slice none 0 0]) rfl (by kernel_rfl) rfl rfl (fun σ β' X' hs hb hv hx => ⟨hv, hx⟩)
    · exact s0 rfl fun cx => run_assign' rfl (cx.sees.const _)
  intro σ β X W1 hD hX hst1 fr hfr
  obtain ⟨B3_1, hu_B3_1⟩ : ∃ z, pb (β 3) = z := ⟨_, rfl⟩
  obtain ⟨B6_1, hu_B6_1⟩ : ∃ z, pb (β 6) = z := ⟨_, rfl⟩
  simp only [zM, exq 0 ((hD 0 lq).2), exq 1 ((hD 1 lq).2), hu_B3_1, hu_B6_1] at hst1
  simp only [zP, ed 3 ((hD 0 lq).1), ed 6 ((hD 1 lq).1), ed 7 (hD 2 lq), hu_B3_1, hu_B6_1] at hfr
  clear hX hD hu_B3_1 hu_B6_1; subst hfr; clear σ β X
  refine then_normal ?_
  refine wp_seq ?_
  refine wp_region_X [0] [] [] [] (fun ix σ β X => match ix with | 0 => σ 8 = .bool false | _ => True) [0, 1] [8] hst1 ?_ ?_ ?_
  · exact fun ix _ _ _ _ _ _ hs hb hx h => match ix, h with
    | 0, h => (hs _ rfl).symm.trans h
    | _ + 1, _ => trivial
  · refine ⟨trivial, ?_⟩
    · exact s0 rfl fun cx => run_assign' rfl (cx.sees.const _)
  intro σ β X W2 hD hX hst2 fr hfr
  simp only [zM, exq 0 (hX 0 _ rfl), exq 1 (hX 1 _ rfl)] at hst2
  simp only [zP, ed 8 (hD 0 lq)] at hfr
  clear hX hD; subst hfr; clear σ β X
  refine then_normal ?_
  refine wp_seq ?_
  refine wp_region_X [0, 1, 3, 7, 15] [[], [0], [], [], [0]] [[], [], [2], [], [3]] [[], [], [], [], [0]] (fun ix σ β X => match ix with | 0 => σ 9 = .pointer (some ⟨B3_1, 5, none⟩) | 1 => σ 10 = .slice RA rs.length rc | 2 => σ 11 = .slice (sA (β 11)) rs.length (sC (β 11)) ∧ X 2 = eO 103 3 (.slice (sA (β 11)) rs.length (sC (β 11))) rs.length (flatR rs) | 3 => σ 12 = .pointer (some ⟨B3_1, 5, none⟩) | 4 => X 3 = eB B3_1 27 #[.int .i64 a, .int .i64 b, .int .i64 n1, .int .i64 n2, .bool ho, .slice (sA (β 11)) rs.length (sC (β 11))] | _ => True) [1, 2, 3] [9, 10, 11, 12] hst2 ?_ ?_ ?_
  · exact fun ix _ _ _ _ _ _ hs hb hx h => match ix, h with
    | 0, h | 1, h | 3, h => (hs _ rfl).symm.trans h
    | 2, h => by dsimp only at h ⊢; rw [← hs 11 rfl, ← hb 11 rfl, ← hx 2 rfl]; exact h
    | 4, h => by dsimp only at h ⊢; rw [← hb 11 rfl, ← hx 3 rfl]; exact h
    | _ + 5, _ => trivial
  · refine ⟨⟨⟨⟨⟨trivial, ?_⟩, ?_⟩, ?_⟩, ?_⟩, ?_⟩
    · exact s0 rfl fun cx => run_fieldAddr' (k := 5) (n := 5) rfl (by kernel_rfl) (cx.out 3 rfl) rfl
    · exact s0 rfl fun cx => run_load1 rfl (by kernel_rfl) (cx.anc 0 rfl) ((cx.blk (cx.init 0 _ rfl) rfl).cell 5)
    · refine sv_any rfl rfl fun ρ β W X cx => ?_
      refine DoesU.call (run_callF (args := #[.slice RA rs.length rc]) rfl cx.sees rfl (by kernel_rfl) (map1 (cx.anc 1 rfl))) ?_
      refine (clone_any RA _ rs _ (hA.ext cx.upd.to_ext) (by omega)).mono ?_
      rintro e W1 ⟨A4, c4, rfl, ho, hx⟩
      refine ⟨_, rfl, post_call [eO 103 3 (.slice A4 rs.length c4) rs.length (flatR rs)] rfl rfl hx (one_new (eO_new ho)) (List.pairwise_singleton _ _) (fun σ β' X' hs hb hv hN => ?_)⟩
      have hv1 := (hv 11 rfl).1; have hv2 := (hv 11 rfl).2
      exact ⟨hv1.trans (by rw [hv2]; rfl), (by rw [hv2]; exact (List.cons.inj hN).1)⟩
    · exact s0 rfl fun cx => run_fieldAddr' (k := 5) (n := 5) rfl (by kernel_rfl) (cx.out 3 rfl) rfl
    · refine sv_any rfl rfl fun ρ β W X cx => ?_
      exact dv_store (n := 1) rfl (cx.anc 3 rfl) (cx.anc 2 rfl).1 (by kernel_rfl) rfl rfl cx (cx.init 0 _ rfl) rfl (Nat.le_of_ble_eq_true rfl) rfl rfl rfl rfl (fun σ β' X' hs hb hx => by rw [hb 11]; exact hx)
  intro σ β X W3 hD hX hst3 fr hfr
  obtain ⟨A11_3, hu_A11_3⟩ : ∃ z, sA (β 11) = z := ⟨_, rfl⟩
  obtain ⟨c11_3, hu_c11_3⟩ : ∃ z, sC (β 11) = z := ⟨_, rfl⟩
  simp only [zM, exq 1 (hX 1 _ rfl), exq 2 ((hD 2 lq).2), exq 3 ((hD 4 lq)), hu_A11_3, hu_c11_3] at hst3
  simp only [zP, ed 9 (hD 0 lq), ed 10 (hD 1 lq), ed 11 ((hD 2 lq).1), ed 12 (hD 3 lq), hu_A11_3, hu_c11_3] at hfr
  clear hX hD hu_A11_3 hu_c11_3; subst hfr; clear σ β X
  refine then_normal ?_
  refine wp_seq ?_
  refine wp_seq ?_
  refine wp_region_X [0, 1, 0, 0, 15] [[], [2]] [] [] (fun ix σ β X => match ix with | 0 => σ 13 = .pointer (some ⟨B3_1, 0, none⟩) | 1 => σ 14 = .int .i64 a | 2 => σ 15 = .int .i64 hz | 3 => σ 16 = .iface tt (tv) | 4 => σ 17 = .bool (oldF g hz a) | _ => True) [0, 1, 2] [13, 14, 15, 16, 17] hst3 ?_ ?_ ?_
  · exact fun ix _ _ _ _ _ _ hs hb hx h => match ix, h with
    | 0, h | 1, h | 2, h | 3, h | 4, h => (hs _ rfl).symm.trans h
    | _ + 5, _ => trivial
  · refine ⟨⟨⟨⟨⟨trivial, ?_⟩, ?_⟩, ?_⟩, ?_⟩, ?_⟩
    · exact s0 rfl fun cx => run_fieldAddr' (k := 0) (n := 0) rfl (by kernel_rfl) (cx.out 3 rfl) rfl
    · exact s0 rfl fun cx => run_load1 rfl (by kernel_rfl) (cx.anc 0 rfl) ((cx.blk (cx.init 2 _ rfl) rfl).cell 0)
    · exact mo rfl
    · exact mo rfl
    · exact sv_call rfl rfl rfl rfl rfl (fun _ _ _ h => h) fun ρ β W X cx => ⟨_, _, run_callF (args := #[.int .i64 a, .int .i64 hz, .iface tt (tv)]) rfl cx.sees rfl (by kernel_rfl) (map3 (cx.anc 1 rfl) (cx.anc 2 rfl) (cx.anc 3 rfl)), old_any hz a _ _ _ _ (hS.ext cx.upd.to_ext)⟩
  intro σ β X W4 hD hX hst4 fr hfr
  simp only [zM, exq 0 (hX 0 _ rfl), exq 1 (hX 1 _ rfl), exq 2 (hX 2 _ rfl)] at hst4
  simp only [zP, ed 13 (hD 0 lq), ed 14 (hD 1 lq), ed 15 (hD 2 lq), ed 16 (hD 3 lq), ed 17 (hD 4 lq)] at hfr
  clear hX hD; subst hfr; clear σ β X
  refine then_normal ?_
  rcases Bool.eq_false_or_eq_true (oldF g hz a) with hs5 | hs5
  · skip
    refine wp_cond_true (show Act.eval _ _ = .bool true from (congrArg Value.bool hs5)) ?_
    refine wp_region_X [0, 1, 3] [[], [2]] [[], [3]] [[], [2]] (fun ix σ β X => match ix with | 0 => σ 18 = .pointer (some ⟨B3_1, 0, none⟩) | 1 => X 3 = eB B3_1 27 #[.int .i64 2, .int .i64 b, .int .i64 n1, .int .i64 n2, .bool ho, .slice A11_3 rs.length c11_3] | 2 => σ 8 = .bool true | _ => True) [0, 1, 3] [18, 8] hst4 ?_ ?_ ?_
    · exact fun ix _ _ _ _ _ _ hs hb hx h => match ix, h with
      | 0, h | 2, h => (hs _ rfl).symm.trans h
      | 1, h => by dsimp only at h ⊢; rw [← hx 3 rfl]; exact h
      | _ + 3, _ => trivial
    · refine ⟨⟨⟨trivial, ?_⟩, ?_⟩, ?_⟩
      · exact s0 rfl fun cx => run_fieldAddr' (k := 0) (n := 0) rfl (by kernel_rfl) (cx.out 3 rfl) rfl
      · refine sv_any rfl rfl fun ρ β W X cx => ?_
        exact dv_store (n := 1) rfl (cx.anc 0 rfl) (cx.sees.const _) (by kernel_rfl) rfl rfl cx (cx.init 2 _ rfl) rfl (Nat.le_of_ble_eq_true rfl) rfl rfl rfl rfl (fun σ β' X' hs hb hx => hx)
      · exact s0 rfl fun cx => run_assign' rfl (cx.sees.const _)
    intro σ β X W6 hD hX hst6 fr hfr
    simp only [zM, exq 0 (hX 0 _ rfl), exq 1 (hX 1 _ rfl), exq 3 ((hD 1 lq))] at hst6
    simp only [zP, ed 18 (hD 0 lq), ed 8 (hD 2 lq)] at hfr
    clear hX hD; subst hfr; clear σ β X
    refine then_normal ?_
    refine wp_seq ?_
    refine wp_seq ?_
    rcases Bool.eq_false_or_eq_true (b != 0) with hs8 | hs8
    · skip
      have hs8p : b ≠ 0 := by simpa using hs8
      refine wp_region_X [0, 1, 3, 7, 15, 15, 47, 127, 255, 511] [[], [2], [], [], [], [], [2]] [] [] (fun ix σ β X => match ix with | 0 => σ 19 = .pointer (some ⟨B3_1, 1, none⟩) | 1 => σ 20 = .int .i64 b | 2 => σ 21 = .bool (b != 0) | 3 => σ 22 = .bool true | 4 => σ 23 = .iface tt (tv) | 5 => σ 24 = .pointer (some ⟨B3_1, 1, none⟩) | 6 => σ 25 = .int .i64 b | 7 => σ 26 = .int .i64 (g b) | 8 => σ 27 = .bool ((g b) == 3) | 9 => σ 28 = .bool ((g b) == 3) | _ => True) [0, 1, 2] [19, 20, 21, 22, 23, 24, 25, 26, 27, 28] hst6 ?_ ?_ ?_
      · exact fun ix _ _ _ _ _ _ hs hb hx h => match ix, h with
        | 0, h | 1, h | 2, h | 3, h | 4, h | 5, h | 6, h | 7, h | 8, h | 9, h => (hs _ rfl).symm.trans h
        | _ + 10, _ => trivial
      · refine ⟨⟨⟨⟨⟨⟨⟨⟨⟨⟨trivial, ?_⟩, ?_⟩, ?_⟩, ?_⟩, ?_⟩, ?_⟩, ?_⟩, ?_⟩, ?_⟩, ?_⟩
        · exact s0 rfl fun cx => run_fieldAddr' (k := 1) (n := 1) rfl (by kernel_rfl) (cx.out 3 rfl) rfl
        · exact s0 rfl fun cx => run_load1 rfl (by kernel_rfl) (cx.anc 0 rfl) ((cx.blk (cx.init 2 _ rfl) rfl).cell 1)
        · exact s0 rfl fun cx => run_bin rfl (cx.anc 1 rfl) (cx.sees.const _) rfl
        · exact s0 rfl fun cx => run_move' rfl (Eq.trans (cx.anc 2 rfl) (congrArg Value.bool hs8))
        · exact s1 rfl (fun cx => (cx.anc 3 rfl)) fun cx => run_move' rfl (cx.out 2 rfl)
        · exact s1 rfl (fun cx => (cx.anc 3 rfl)) fun cx => run_fieldAddr' (k := 1) (n := 1) rfl (by kernel_rfl) (cx.out 3 rfl) rfl
        · exact s1 rfl (fun cx => (cx.anc 3 rfl)) fun cx => run_load1 rfl (by kernel_rfl) (cx.anc 5 rfl) ((cx.blk (cx.init 2 _ rfl) rfl).cell 1)
        · exact sv_call_on rfl rfl rfl rfl rfl rfl (fun _ _ _ h => h) (fun _ _ _ _ cx => (cx.anc 3 rfl)) fun ρ β W X cx => ⟨_, _, run_invoke (args := #[.int .i64 b]) (args' := #[rv, .int .i64 b]) rfl rfl (cx.anc 4 rfl) hM hC (map1 (cx.anc 6 rfl)) rfl, hG _ b cx.upd.to_ext⟩
        · exact s1 rfl (fun cx => (cx.anc 3 rfl)) fun cx => run_bin rfl (cx.anc 7 rfl) (cx.sees.const _) rfl
        · exact s0 rfl fun cx => run_pick_t rfl (cx.anc 3 rfl) (cx.anc 8 rfl)
      intro σ β X W9 hD hX hst9 fr hfr
      simp only [zM, exq 0 (hX 0 _ rfl), exq 1 (hX 1 _ rfl), exq 2 (hX 2 _ rfl)] at hst9
      simp only [zP, ed 19 (hD 0 lq), ed 20 (hD 1 lq), ed 21 (hD 2 lq), ed 22 (hD 3 lq), ed 23 (hD 4 lq), ed 24 (hD 5 lq), ed 25 (hD 6 lq), ed 26 (hD 7 lq), ed 27 (hD 8 lq), ed 28 (hD 9 lq)] at hfr
      clear hX hD; subst hfr; clear σ β X
      refine then_normal ?_
      rcases Bool.eq_false_or_eq_true ((g b) == 3) with hs10 | hs10
      · skip
        have hs10p : (g b) = 3 := by simpa using hs10
        refine wp_cond_true (show Act.eval _ _ = .bool true from (congrArg Value.bool hs10)) ?_
        refine wp_region_X [0, 0, 2, 7, 15, 31] [[], [], [2], [], [3]] [[], [], [3], [], [4]] [[], [], [2], [], [3]] (fun ix σ β X => match ix with | 0 => σ 29 = .agg #[.int .i64 (-1), .int .i64 0] | 1 => σ 30 = .pointer (some ⟨B3_1, 1, none⟩) | 2 => X 3 = eB B3_1 27 #[.int .i64 2, .int .i64 0, .int .i64 n1, .int .i64 n2, .bool ho, .slice A11_3 rs.length c11_3] | 3 => σ 31 = .pointer (some ⟨B3_1, 2, none⟩) | 4 => X 4 = eB B3_1 27 #[.int .i64 2, .int .i64 0, .int .i64 (-1), .int .i64 0, .bool ho, .slice A11_3 rs.length c11_3] | 5 => σ 8 = .bool true | _ => True) [0, 1, 4] [29, 30, 31, 8] hst9 ?_ ?_ ?_
        · exact fun ix _ _ _ _ _ _ hs hb hx h => match ix, h with
          | 0, h | 1, h | 3, h | 5, h => (hs _ rfl).symm.trans h
          | 2, h => by dsimp only at h ⊢; rw [← hx 3 rfl]; exact h
          | 4, h => by dsimp only at h ⊢; rw [← hx 4 rfl]; exact h
          | _ + 6, _ => trivial
        · refine ⟨⟨⟨⟨⟨⟨trivial, ?_⟩, ?_⟩, ?_⟩, ?_⟩, ?_⟩, ?_⟩
          · exact s0 rfl fun cx => run_loadAt2 rfl (by kernel_rfl) (by kernel_rfl) (cx.sees.glob _) (hN.ext cx.upd.to_ext)
          · exact s0 rfl fun cx => run_fieldAddr' (k := 1) (n := 1) rfl (by kernel_rfl) (cx.out 3 rfl) rfl
          · refine sv_any rfl rfl fun ρ β W X cx => ?_
            exact dv_store (n := 1) rfl (cx.anc 1 rfl) (cx.sees.const _) (by kernel_rfl) rfl rfl cx (cx.init 2 _ rfl) rfl (Nat.le_of_ble_eq_true rfl) rfl rfl rfl rfl (fun σ β' X' hs hb hx => hx)
          · exact s0 rfl fun cx => run_fieldAddr' (k := 2) (n := 2) rfl (by kernel_rfl) (cx.out 3 rfl) rfl
          · refine sv_any rfl rfl fun ρ β W X cx => ?_
            exact dv_store (n := 2) rfl (cx.anc 3 rfl) (cx.anc 0 rfl) (by kernel_rfl) rfl rfl cx (cx.anc 2 rfl) rfl (Nat.le_of_ble_eq_true rfl) rfl rfl rfl rfl (fun σ β' X' hs hb hx => hx)
          · exact s0 rfl fun cx => run_assign' rfl (cx.sees.const _)
        intro σ β X W11 hD hX hst11 fr hfr
        simp only [zM, exq 0 (hX 0 _ rfl), exq 1 (hX 1 _ rfl), exq 4 ((hD 4 lq))] at hst11
        simp only [zP, ed 29 (hD 0 lq), ed 30 (hD 1 lq), ed 31 (hD 3 lq), ed 8 (hD 5 lq)] at hfr
        clear hX hD; subst hfr; clear σ β X
        refine then_normal ?_
        refine wp_seq ?_
        refine wp_region_X [0, 0, 1, 7] [[2], [], [0]] [[], [], [3]] [[], [], [0]] (fun ix σ β X => match ix with | 0 => σ 32 = .agg #[.int .i64 2, .int .i64 0, .int .i64 (-1), .int .i64 0, .bool ho, .slice A11_3 rs.length c11_3] | 1 => σ 33 = .bool true | 2 => X 3 = eB B6_1 27 #[.int .i64 2, .int .i64 0, .int .i64 (-1), .int .i64 0, .bool ho, .slice A11_3 rs.length c11_3] | 3 => σ 7 = .bool true | _ => True) [1, 2, 3] [32, 33, 7] hst11 ?_ ?_ ?_
        · exact fun ix _ _ _ _ _ _ hs hb hx h => match ix, h with
          | 0, h | 1, h | 3, h => (hs _ rfl).symm.trans h
          | 2, h => by dsimp only at h ⊢; rw [← hx 3 rfl]; exact h
          | _ + 4, _ => trivial
        · refine ⟨⟨⟨⟨trivial, ?_⟩, ?_⟩, ?_⟩, ?_⟩
          · exact s0 rfl fun cx => run_loadB (n := 6) rfl (by kernel_rfl) (by kernel_rfl) (cx.out 3 rfl) (cx.blk (cx.init 2 _ rfl) rfl) (Nat.le_of_ble_eq_true rfl) rfl
          · exact mo rfl
          · refine sv_any rfl rfl fun ρ β W X cx => ?_
            exact dv_store (n := 6) rfl (cx.out 6 rfl) (cx.anc 0 rfl) (by kernel_rfl) rfl rfl cx (cx.init 0 _ rfl) rfl (Nat.le_of_ble_eq_true rfl) rfl rfl rfl rfl (fun σ β' X' hs hb hx => hx)
          · exact s0 rfl fun cx => run_assign' rfl (cx.anc 1 rfl)
        intro σ β X W12 hD hX hst12 fr hfr
        simp only [zM, exq 1 (hX 1 _ rfl), exq 2 (hX 2 _ rfl), exq 3 ((hD 2 lq))] at hst12
        simp only [zP, ed 32 (hD 0 lq), ed 33 (hD 1 lq), ed 7 (hD 3 lq)] at hfr
        clear hX hD; subst hfr; clear σ β X
        refine then_normal ?_
        refine wp_ret ?_
        have hr13 : W12.cell? ⟨B6_1, 0, none⟩ = some (.int .i64 2) := (hst12.blk 2 rfl).cell 0
        have hr14 : W12.cell? ⟨B6_1, 1, none⟩ = some (.int .i64 0) := (hst12.blk 2 rfl).cell 1
        have hr15 : W12.cell? ⟨B6_1, 2, none⟩ = some (.int .i64 (-1)) := (hst12.blk 2 rfl).cell 2
        have hr16 : W12.cell? ⟨B6_1, 3, none⟩ = some (.int .i64 0) := (hst12.blk 2 rfl).cell 3
        have hr17 : W12.cell? ⟨B6_1, 4, none⟩ = some (.bool ho) := (hst12.blk 2 rfl).cell 4
        have hr18 : W12.cell? ⟨B6_1, 5, none⟩ = some (.slice A11_3 rs.length c11_3) := (hst12.blk 2 rfl).cell 5
        refine bodyPost_ret (v := .tuple #[.agg #[.int .i64 2, .int .i64 0, .int .i64 (-1), .int .i64 0, .bool ho, .slice A11_3 rs.length c11_3], .bool true]) (by simp [results, Tryd.results25, go_sem, hr13, hr14, hr15, hr16, hr17, hr18]) rfl ?_
        exact FzPost.of (by simp_all [fzA]) (by simp_all [fzX]) (by simp_all [fzX]) (by simp_all [fzX]) (by simp_all [fzX]) (hst12.own' 0 rfl) hst12.ext
      have hs10p : (g b) ≠ 3 := by simpa using hs10
      refine wp_cond_false (show Act.eval _ _ = .bool false from (congrArg Value.bool hs10)) ?_
      refine wp_skip ?_
      refine then_normal ?_
      refine wp_seq ?_
      refine wp_region_X [0, 0, 1, 7] [[2], [], [0]] [[], [], [3]] [[], [], [0]] (fun ix σ β X => match ix with | 0 => σ 32 = .agg #[.int .i64 2, .int .i64 b, .int .i64 n1, .int .i64 n2, .bool ho, .slice A11_3 rs.length c11_3] | 1 => σ 33 = .bool true | 2 => X 3 = eB B6_1 27 #[.int .i64 2, .int .i64 b, .int .i64 n1, .int .i64 n2, .bool ho, .slice A11_3 rs.length c11_3] | 3 => σ 7 = .bool true | _ => True) [1, 2, 3] [32, 33, 7] hst9 ?_ ?_ ?_
      · exact fun ix _ _ _ _ _ _ hs hb hx h => match ix, h with
        | 0, h | 1, h | 3, h => (hs _ rfl).symm.trans h
        | 2, h => by dsimp only at h ⊢; rw [← hx 3 rfl]; exact h
        | _ + 4, _ => trivial
      · refine ⟨⟨⟨⟨trivial, ?_⟩, ?_⟩, ?_⟩, ?_⟩
        · exact s0 rfl fun cx => run_loadB (n := 6) rfl (by kernel_rfl) (by kernel_rfl) (cx.out 3 rfl) (cx.blk (cx.init 2 _ rfl) rfl) (Nat.le_of_ble_eq_true rfl) rfl
        · exact mo rfl
        · refine sv_any rfl rfl fun ρ β W X cx => ?_
          exact dv_store (n := 6) rfl (cx.out 6 rfl) (cx.anc 0 rfl) (by kernel_rfl) rfl rfl cx (cx.init 0 _ rfl) rfl (Nat.le_of_ble_eq_true rfl) rfl rfl rfl rfl (fun σ β' X' hs hb hx => hx)
        · exact s0 rfl fun cx => run_assign' rfl (cx.anc 1 rfl)
      intro σ β X W19 hD hX hst19 fr hfr
      simp only [zM, exq 1 (hX 1 _ rfl), exq 2 (hX 2 _ rfl), exq 3 ((hD 2 lq))] at hst19
      simp only [zP, ed 32 (hD 0 lq), ed 33 (hD 1 lq), ed 7 (hD 3 lq)] at hfr
      clear hX hD; subst hfr; clear σ β X
      refine then_normal ?_
      refine wp_ret ?_
      have hr20 : W19.cell? ⟨B6_1, 0, none⟩ = some (.int .i64 2) := (hst19.blk 2 rfl).cell 0
      have hr21 : W19.cell? ⟨B6_1, 1, none⟩ = some (.int .i64 b) := (hst19.blk 2 rfl).cell 1
      have hr22 : W19.cell? ⟨B6_1, 2, none⟩ = some (.int .i64 n1) := (hst19.blk 2 rfl).cell 2
      have hr23 : W19.cell? ⟨B6_1, 3, none⟩ = some (.int .i64 n2) := (hst19.blk 2 rfl).cell 3
      have hr24 : W19.cell? ⟨B6_1, 4, none⟩ = some (.bool ho) := (hst19.blk 2 rfl).cell 4
      have hr25 : W19.cell? ⟨B6_1, 5, none⟩ = some (.slice A11_3 rs.length c11_3) := (hst19.blk 2 rfl).cell 5
      refine bodyPost_ret (v := .tuple #[.agg #[.int .i64 2, .int .i64 b, .int .i64 n1, .int .i64 n2, .bool ho, .slice A11_3 rs.length c11_3], .bool true]) (by simp [results, Tryd.results25, go_sem, hr20, hr21, hr22, hr23, hr24, hr25]) rfl ?_
      exact FzPost.of (by simp_all [fzA]) (by simp_all [fzX]) (by simp_all [fzX]) (by simp_all [fzX]) (by simp_all [fzX]) (hst19.own' 0 rfl) hst19.ext
    have hs8p : b = 0 := by simpa using hs8
    refine wp_region_X [0, 1, 3, 7, 15, 15, 47, 127, 255, 511] [[], [2]] [] [] (fun ix σ β X => match ix with | 0 => σ 19 = .pointer (some ⟨B3_1, 1, none⟩) | 1 => σ 20 = .int .i64 b | 2 => σ 21 = .bool (b != 0) | 3 => σ 22 = .bool false | 4 => σ 23 = undef | 5 => σ 24 = undef | 6 => σ 25 = undef | 7 => σ 26 = undef | 8 => σ 27 = undef | 9 => σ 28 = .bool false | _ => True) [0, 1, 2] [19, 20, 21, 22, 23, 24, 25, 26, 27, 28] hst6 ?_ ?_ ?_
    · exact fun ix _ _ _ _ _ _ hs hb hx h => match ix, h with
      | 0, h | 1, h | 2, h | 3, h | 4, h | 5, h | 6, h | 7, h | 8, h | 9, h => (hs _ rfl).symm.trans h
      | _ + 10, _ => trivial
    · refine ⟨⟨⟨⟨⟨⟨⟨⟨⟨⟨trivial, ?_⟩, ?_⟩, ?_⟩, ?_⟩, ?_⟩, ?_⟩, ?_⟩, ?_⟩, ?_⟩, ?_⟩
      · exact s0 rfl fun cx => run_fieldAddr' (k := 1) (n := 1) rfl (by kernel_rfl) (cx.out 3 rfl) rfl
      · exact s0 rfl fun cx => run_load1 rfl (by kernel_rfl) (cx.anc 0 rfl) ((cx.blk (cx.init 2 _ rfl) rfl).cell 1)
      · exact s0 rfl fun cx => run_bin rfl (cx.anc 1 rfl) (cx.sees.const _) rfl
      · exact s0 rfl fun cx => run_move' rfl (Eq.trans (cx.anc 2 rfl) (congrArg Value.bool hs8))
      · exact s2 rfl fun cx => (cx.anc 3 rfl)
      · exact s2 rfl fun cx => (cx.anc 3 rfl)
      · exact s2 rfl fun cx => (cx.anc 3 rfl)
      · exact s2 rfl fun cx => (cx.anc 3 rfl)
      · exact s2 rfl fun cx => (cx.anc 3 rfl)
      · exact s0 rfl fun cx => run_pick_f rfl (cx.anc 3 rfl) (cx.sees.const _)
    intro σ β X W26 hD hX hst26 fr hfr
    simp only [zM, exq 0 (hX 0 _ rfl), exq 1 (hX 1 _ rfl), exq 2 (hX 2 _ rfl)] at hst26
    simp only [zP, ed 19 (hD 0 lq), ed 20 (hD 1 lq), ed 21 (hD 2 lq), ed 22 (hD 3 lq), ed 23 (hD 4 lq), ed 24 (hD 5 lq), ed 25 (hD 6 lq), ed 26 (hD 7 lq), ed 27 (hD 8 lq), ed 28 (hD 9 lq)] at hfr
    clear hX hD; subst hfr; clear σ β X
    refine then_normal ?_
    refine wp_cond_false (show Act.eval _ _ = .bool false from rfl) ?_
    refine wp_skip ?_
    refine then_normal ?_
    refine wp_seq ?_
    refine wp_region_X [0, 0, 1, 7] [[2], [], [0]] [[], [], [3]] [[], [], [0]] (fun ix σ β X => match ix with | 0 => σ 32 = .agg #[.int .i64 2, .int .i64 b, .int .i64 n1, .int .i64 n2, .bool ho, .slice A11_3 rs.length c11_3] | 1 => σ 33 = .bool true | 2 => X 3 = eB B6_1 27 #[.int .i64 2, .int .i64 b, .int .i64 n1, .int .i64 n2, .bool ho, .slice A11_3 rs.length c11_3] | 3 => σ 7 = .bool true | _ => True) [1, 2, 3] [32, 33, 7] hst26 ?_ ?_ ?_
    · exact fun ix _ _ _ _ _ _ hs hb hx h => match ix, h with
      | 0, h | 1, h | 3, h => (hs _ rfl).symm.trans h
      | 2, h => by dsimp only at h ⊢; rw [← hx 3 rfl]; exact h
      | _ + 4, _ => trivial
    · refine ⟨⟨⟨⟨trivial, ?_⟩, ?_⟩, ?_⟩, ?_⟩
      · exact s0 rfl fun cx => run_loadB (n := 6) rfl (by kernel_rfl) (by kernel_rfl) (cx.out 3 rfl) (cx.blk (cx.init 2 _ rfl) rfl) (Nat.le_of_ble_eq_true rfl) rfl
      · exact mo rfl
      · refine sv_any rfl rfl fun ρ β W X cx => ?_
        exact dv_store (n := 6) rfl (cx.out 6 rfl) (cx.anc 0 rfl) (by kernel_rfl) rfl rfl cx (cx.init 0 _ rfl) rfl (Nat.le_of_ble_eq_true rfl) rfl rfl rfl rfl (fun σ β' X' hs hb hx => hx)
      · exact s0 rfl fun cx => run_assign' rfl (cx.anc 1 rfl)
    intro σ β X W27 hD hX hst27 fr hfr
    simp only [zM, exq 1 (hX 1 _ rfl), exq 2 (hX 2 _ rfl), exq 3 ((hD 2 lq))] at hst27
    simp only [zP, ed 32 (hD 0 lq), ed 33 (hD 1 lq), ed 7 (hD 3 lq)] at hfr
    clear hX hD; subst hfr; clear σ β X
    refine then_normal ?_
    refine wp_ret ?_
    have hr28 : W27.cell? ⟨B6_1, 0, none⟩ = some (.int .i64 2) := (hst27.blk 2 rfl).cell 0
    have hr29 : W27.cell? ⟨B6_1, 1, none⟩ = some (.int .i64 b) := (hst27.blk 2 rfl).cell 1
    have hr30 : W27.cell? ⟨B6_1, 2, none⟩ = some (.int .i64 n1) := (hst27.blk 2 rfl).cell 2
    have hr31 : W27.cell? ⟨B6_1, 3, none⟩ = some (.int .i64 n2) := (hst27.blk 2 rfl).cell 3
    have hr32 : W27.cell? ⟨B6_1, 4, none⟩ = some (.bool ho) := (hst27.blk 2 rfl).cell 4
    have hr33 : W27.cell? ⟨B6_1, 5, none⟩ = some (.slice A11_3 rs.length c11_3) := (hst27.blk 2 rfl).cell 5
    refine bodyPost_ret (v := .tuple #[.agg #[.int .i64 2, .int .i64 b, .int .i64 n1, .int .i64 n2, .bool ho, .slice A11_3 rs.length c11_3], .bool true]) (by simp [results, Tryd.results25, go_sem, hr28, hr29, hr30, hr31, hr32, hr33]) rfl ?_
    exact FzPost.of (by simp_all [fzA]) (by simp_all [fzX]) (by simp_all [fzX]) (by simp_all [fzX]) (by simp_all [fzX]) (hst27.own' 0 rfl) hst27.ext
  refine wp_cond_false (show Act.eval _ _ = .bool false from (congrArg Value.bool hs5)) ?_
  refine wp_skip ?_
  refine then_normal ?_
  refine wp_seq ?_
  refine wp_seq ?_
  rcases Bool.eq_false_or_eq_true (b != 0) with hs35 | hs35
  · skip
    have hs35p : b ≠ 0 := by simpa using hs35
    refine wp_region_X [0, 1, 3, 7, 15, 15, 47, 127, 255, 511] [[], [2], [], [], [], [], [2]] [] [] (fun ix σ β X => match ix with | 0 => σ 19 = .pointer (some ⟨B3_1, 1, none⟩) | 1 => σ 20 = .int .i64 b | 2 => σ 21 = .bool (b != 0) | 3 => σ 22 = .bool true | 4 => σ 23 = .iface tt (tv) | 5 => σ 24 = .pointer (some ⟨B3_1, 1, none⟩) | 6 => σ 25 = .int .i64 b | 7 => σ 26 = .int .i64 (g b) | 8 => σ 27 = .bool ((g b) == 3) | 9 => σ 28 = .bool ((g b) == 3) | _ => True) [0, 1, 2] [19, 20, 21, 22, 23, 24, 25, 26, 27, 28] hst4 ?_ ?_ ?_
    · exact fun ix _ _ _ _ _ _ hs hb hx h => match ix, h with
      | 0, h | 1, h | 2, h | 3, h | 4, h | 5, h | 6, h | 7, h | 8, h | 9, h => (hs _ rfl).symm.trans h
      | _ + 10, _ => trivial
    · refine ⟨⟨⟨⟨⟨⟨⟨⟨⟨⟨trivial, ?_⟩, ?_⟩, ?_⟩, ?_⟩, ?_⟩, ?_⟩, ?_⟩, ?_⟩, ?_⟩, ?_⟩
      · exact s0 rfl fun cx => run_fieldAddr' (k := 1) (n := 1) rfl (by kernel_rfl) (cx.out 3 rfl) rfl
      · exact s0 rfl fun cx => run_load1 rfl (by kernel_rfl) (cx.anc 0 rfl) ((cx.blk (cx.init 2 _ rfl) rfl).cell 1)
      · exact s0 rfl fun cx => run_bin rfl (cx.anc 1 rfl) (cx.sees.const _) rfl
      · exact s0 rfl fun cx => run_move' rfl (Eq.trans (cx.anc 2 rfl) (congrArg Value.bool hs35))
      · exact s1 rfl (fun cx => (cx.anc 3 rfl)) fun cx => run_move' rfl (cx.out 2 rfl)
      · exact s1 rfl (fun cx => (cx.anc 3 rfl)) fun cx => run_fieldAddr' (k := 1) (n := 1) rfl (by kernel_rfl) (cx.out 3 rfl) rfl
      · exact s1 rfl (fun cx => (cx.anc 3 rfl)) fun cx => run_load1 rfl (by kernel_rfl) (cx.anc 5 rfl) ((cx.blk (cx.init 2 _ rfl) rfl).cell 1)
      · exact sv_call_on rfl rfl rfl rfl rfl rfl (fun _ _ _ h => h) (fun _ _ _ _ cx => (cx.anc 3 rfl)) fun ρ β W X cx => ⟨_, _, run_invoke (args := #[.int .i64 b]) (args' := #[rv, .int .i64 b]) rfl rfl (cx.anc 4 rfl) hM hC (map1 (cx.anc 6 rfl)) rfl, hG _ b cx.upd.to_ext⟩
      · exact s1 rfl (fun cx => (cx.anc 3 rfl)) fun cx => run_bin rfl (cx.anc 7 rfl) (cx.sees.const _) rfl
      · exact s0 rfl fun cx => run_pick_t rfl (cx.anc 3 rfl) (cx.anc 8 rfl)
    intro σ β X W36 hD hX hst36 fr hfr
    simp only [zM, exq 0 (hX 0 _ rfl), exq 1 (hX 1 _ rfl), exq 2 (hX 2 _ rfl)] at hst36
    simp only [zP, ed 19 (hD 0 lq), ed 20 (hD 1 lq), ed 21 (hD 2 lq), ed 22 (hD 3 lq), ed 23 (hD 4 lq), ed 24 (hD 5 lq), ed 25 (hD 6 lq), ed 26 (hD 7 lq), ed 27 (hD 8 lq), ed 28 (hD 9 lq)] at hfr
    clear hX hD; subst hfr; clear σ β X
    refine then_normal ?_
    rcases Bool.eq_false_or_eq_true ((g b) == 3) with hs37 | hs37
    · skip
      have hs37p : (g b) = 3 := by simpa using hs37
      refine wp_cond_true (show Act.eval _ _ = .bool true from (congrArg Value.bool hs37)) ?_
      refine wp_region_X [0, 0, 2, 7, 15, 31] [[], [], [2], [], [3]] [[], [], [3], [], [4]] [[], [], [2], [], [3]] (fun ix σ β X => match ix with | 0 => σ 29 = .agg #[.int .i64 (-1), .int .i64 0] | 1 => σ 30 = .pointer (some ⟨B3_1, 1, none⟩) | 2 => X 3 = eB B3_1 27 #[.int .i64 a, .int .i64 0, .int .i64 n1, .int .i64 n2, .bool ho, .slice A11_3 rs.length c11_3] | 3 => σ 31 = .pointer (some ⟨B3_1, 2, none⟩) | 4 => X 4 = eB B3_1 27 #[.int .i64 a, .int .i64 0, .int .i64 (-1), .int .i64 0, .bool ho, .slice A11_3 rs.length c11_3] | 5 => σ 8 = .bool true | _ => True) [0, 1, 4] [29, 30, 31, 8] hst36 ?_ ?_ ?_
      · exact fun ix _ _ _ _ _ _ hs hb hx h => match ix, h with
        | 0, h | 1, h | 3, h | 5, h => (hs _ rfl).symm.trans h
        | 2, h => by dsimp only at h ⊢; rw [← hx 3 rfl]; exact h
        | 4, h => by dsimp only at h ⊢; rw [← hx 4 rfl]; exact h
        | _ + 6, _ => trivial
      · refine ⟨⟨⟨⟨⟨⟨trivial, ?_⟩, ?_⟩, ?_⟩, ?_⟩, ?_⟩, ?_⟩
        · exact s0 rfl fun cx => run_loadAt2 rfl (by kernel_rfl) (by kernel_rfl) (cx.sees.glob _) (hN.ext cx.upd.to_ext)
        · exact s0 rfl fun cx => run_fieldAddr' (k := 1) (n := 1) rfl (by kernel_rfl) (cx.out 3 rfl) rfl
        · refine sv_any rfl rfl fun ρ β W X cx => ?_
          exact dv_store (n := 1) rfl (cx.anc 1 rfl) (cx.sees.const _) (by kernel_rfl) rfl rfl cx (cx.init 2 _ rfl) rfl (Nat.le_of_ble_eq_true rfl) rfl rfl rfl rfl (fun σ β' X' hs hb hx => hx)
        · exact s0 rfl fun cx => run_fieldAddr' (k := 2) (n := 2) rfl (by kernel_rfl) (cx.out 3 rfl) rfl
        · refine sv_any rfl rfl fun ρ β W X cx => ?_
          exact dv_store (n := 2) rfl (cx.anc 3 rfl) (cx.anc 0 rfl) (by kernel_rfl) rfl rfl cx (cx.anc 2 rfl) rfl (Nat.le_of_ble_eq_true rfl) rfl rfl rfl rfl (fun σ β' X' hs hb hx => hx)
        · exact s0 rfl fun cx => run_assign' rfl (cx.sees.const _)
      intro σ β X W38 hD hX hst38 fr hfr
      simp only [zM, exq 0 (hX 0 _ rfl), exq 1 (hX 1 _ rfl), exq 4 ((hD 4 lq))] at hst38
      simp only [zP, ed 29 (hD 0 lq), ed 30 (hD 1 lq), ed 31 (hD 3 lq), ed 8 (hD 5 lq)] at hfr
      clear hX hD; subst hfr; clear σ β X
      refine then_normal ?_
      refine wp_seq ?_
      refine wp_region_X [0, 0, 1, 7] [[2], [], [0]] [[], [], [3]] [[], [], [0]] (fun ix σ β X => match ix with | 0 => σ 32 = .agg #[.int .i64 a, .int .i64 0, .int .i64 (-1), .int .i64 0, .bool ho, .slice A11_3 rs.length c11_3] | 1 => σ 33 = .bool true | 2 => X 3 = eB B6_1 27 #[.int .i64 a, .int .i64 0, .int .i64 (-1), .int .i64 0, .bool ho, .slice A11_3 rs.length c11_3] | 3 => σ 7 = .bool true | _ => True) [1, 2, 3] [32, 33, 7] hst38 ?_ ?_ ?_
      · exact fun ix _ _ _ _ _ _ hs hb hx h => match ix, h with
        | 0, h | 1, h | 3, h => (hs _ rfl).symm.trans h
        | 2, h => by dsimp only at h ⊢; rw [← hx 3 rfl]; exact h
        | _ + 4, _ => trivial
      · refine ⟨⟨⟨⟨trivial, ?_⟩, ?_⟩, ?_⟩, ?_⟩
        · exact s0 rfl fun cx => run_loadB (n := 6) rfl (by kernel_rfl) (by kernel_rfl) (cx.out 3 rfl) (cx.blk (cx.init 2 _ rfl) rfl) (Nat.le_of_ble_eq_true rfl) rfl
        · exact mo rfl
        · refine sv_any rfl rfl fun ρ β W X cx => ?_
          exact dv_store (n := 6) rfl (cx.out 6 rfl) (cx.anc 0 rfl) (by kernel_rfl) rfl rfl cx (cx.init 0 _ rfl) rfl (Nat.le_of_ble_eq_true rfl) rfl rfl rfl rfl (fun σ β' X' hs hb hx => hx)
        · exact s0 rfl fun cx => run_assign' rfl (cx.anc 1 rfl)
      intro σ β X W39 hD hX hst39 fr hfr
      simp only [zM, exq 1 (hX 1 _ rfl), exq 2 (hX 2 _ rfl), exq 3 ((hD 2 lq))] at hst39
      simp only [zP, ed 32 (hD 0 lq), ed 33 (hD 1 lq), ed 7 (hD 3 lq)] at hfr
      clear hX hD; subst hfr; clear σ β X
      refine then_normal ?_
      refine wp_ret ?_
      have hr40 : W39.cell? ⟨B6_1, 0, none⟩ = some (.int .i64 a) := (hst39.blk 2 rfl).cell 0
      have hr41 : W39.cell? ⟨B6_1, 1, none⟩ = some (.int .i64 0) := (hst39.blk 2 rfl).cell 1
      have hr42 : W39.cell? ⟨B6_1, 2, none⟩ = some (.int .i64 (-1)) := (hst39.blk 2 rfl).cell 2
      have hr43 : W39.cell? ⟨B6_1, 3, none⟩ = some (.int .i64 0) := (hst39.blk 2 rfl).cell 3
      have hr44 : W39.cell? ⟨B6_1, 4, none⟩ = some (.bool ho) := (hst39.blk 2 rfl).cell 4
      have hr45 : W39.cell? ⟨B6_1, 5, none⟩ = some (.slice A11_3 rs.length c11_3) := (hst39.blk 2 rfl).cell 5
      refine bodyPost_ret (v := .tuple #[.agg #[.int .i64 a, .int .i64 0, .int .i64 (-1), .int .i64 0, .bool ho, .slice A11_3 rs.length c11_3], .bool true]) (by simp [results, Tryd.results25, go_sem, hr40, hr41, hr42, hr43, hr44, hr45]) rfl ?_
      exact FzPost.of (by simp_all [fzA]) (by simp_all [fzX]) (by simp_all [fzX]) (by simp_all [fzX]) (by simp_all [fzX]) (hst39.own' 0 rfl) hst39.ext
    have hs37p : (g b) ≠ 3 := by simpa using hs37
    refine wp_cond_false (show Act.eval _ _ = .bool false from (congrArg Value.bool hs37)) ?_
    refine wp_skip ?_
    refine then_normal ?_
    refine wp_seq ?_
    refine wp_region_X [0, 0, 1, 7] [[2], [], [0]] [[], [], [3]] [[], [], [0]] (fun ix σ β X => match ix with | 0 => σ 32 = .agg #[.int .i64 a, .int .i64 b, .int .i64 n1, .int .i64 n2, .bool ho, .slice A11_3 rs.length c11_3] | 1 => σ 33 = .bool false | 2 => X 3 = eB B6_1 27 #[.int .i64 a, .int .i64 b, .int .i64 n1, .int .i64 n2, .bool ho, .slice A11_3 rs.length c11_3] | 3 => σ 7 = .bool false | _ => True) [1, 2, 3] [32, 33, 7] hst36 ?_ ?_ ?_
    · exact fun ix _ _ _ _ _ _ hs hb hx h => match ix, h with
      | 0, h | 1, h | 3, h => (hs _ rfl).symm.trans h
      | 2, h => by dsimp only at h ⊢; rw [← hx 3 rfl]; exact h
      | _ + 4, _ => trivial
    · refine ⟨⟨⟨⟨trivial, ?_⟩, ?_⟩, ?_⟩, ?_⟩
      · exact s0 rfl fun cx => run_loadB (n := 6) rfl (by kernel_rfl) (by kernel_rfl) (cx.out 3 rfl) (cx.blk (cx.init 2 _ rfl) rfl) (Nat.le_of_ble_eq_true rfl) rfl
      · exact mo rfl
      · refine sv_any rfl rfl fun ρ β W X cx => ?_
        exact dv_store (n := 6) rfl (cx.out 6 rfl) (cx.anc 0 rfl) (by kernel_rfl) rfl rfl cx (cx.init 0 _ rfl) rfl (Nat.le_of_ble_eq_true rfl) rfl rfl rfl rfl (fun σ β' X' hs hb hx => hx)
      · exact s0 rfl fun cx => run_assign' rfl (cx.anc 1 rfl)
    intro σ β X W46 hD hX hst46 fr hfr
    simp only [zM, exq 1 (hX 1 _ rfl), exq 2 (hX 2 _ rfl), exq 3 ((hD 2 lq))] at hst46
    simp only [zP, ed 32 (hD 0 lq), ed 33 (hD 1 lq), ed 7 (hD 3 lq)] at hfr
    clear hX hD; subst hfr; clear σ β X
    refine then_normal ?_
    refine wp_ret ?_
    have hr47 : W46.cell? ⟨B6_1, 0, none⟩ = some (.int .i64 a) := (hst46.blk 2 rfl).cell 0
    have hr48 : W46.cell? ⟨B6_1, 1, none⟩ = some (.int .i64 b) := (hst46.blk 2 rfl).cell 1
    have hr49 : W46.cell? ⟨B6_1, 2, none⟩ = some (.int .i64 n1) := (hst46.blk 2 rfl).cell 2
    have hr50 : W46.cell? ⟨B6_1, 3, none⟩ = some (.int .i64 n2) := (hst46.blk 2 rfl).cell 3
    have hr51 : W46.cell? ⟨B6_1, 4, none⟩ = some (.bool ho) := (hst46.blk 2 rfl).cell 4
    have hr52 : W46.cell? ⟨B6_1, 5, none⟩ = some (.slice A11_3 rs.length c11_3) := (hst46.blk 2 rfl).cell 5
    refine bodyPost_ret (v := .tuple #[.agg #[.int .i64 a, .int .i64 b, .int .i64 n1, .int .i64 n2, .bool ho, .slice A11_3 rs.length c11_3], .bool false]) (by simp [results, Tryd.results25, go_sem, hr47, hr48, hr49, hr50, hr51, hr52]) rfl ?_
    exact FzPost.of (by simp_all [fzA]) (by simp_all [fzX]) (by simp_all [fzX]) (by simp_all [fzX]) (by simp_all [fzX]) (hst46.own' 0 rfl) hst46.ext
  have hs35p : b = 0 := by simpa using hs35
  refine wp_region_X [0, 1, 3, 7, 15, 15, 47, 127, 255, 511] [[], [2]] [] [] (fun ix σ β X => match ix with | 0 => σ 19 = .pointer (some ⟨B3_1, 1, none⟩) | 1 => σ 20 = .int .i64 b | 2 => σ 21 = .bool (b != 0) | 3 => σ 22 = .bool false | 4 => σ 23 = undef | 5 => σ 24 = undef | 6 => σ 25 = undef | 7 => σ 26 = undef | 8 => σ 27 = undef | 9 => σ 28 = .bool false | _ => True) [0, 1, 2] [19, 20, 21, 22, 23, 24, 25, 26, 27, 28] hst4 ?_ ?_ ?_
  · exact fun ix _ _ _ _ _ _ hs hb hx h => match ix, h with
    | 0, h | 1, h | 2, h | 3, h | 4, h | 5, h | 6, h | 7, h | 8, h | 9, h => (hs _ rfl).symm.trans h
    | _ + 10, _ => trivial
  · refine ⟨⟨⟨⟨⟨⟨⟨⟨⟨⟨trivial, ?_⟩, ?_⟩, ?_⟩, ?_⟩, ?_⟩, ?_⟩, ?_⟩, ?_⟩, ?_⟩, ?_⟩
    · exact s0 rfl fun cx => run_fieldAddr' (k := 1) (n := 1) rfl (by kernel_rfl) (cx.out 3 rfl) rfl
    · exact s0 rfl fun cx => run_load1 rfl (by kernel_rfl) (cx.anc 0 rfl) ((cx.blk (cx.init 2 _ rfl) rfl).cell 1)
    · exact s0 rfl fun cx => run_bin rfl (cx.anc 1 rfl) (cx.sees.const _) rfl
    · exact s0 rfl fun cx => run_move' rfl (Eq.trans (cx.anc 2 rfl) (congrArg Value.bool hs35))
    · exact s2 rfl fun cx => (cx.anc 3 rfl)
    · exact s2 rfl fun cx => (cx.anc 3 rfl)
    · exact s2 rfl fun cx => (cx.anc 3 rfl)
    · exact s2 rfl fun cx => (cx.anc 3 rfl)
    · exact s2 rfl fun cx => (cx.anc 3 rfl)
    · exact s0 rfl fun cx => run_pick_f rfl (cx.anc 3 rfl) (cx.sees.const _)
  intro σ β X W53 hD hX hst53 fr hfr
  simp only [zM, exq 0 (hX 0 _ rfl), exq 1 (hX 1 _ rfl), exq 2 (hX 2 _ rfl)] at hst53
  simp only [zP, ed 19 (hD 0 lq), ed 20 (hD 1 lq), ed 21 (hD 2 lq), ed 22 (hD 3 lq), ed 23 (hD 4 lq), ed 24 (hD 5 lq), ed 25 (hD 6 lq), ed 26 (hD 7 lq), ed 27 (hD 8 lq), ed 28 (hD 9 lq)] at hfr
  clear hX hD; subst hfr; clear σ β X
  refine then_normal ?_
  refine wp_cond_false (show Act.eval _ _ = .bool false from rfl) ?_
  refine wp_skip ?_
  refine then_normal ?_
  refine wp_seq ?_
  refine wp_region_X [0, 0, 1, 7] [[2], [], [0]] [[], [], [3]] [[], [], [0]] (fun ix σ β X => match ix with | 0 => σ 32 = .agg #[.int .i64 a, .int .i64 b, .int .i64 n1, .int .i64 n2, .bool ho, .slice A11_3 rs.length c11_3] | 1 => σ 33 = .bool false | 2 => X 3 = eB B6_1 27 #[.int .i64 a, .int .i64 b, .int .i64 n1, .int .i64 n2, .bool ho, .slice A11_3 rs.length c11_3] | 3 => σ 7 = .bool false | _ => True) [1, 2, 3] [32, 33, 7] hst53 ?_ ?_ ?_
  · exact fun ix _ _ _ _ _ _ hs hb hx h => match ix, h with
    | 0, h | 1, h | 3, h => (hs _ rfl).symm.trans h
    | 2, h => by dsimp only at h ⊢; rw [← hx 3 rfl]; exact h
    | _ + 4, _ => trivial
  · refine ⟨⟨⟨⟨trivial, ?_⟩, ?_⟩, ?_⟩, ?_⟩
    · exact s0 rfl fun cx => run_loadB (n := 6) rfl (by kernel_rfl) (by kernel_rfl) (cx.out 3 rfl) (cx.blk (cx.init 2 _ rfl) rfl) (Nat.le_of_ble_eq_true rfl) rfl
    · exact mo rfl
    · refine sv_any rfl rfl fun ρ β W X cx => ?_
      exact dv_store (n := 6) rfl (cx.out 6 rfl) (cx.anc 0 rfl) (by kernel_rfl) rfl rfl cx (cx.init 0 _ rfl) rfl (Nat.le_of_ble_eq_true rfl) rfl rfl rfl rfl (fun σ β' X' hs hb hx => hx)
    · exact s0 rfl fun cx => run_assign' rfl (cx.anc 1 rfl)
  intro σ β X W54 hD hX hst54 fr hfr
  simp only [zM, exq 1 (hX 1 _ rfl), exq 2 (hX 2 _ rfl), exq 3 ((hD 2 lq))] at hst54
  simp only [zP, ed 32 (hD 0 lq), ed 33 (hD 1 lq), ed 7 (hD 3 lq)] at hfr
  clear hX hD; subst hfr; clear σ β X
  refine then_normal ?_
  refine wp_ret ?_
  have hr55 : W54.cell? ⟨B6_1, 0, none⟩ = some (.int .i64 a) := (hst54.blk 2 rfl).cell 0
  have hr56 : W54.cell? ⟨B6_1, 1, none⟩ = some (.int .i64 b) := (hst54.blk 2 rfl).cell 1
  have hr57 : W54.cell? ⟨B6_1, 2, none⟩ = some (.int .i64 n1) := (hst54.blk 2 rfl).cell 2
  have hr58 : W54.cell? ⟨B6_1, 3, none⟩ = some (.int .i64 n2) := (hst54.blk 2 rfl).cell 3
  have hr59 : W54.cell? ⟨B6_1, 4, none⟩ = some (.bool ho) := (hst54.blk 2 rfl).cell 4
  have hr60 : W54.cell? ⟨B6_1, 5, none⟩ = some (.slice A11_3 rs.length c11_3) := (hst54.blk 2 rfl).cell 5
  refine bodyPost_ret (v := .tuple #[.agg #[.int .i64 a, .int .i64 b, .int .i64 n1, .int .i64 n2, .bool ho, .slice A11_3 rs.length c11_3], .bool false]) (by simp [results, Tryd.results25, go_sem, hr55, hr56, hr57, hr58, hr59, hr60]) rfl ?_
  exact FzPost.of (by simp_all [fzA]) (by simp_all [fzX]) (by simp_all [fzX]) (by simp_all [fzX]) (by simp_all [fzX]) (hst54.own' 0 rfl) hst54.ext

end Go.Proofs.YtfjpglohcppjeaaDoor

/- slices.Clone, Freeze, the equality of versions. -/
import Derived.Test.YtfjpglohcppjeaaDoorT5
import Derived.Test.YtfjpglohcppjeaaDoorT2b
import Derived.Test.YtfjpglohcppjeaaDoorVq
namespace Go.Proofs.YtfjpglohcppjeaaDoor
open Go.RowKit
set_option linter.unusedVariables false
set_option linter.unusedSimpArgs false

theorem flat_one (rs : List Val) : ∀ u ∈ flatR rs, u.oneCell' = true := by
  intro u hu
  obtain ⟨v, _, hv⟩ := List.mem_flatMap.1 hu
  simp only [cellsV, List.mem_cons, List.not_mem_nil, or_false] at hv
  rcases hv with rfl | rfl | rfl <;> rfl
theorem flat_none {w : World} {rs : List Val} (h : At w none (flatR rs)) : rs = [] := by
  rcases rs with _ | ⟨v, l⟩
  · rfl
  · obtain ⟨_, h, _⟩ := h 0 _ rfl
    cases h
set_option maxRecDepth 100000 in
set_option maxHeartbeats 2000000 in
theorem clone_none (rn rc : Nat) (w : World) :
    Calls Tryd.prog 68 #[.slice none rn rc] w (Ret (.slice none 0 0) w) := by
  go_enter Tryd.func68, Tryd.ntmps68
  have hst0 := St.start w
  refine wp_seq ?_
  refine wp_region_P [0] [.k 2 (.slice none 0 0)] [(2, 0, 1, 3)] hst0 fun W1 hst1 => ?_
  refine then_normal ?_
  refine wp_seq ?_
  refine wp_seq ?_
  refine wp_region_P [0, 1] [.k 3 (.slice none rn rc), .k 4 (.bool true)] [(3, 0, 2, 5)] hst1 fun W2 hst2 => ?_
  refine then_normal ?_
  refine wp_cond_true (show Act.eval _ _ = .bool true from rfl) ?_
  refine wp_seq ?_
  refine wp_region_P [0] [.k 2 (.slice none 0 0)] [(2, 0, 1, 3)] hst2 fun W3 hst3 => ?_
  refine then_normal ?_
  refine wp_ret ?_
  refine then_ret ?_
  refine bodyPost_ret (v := .slice none 0 0) (results_tmp Tryd.results68 rfl) rfl ?_
  exact Ret.of rfl hst3.ext

set_option maxRecDepth 100000 in
set_option maxHeartbeats 2000000 in
theorem clone_some (ra : Addr) (rc : Nat) (rs : List Val) (w : World) (hA : At w (some ra) (flatR rs)) (hl : rs.length ≤ 1000) :
    Calls Tryd.prog 68 #[.slice ((some ra)) rs.length rc] w (RowPost rs w) := by
  go_enter Tryd.func68, Tryd.ntmps68
  have hst0 := St.start w
  refine wp_seq ?_
  refine wp_region_P [0] [.k 2 (.slice none 0 0)] [(2, 0, 1, 3)] hst0 fun W1 hst1 => ?_
  refine then_normal ?_
  refine wp_seq ?_
  refine wp_seq ?_
  refine wp_region_P [0, 1] [.k 3 (.slice ((some ra)) rs.length rc), .k 4 (.bool false)] [(3, 0, 2, 5)] hst1 fun W2 hst2 => ?_
  refine then_normal ?_
  refine wp_cond_false (show Act.eval _ _ = .bool false from rfl) ?_
  refine wp_skip ?_
  refine then_normal ?_
  refine wp_seq ?_
  refine wp_region_T [0, 0, 3, 7] [[], [], [0]] [[0], [], [1]] [[], [], [0]] [.a 5, .k 6 (.slice ((some ra)) rs.length rc), .a 7, .a 2] (fun ix σ β X => match ix with | 0 => σ 5 = .slice ((some ⟨(pb' (β 5)), 0, none⟩)) 0 0 ∧ X 0 = eO 103 3 (.slice ((some ⟨(pb' (β 5)), 0, none⟩)) 0 0) 0 ([]) | 1 => True | 2 => σ 7 = .slice (sA (β 7)) rs.length (sC (β 7)) ∧ X 1 = eO 103 3 (.slice (sA (β 7)) rs.length (sC (β 7))) rs.length (flatR rs) | 3 => σ 2 = .slice (sA (β 7)) rs.length (sC (β 7)) | _ => True) [1] [0, 2, 3] [(2, 3, 1, 3), (2, 0, 3, 5)] hst2 ?_ ?_ ?_
  · exact fun ix _ _ _ _ _ _ hs hb hx h => match ix, h with
    | 0, h => by dsimp only at h ⊢; rw [← hs 5 rfl, ← hb 5 rfl, ← hx 0 rfl]; exact h
    | 2, h => by dsimp only at h ⊢; rw [← hs 7 rfl, ← hb 7 rfl, ← hx 1 rfl]; exact h
    | 3, h => by dsimp only at h ⊢; rw [← hs 2 rfl, ← hb 7 rfl]; exact h
    | 1, _ | _ + 4, _ => trivial
  · refine ⟨?_, ?_, ?_, trivial⟩
    · refine sv_any rfl rfl fun ρ β W X cx => ?_
      exact dv_litN (e := 103) (sz := 3) (xs := []) rfl (by simp [go_sem]) rfl (by decide) rfl rfl (fun σ β' X' hs hb hv hx => ⟨hv, hx⟩)
    · refine sv_any rfl rfl fun ρ β W X cx => ?_
      obtain ⟨i0, hi0, hz0, hz1, hz2⟩ := info_parts Tryd.infoVal
      refine dv_appendN (n := 0) (m := rs.length) (nm := rs.length) (sz := 3) (xs := []) (news := flatR rs) (xs' := flatR rs) rfl (ty := 25) rfl (by kernel_rfl) hi0 hz0 hz1 hz2 rfl (by decide) (dTn (cx.anc 0 rfl)).1 cx (dTn (cx.anc 0 rfl)).2 rfl (cx.anc 1 rfl) (by rw [flatR_len]) (hA.ext cx.upd.to_ext) (flat_one rs) (by simp only [maxLen]; omega) (by omega) rfl rfl rfl (by omega) (rfl) (fun σ β' X' hs hb hv hx => ?_)
      exact ⟨hv, hx⟩
    · exact sv rfl rfl rfl rfl rfl _ (fun _ _ _ h => h) (fun β β' h => by rw [h 7 (by decide)]) fun ρ β W X cx => run_assign' rfl (dTn (cx.anc 2 rfl)).1
  intro σ β X W3 hD hX hst3 fr hfr
  obtain ⟨B5_3, hu_B5_3⟩ : ∃ z, pb' (β 5) = z := ⟨_, rfl⟩
  obtain ⟨A7_3, hu_A7_3⟩ : ∃ z, sA (β 7) = z := ⟨_, rfl⟩
  obtain ⟨c7_3, hu_c7_3⟩ : ∃ z, sC (β 7) = z := ⟨_, rfl⟩
  simp only [zM, exq 1 ((dTn (hD 2 lq)).2), hu_B5_3, hu_A7_3, hu_c7_3] at hst3
  dsimp only [mgT, vals, List.take, List.drop, List.cons_append, List.nil_append] at hfr
  simp only [ed 5 ((dTn (hD 0 lq)).1), ed 7 ((dTn (hD 2 lq)).1), ed 2 ((dTn (hD 3 lq))), hu_B5_3, hu_A7_3, hu_c7_3] at hfr
  clear hX hD hu_B5_3 hu_A7_3 hu_c7_3; subst hfr; clear σ β X
  refine then_normal ?_
  refine wp_ret ?_
  refine bodyPost_ret (v := .slice A7_3 rs.length c7_3) (results_tmp Tryd.results68 rfl) rfl ?_
  exact ⟨_, _, rfl, hst3.own' 0 rfl, hst3.ext⟩

theorem clone_any (RA : Option Addr) (rc : Nat) (rs : List Val) (w : World) (hA : At w RA (flatR rs)) (hl : rs.length ≤ 1000) : Calls Tryd.prog 68 #[.slice RA rs.length rc] w (RowPost rs w) := by
  rcases RA with _ | ra
  · have h0 := flat_none hA
    subst h0
    exact (clone_none _ rc w).mono fun e w' ⟨he, hx⟩ => ⟨none, 0, he, World.ownsRow_nil _ _ _ _, hx⟩
  · exact clone_some ra rc rs w hA hl
/-- what Freeze answers: the version, and whether anything changed -/
def fzA (hz : Int) (g : Int → Int) (a : Int) : Int := if oldF g hz a = true then 2 else a
def fzX (g : Int → Int) (b : Int) : Bool := b != 0 && g b == 3
def FzPost (hz : Int) (g : Int → Int) (a b n1 n2 : Int) (ho : Bool) (rs : List Val) (w : World) (e : Ending) (w' : World) : Prop := ∃ A c,
  e = .returned (.tuple #[.agg #[.int .i64 (fzA hz g a), .int .i64 (if fzX g b then 0 else b), .int .i64 (if fzX g b then -1 else n1), .int .i64 (if fzX g b then 0 else n2), .bool ho, .slice A rs.length c], .bool (oldF g hz a || fzX g b)]) ∧
  w'.ownsRow w.heap.size 103 3 (.slice A rs.length c) rs.length (flatR rs) ∧ Ext w w'
theorem FzPost.of {hz : Int} {g : Int → Int} {a b n1 n2 a' b' n1' n2' : Int} {ho ch : Bool} {rs : List Val} {w w' : World} {A : Option Addr} {c : Nat} (ha : a' = fzA hz g a) (hb : b' = if fzX g b then 0 else b) (h1 : n1' = if fzX g b then -1 else n1)
    (h2 : n2' = if fzX g b then 0 else n2) (hc : ch = (oldF g hz a || fzX g b)) (ho' : w'.ownsRow w.heap.size 103 3 (.slice A rs.length c) rs.length (flatR rs)) (hx : Ext w w') :
    FzPost hz g a b n1 n2 ho rs w (.returned (.tuple #[.agg #[.int .i64 a', .int .i64 b', .int .i64 n1', .int .i64 n2', .bool ho, .slice A rs.length c], .bool ch])) w' := by
  subst ha hb h1 h2 hc
  exact ⟨A, c, rfl, ho', hx⟩
/-- the package's variable none -/
def NoneAt (w : World) : Prop := At w (some ⟨0, 0, none⟩) [.int .i64 (-1), .int .i64 0]
set_option maxRecDepth 100000 in
set_option maxHeartbeats 2000000 in
theorem freeze_any (a b n1 n2 : Int) (ho : Bool) (RA : Option Addr) (rc : Nat) (rs : List Val) (hz : Int) (tt : TypeId) (tv : Value) (g : Int → Int) (w : World) (hA : At w RA (flatR rs)) (hl : rs.length ≤ 1000) (hS : StOk w tt tv g) (hN : NoneAt w) :
    Calls Tryd.prog 25 #[.agg #[.int .i64 a, .int .i64 b, .int .i64 n1, .int .i64 n2, .bool ho, .slice RA rs.length rc], .int .i64 hz, .iface tt (tv)] w (FzPost hz g a b n1 n2 ho rs w) := by
  obtain ⟨f0, rv, hM, hC, hG⟩ := hS.ex
  go_enter Tryd.func25, Tryd.ntmps25
  have hst0 := St.start w
  refine wp_seq ?_
  refine wp_region_T [0, 0, 0] [] [[0], [1]] [] [.a 3, .a 6, .k 7 (.bool false)] (fun ix σ β X => match ix with | 0 => σ 3 = .pointer (some ⟨(pb (β 3)), 0, none⟩) ∧ X 0 = eB (pb (β 3)) 27 #[.int .i64 a, .int .i64 b, .int .i64 n1, .int .i64 n2, .bool ho, .slice RA rs.length rc] | 1 => σ 6 = .pointer (some ⟨(pb (β 6)), 0, none⟩) ∧ X 1 = eB (pb (β 6)) 27 #[.int .i64 0, .int .i64 0, .int .i64 0, .int .i64 0, .bool false, .slice none 0 0] | _ => True) [0, 1] [0, 1] [(3, 0, 1, 4), (2, 1, 2, 4)] hst0 ?_ ?_ ?_
  · exact fun ix _ _ _ _ _ _ hs hb hx h => match ix, h with
    | 0, h => by dsimp only at h ⊢; rw [← hs 3 rfl, ← hb 3 rfl, ← hx 0 rfl]; exact h
    | 1, h => by dsimp only at h ⊢; rw [← hs 6 rfl, ← hb 6 rfl, ← hx 1 rfl]; exact h
    | _ + 2, _ => trivial
  · refine ⟨?_, ?_, trivial⟩
    · refine sv_any rfl rfl fun ρ β W X cx => ?_
      exact dv_box (cs := #[.int .i64 a, .int .i64 b, .int .i64 n1, .int .i64 n2, .bool ho, .slice RA rs.length rc]) rfl (cx.out 0 rfl) rfl rfl rfl (fun σ β' X' hs hb hv hx => ⟨hv, hx⟩)
    · refine sv_any rfl rfl fun ρ β W X cx => ?_
      exact dv_alloc (cs := #[.int .i64 0, .int .i64 0, .int .i64 0, .int .i64 0, .bool false, .slice none 0 0]) rfl (by kernel_rfl) rfl rfl (fun σ β' X' hs hb hv hx => ⟨hv, hx⟩)
  intro σ β X W1 hD hX hst1 fr hfr
  obtain ⟨B3_1, hu_B3_1⟩ : ∃ z, pb (β 3) = z := ⟨_, rfl⟩
  obtain ⟨B6_1, hu_B6_1⟩ : ∃ z, pb (β 6) = z := ⟨_, rfl⟩
  simp only [zM, exq 0 ((dTn (hD 0 lq)).2), exq 1 ((dTn (hD 1 lq)).2), hu_B3_1, hu_B6_1] at hst1
  dsimp only [mgT, vals, List.take, List.drop, List.cons_append, List.nil_append] at hfr
  simp only [ed 3 ((dTn (hD 0 lq)).1), ed 6 ((dTn (hD 1 lq)).1), hu_B3_1, hu_B6_1] at hfr
  clear hX hD hu_B3_1 hu_B6_1; subst hfr; clear σ β X
  refine then_normal ?_
  refine wp_seq ?_
  refine wp_region_P [0] [.k 8 (.bool false)] [(8, 0, 1, 9)] hst1 fun W2 hst2 => ?_
  refine then_normal ?_
  refine wp_seq ?_
  refine wp_region_T [0, 1, 3, 7, 15] [[], [0], [], [], [0]] [[], [], [2], [], [3]] [[], [], [], [], [0]] [.k 9 (.pointer (some ⟨B3_1, 5, none⟩)), .c 10 (.slice RA rs.length rc), .a 11, .k 12 (.pointer (some ⟨B3_1, 5, none⟩)), .n] (fun ix σ β X => match ix with | 0 => True | 1 => True | 2 => σ 11 = .slice (sA (β 11)) rs.length (sC (β 11)) ∧ X 2 = eO 103 3 (.slice (sA (β 11)) rs.length (sC (β 11))) rs.length (flatR rs) | 3 => True | 4 => X 3 = eB B3_1 27 #[.int .i64 a, .int .i64 b, .int .i64 n1, .int .i64 n2, .bool ho, .slice (sA (β 11)) rs.length (sC (β 11))] | _ => True) [1, 2, 3] [1, 2, 4] [(9, 0, 4, 13)] hst2 ?_ ?_ ?_
  · exact fun ix _ _ _ _ _ _ hs hb hx h => match ix, h with
    | 2, h => by dsimp only at h ⊢; rw [← hs 11 rfl, ← hb 11 rfl, ← hx 2 rfl]; exact h
    | 4, h => by dsimp only at h ⊢; rw [← hb 11 rfl, ← hx 3 rfl]; exact h
    | 0, _ | 1, _ | 3, _ | _ + 5, _ => trivial
  · refine ⟨?_, ?_, ?_, trivial⟩
    · exact s4 rfl (fun _ _ _ h => h) fun cx => run_load1 rfl (by kernel_rfl) (cx.anc 0 rfl) ((cx.blk (cx.init 0 _ rfl) rfl).cell 5)
    · refine sv_any rfl rfl fun ρ β W X cx => ?_
      refine DoesU.call (run_callF (args := #[.slice RA rs.length rc]) rfl cx.sees rfl (by kernel_rfl) (map1 (cx.anc 1 rfl))) ?_
      refine (clone_any RA _ rs _ (hA.ext cx.upd.to_ext) (by omega)).mono ?_
      rintro e W1 ⟨A4, c4, rfl, ho, hx⟩
      refine ⟨_, rfl, post_call [eO 103 3 (.slice A4 rs.length c4) rs.length (flatR rs)] rfl rfl hx (one_new (eO_new ho)) (List.pairwise_singleton _ _) (fun σ β' X' hs hb hv hN => ?_)⟩
      have hv1 := (hv 11 rfl).1; have hv2 := (hv 11 rfl).2
      exact ⟨hv1.trans (by rw [hv2]; rfl), (by rw [hv2]; exact (List.cons.inj hN).1)⟩
    · refine sv_any rfl rfl fun ρ β W X cx => ?_
      exact dv_store (n := 1) rfl (cx.anc 3 rfl) (dTn (cx.anc 2 rfl)).1 (by kernel_rfl) (by kernel_rfl) (by kernel_rfl) cx (cx.init 0 _ rfl) rfl (Nat.le_of_ble_eq_true rfl) (by kernel_rfl) rfl rfl rfl (fun σ β' X' hs hb hx => by rw [hb 11]; exact hx)
  intro σ β X W3 hD hX hst3 fr hfr
  obtain ⟨A11_3, hu_A11_3⟩ : ∃ z, sA (β 11) = z := ⟨_, rfl⟩
  obtain ⟨c11_3, hu_c11_3⟩ : ∃ z, sC (β 11) = z := ⟨_, rfl⟩
  simp only [zM, exq 1 (hX 1 _ rfl), exq 2 ((dTn (hD 2 lq)).2), exq 3 ((dTn (hD 4 lq))), hu_A11_3, hu_c11_3] at hst3
  dsimp only [mgT, vals, List.take, List.drop, List.cons_append, List.nil_append] at hfr
  simp only [ed 11 ((dTn (hD 2 lq)).1), hu_A11_3, hu_c11_3] at hfr
  clear hX hD hu_A11_3 hu_c11_3; subst hfr; clear σ β X
  refine then_normal ?_
  refine wp_seq ?_
  refine wp_seq ?_
  refine wp_region_T [0, 1, 0, 0, 15] [[], [2]] [] [] [.k 13 (.pointer (some ⟨B3_1, 0, none⟩)), .c 14 (.int .i64 a), .k 15 (.int .i64 hz), .k 16 (.iface tt (tv)), .c 17 (.bool (oldF g hz a))] (fun _ _ _ _ => True) [0, 1, 2] [1, 4] [(13, 0, 5, 18)] hst3 ?_ ?_ ?_
  · exact fun _ _ _ _ _ _ _ _ _ _ h => h
  · refine ⟨?_, ?_, trivial⟩
    · exact s4 rfl (fun _ _ _ h => h) fun cx => run_load1 rfl (by kernel_rfl) (cx.anc 0 rfl) ((cx.blk (cx.init 2 _ rfl) rfl).cell 0)
    · exact sv_call rfl rfl rfl rfl rfl (fun _ _ _ h => h) fun ρ β W X cx => ⟨_, _, run_callF (args := #[.int .i64 a, .int .i64 hz, .iface tt (tv)]) rfl cx.sees rfl (by kernel_rfl) (map3 (cx.anc 1 rfl) (cx.anc 2 rfl) (cx.anc 3 rfl)), old_any hz a _ _ _ _ (hS.ext cx.upd.to_ext)⟩
  intro σ β X W4 hD hX hst4 fr hfr
  simp only [zM, exq 0 (hX 0 _ rfl), exq 1 (hX 1 _ rfl), exq 2 (hX 2 _ rfl)] at hst4
  dsimp only [mgT, vals, List.take, List.drop, List.cons_append, List.nil_append] at hfr
  clear hX hD; subst hfr; clear σ β X
  refine then_normal ?_
  rcases Bool.eq_false_or_eq_true (oldF g hz a) with hs5 | hs5
  · skip
    refine wp_cond_true (show Act.eval _ _ = .bool true from (congrArg Value.bool hs5)) ?_
    refine wp_region_T [0, 1, 3] [[], [2]] [[], [3]] [[], [2]] [.k 18 (.pointer (some ⟨B3_1, 0, none⟩)), .n, .k 8 (.bool true)] (fun ix σ β X => match ix with | 0 => True | 1 => X 3 = eB B3_1 27 #[.int .i64 2, .int .i64 b, .int .i64 n1, .int .i64 n2, .bool ho, .slice A11_3 rs.length c11_3] | _ => True) [0, 1, 3] [1] [(8, 2, 1, 9), (9, 0, 1, 10)] hst4 ?_ ?_ ?_
    · exact fun ix _ _ _ _ _ _ hs hb hx h => match ix, h with
      | 1, h => by dsimp only at h ⊢; rw [← hx 3 rfl]; exact h
      | 0, _ | _ + 2, _ => trivial
    · refine ⟨?_, trivial⟩
      · refine sv_any rfl rfl fun ρ β W X cx => ?_
        exact dv_store (n := 1) rfl (cx.anc 0 rfl) (cx.sees.const _) (by kernel_rfl) (by kernel_rfl) (by kernel_rfl) cx (cx.init 2 _ rfl) rfl (Nat.le_of_ble_eq_true rfl) (by kernel_rfl) rfl rfl rfl (fun σ β' X' hs hb hx => hx)
    intro σ β X W6 hD hX hst6 fr hfr
    simp only [zM, exq 0 (hX 0 _ rfl), exq 1 (hX 1 _ rfl), exq 3 ((dTn (hD 1 lq)))] at hst6
    dsimp only [mgT, vals, List.take, List.drop, List.cons_append, List.nil_append] at hfr
    clear hX hD; subst hfr; clear σ β X
    refine then_normal ?_
    refine wp_seq ?_
    refine wp_seq ?_
    refine wp_region_T [0, 1, 3, 7, 15, 15, 47, 127, 255, 511] [[], [2], [], [], [], [], [2]] [] [] [.k 19 (.pointer (some ⟨B3_1, 1, none⟩)), .c 20 (.int .i64 b), .k 21 (.bool (b != 0)), .k 22 (.bool (b != 0)), .z 23 (b != 0) (.iface tt (tv)), .z 24 (b != 0) (.pointer (some ⟨B3_1, 1, none⟩)), .y 25 (b != 0) (.int .i64 b), .y 26 (b != 0) (.int .i64 (g b)), .z 27 (b != 0) (.bool ((g b) == 3)), tA 28 (b != 0) ((g b) == 3)] (fun _ _ _ _ => True) [0, 1, 2] [1, 6, 7] [(19, 0, 10, 29)] hst6 ?_ ?_ ?_
    · exact fun _ _ _ _ _ _ _ _ _ _ h => h
    · refine ⟨?_, ?_, ?_, trivial⟩
      · exact s4 rfl (fun _ _ _ h => h) fun cx => run_load1 rfl (by kernel_rfl) (cx.anc 0 rfl) ((cx.blk (cx.init 2 _ rfl) rfl).cell 1)
      · exact m2 rfl (fun _ _ _ h => h) (fun cx => (cx.anc 3 rfl)) fun cx hq => run_load1 rfl (by kernel_rfl) (mbv (cx.anc 5 rfl) hq) ((cx.blk (cx.init 2 _ rfl) rfl).cell 1)
      · exact m3 rfl (fun _ _ _ h => h) (fun cx => (cx.anc 3 rfl)) fun cx hq => ⟨_, _, run_invoke (args := #[.int .i64 b]) (args' := #[rv, .int .i64 b]) rfl rfl (mbv (cx.anc 4 rfl) hq) hM hC (map1 (mbv (cx.anc 6 rfl) hq)) rfl, hG _ b cx.upd.to_ext⟩
    intro σ β X W7 hD hX hst7 fr hfr
    simp only [zM, exq 0 (hX 0 _ rfl), exq 1 (hX 1 _ rfl), exq 2 (hX 2 _ rfl)] at hst7
    dsimp only [mgT, vals, List.take, List.drop, List.cons_append, List.nil_append] at hfr
    clear hX hD; subst hfr; clear σ β X
    refine then_normal ?_
    rcases Bool.eq_false_or_eq_true ((b != 0) && ((g b) == 3)) with hs8 | hs8
    · skip
      have hs8p := hs8
      simp only [zB] at hs8p
      obtain ⟨hs8p1, hs8p2⟩ := hs8p
      refine wp_cond_true (show Act.eval _ _ = .bool true from (congrArg Value.bool hs8)) ?_
      refine wp_region_T [0, 0, 2, 7, 15, 31] [[], [], [2], [], [3]] [[], [], [3], [], [4]] [[], [], [2], [], [3]] [.c 29 (.agg #[.int .i64 (-1), .int .i64 0]), .k 30 (.pointer (some ⟨B3_1, 1, none⟩)), .n, .k 31 (.pointer (some ⟨B3_1, 2, none⟩)), .n, .k 8 (.bool true)] (fun ix σ β X => match ix with | 0 => True | 1 => True | 2 => X 3 = eB B3_1 27 #[.int .i64 2, .int .i64 0, .int .i64 n1, .int .i64 n2, .bool ho, .slice A11_3 rs.length c11_3] | 3 => True | 4 => X 4 = eB B3_1 27 #[.int .i64 2, .int .i64 0, .int .i64 (-1), .int .i64 0, .bool ho, .slice A11_3 rs.length c11_3] | _ => True) [0, 1, 4] [0, 2, 4] [(8, 5, 1, 9), (20, 0, 4, 23)] hst7 ?_ ?_ ?_
      · exact fun ix _ _ _ _ _ _ hs hb hx h => match ix, h with
        | 2, h => by dsimp only at h ⊢; rw [← hx 3 rfl]; exact h
        | 4, h => by dsimp only at h ⊢; rw [← hx 4 rfl]; exact h
        | 0, _ | 1, _ | 3, _ | _ + 5, _ => trivial
      · refine ⟨?_, ?_, ?_, trivial⟩
        · exact s4 rfl (fun _ _ _ h => h) fun cx => run_loadAt2 rfl (by kernel_rfl) (by kernel_rfl) (cx.sees.glob _) (hN.ext cx.upd.to_ext)
        · refine sv_any rfl rfl fun ρ β W X cx => ?_
          exact dv_store (n := 1) rfl (cx.anc 1 rfl) (cx.sees.const _) (by kernel_rfl) (by kernel_rfl) (by kernel_rfl) cx (cx.init 2 _ rfl) rfl (Nat.le_of_ble_eq_true rfl) (by kernel_rfl) rfl rfl rfl (fun σ β' X' hs hb hx => hx)
        · refine sv_any rfl rfl fun ρ β W X cx => ?_
          exact dv_store (n := 2) rfl (cx.anc 3 rfl) (cx.anc 0 rfl) (by kernel_rfl) (by kernel_rfl) (by kernel_rfl) cx (dTn (cx.anc 2 rfl)) rfl (Nat.le_of_ble_eq_true rfl) (by kernel_rfl) rfl rfl rfl (fun σ β' X' hs hb hx => hx)
      intro σ β X W9 hD hX hst9 fr hfr
      simp only [zM, exq 0 (hX 0 _ rfl), exq 1 (hX 1 _ rfl), exq 4 ((dTn (hD 4 lq)))] at hst9
      dsimp only [mgT, vals, List.take, List.drop, List.cons_append, List.nil_append] at hfr
      clear hX hD; subst hfr; clear σ β X
      refine then_normal ?_
      refine wp_seq ?_
      refine wp_region_T [0, 0, 1, 7] [[2], [], [0]] [[], [], [3]] [[], [], [0]] [.c 32 (.agg #[.int .i64 2, .int .i64 0, .int .i64 (-1), .int .i64 0, .bool ho, .slice A11_3 rs.length c11_3]), .k 33 (.bool true), .n, .k 7 (.bool true)] (fun ix σ β X => match ix with | 0 => True | 1 => True | 2 => X 3 = eB B6_1 27 #[.int .i64 2, .int .i64 0, .int .i64 (-1), .int .i64 0, .bool ho, .slice A11_3 rs.length c11_3] | _ => True) [1, 2, 3] [0, 2] [(7, 3, 1, 8), (24, 0, 2, 26)] hst9 ?_ ?_ ?_
      · exact fun ix _ _ _ _ _ _ hs hb hx h => match ix, h with
        | 2, h => by dsimp only at h ⊢; rw [← hx 3 rfl]; exact h
        | 0, _ | 1, _ | _ + 3, _ => trivial
      · refine ⟨?_, ?_, trivial⟩
        · exact s4 rfl (fun _ _ _ h => h) fun cx => run_loadB (n := 6) rfl (by kernel_rfl) (by kernel_rfl) (cx.out 3 rfl) (cx.blk (cx.init 2 _ rfl) rfl) (Nat.le_of_ble_eq_true rfl) rfl
        · refine sv_any rfl rfl fun ρ β W X cx => ?_
          exact dv_store (n := 6) rfl (cx.out 6 rfl) (cx.anc 0 rfl) (by kernel_rfl) (by kernel_rfl) (by kernel_rfl) cx (cx.init 0 _ rfl) rfl (Nat.le_of_ble_eq_true rfl) (by kernel_rfl) rfl rfl rfl (fun σ β' X' hs hb hx => hx)
      intro σ β X W10 hD hX hst10 fr hfr
      simp only [zM, exq 1 (hX 1 _ rfl), exq 2 (hX 2 _ rfl), exq 3 ((dTn (hD 2 lq)))] at hst10
      dsimp only [mgT, vals, List.take, List.drop, List.cons_append, List.nil_append] at hfr
      clear hX hD; subst hfr; clear σ β X
      refine then_normal ?_
      refine wp_ret ?_
      have hr11 : W10.cell? ⟨B6_1, 0, none⟩ = some (.int .i64 2) := (hst10.blk 2 rfl).cell 0
      have hr12 : W10.cell? ⟨B6_1, 1, none⟩ = some (.int .i64 0) := (hst10.blk 2 rfl).cell 1
      have hr13 : W10.cell? ⟨B6_1, 2, none⟩ = some (.int .i64 (-1)) := (hst10.blk 2 rfl).cell 2
      have hr14 : W10.cell? ⟨B6_1, 3, none⟩ = some (.int .i64 0) := (hst10.blk 2 rfl).cell 3
      have hr15 : W10.cell? ⟨B6_1, 4, none⟩ = some (.bool ho) := (hst10.blk 2 rfl).cell 4
      have hr16 : W10.cell? ⟨B6_1, 5, none⟩ = some (.slice A11_3 rs.length c11_3) := (hst10.blk 2 rfl).cell 5
      refine bodyPost_ret (v := .tuple #[.agg #[.int .i64 2, .int .i64 0, .int .i64 (-1), .int .i64 0, .bool ho, .slice A11_3 rs.length c11_3], .bool true]) (by simp [results, Tryd.results25, go_sem, hr11, hr12, hr13, hr14, hr15, hr16]) rfl ?_
      exact FzPost.of (by simp_all [fzA]) (by simp_all [fzX]) (by simp_all [fzX]) (by simp_all [fzX]) (by simp_all [fzX]) (hst10.own' 0 rfl) hst10.ext
    have hs8p := hs8
    simp only [zB] at hs8p
    refine wp_cond_false (show Act.eval _ _ = .bool false from (congrArg Value.bool hs8)) ?_
    refine wp_skip ?_
    refine then_normal ?_
    refine wp_seq ?_
    refine wp_region_T [0, 0, 1, 7] [[2], [], [0]] [[], [], [3]] [[], [], [0]] [.c 32 (.agg #[.int .i64 2, .int .i64 b, .int .i64 n1, .int .i64 n2, .bool ho, .slice A11_3 rs.length c11_3]), .k 33 (.bool true), .n, .k 7 (.bool true)] (fun ix σ β X => match ix with | 0 => True | 1 => True | 2 => X 3 = eB B6_1 27 #[.int .i64 2, .int .i64 b, .int .i64 n1, .int .i64 n2, .bool ho, .slice A11_3 rs.length c11_3] | _ => True) [1, 2, 3] [0, 2] [(7, 3, 1, 8), (24, 0, 2, 26)] hst7 ?_ ?_ ?_
    · exact fun ix _ _ _ _ _ _ hs hb hx h => match ix, h with
      | 2, h => by dsimp only at h ⊢; rw [← hx 3 rfl]; exact h
      | 0, _ | 1, _ | _ + 3, _ => trivial
    · refine ⟨?_, ?_, trivial⟩
      · exact s4 rfl (fun _ _ _ h => h) fun cx => run_loadB (n := 6) rfl (by kernel_rfl) (by kernel_rfl) (cx.out 3 rfl) (cx.blk (cx.init 2 _ rfl) rfl) (Nat.le_of_ble_eq_true rfl) rfl
      · refine sv_any rfl rfl fun ρ β W X cx => ?_
        exact dv_store (n := 6) rfl (cx.out 6 rfl) (cx.anc 0 rfl) (by kernel_rfl) (by kernel_rfl) (by kernel_rfl) cx (cx.init 0 _ rfl) rfl (Nat.le_of_ble_eq_true rfl) (by kernel_rfl) rfl rfl rfl (fun σ β' X' hs hb hx => hx)
    intro σ β X W17 hD hX hst17 fr hfr
    simp only [zM, exq 1 (hX 1 _ rfl), exq 2 (hX 2 _ rfl), exq 3 ((dTn (hD 2 lq)))] at hst17
    dsimp only [mgT, vals, List.take, List.drop, List.cons_append, List.nil_append] at hfr
    clear hX hD; subst hfr; clear σ β X
    refine then_normal ?_
    refine wp_ret ?_
    have hr18 : W17.cell? ⟨B6_1, 0, none⟩ = some (.int .i64 2) := (hst17.blk 2 rfl).cell 0
    have hr19 : W17.cell? ⟨B6_1, 1, none⟩ = some (.int .i64 b) := (hst17.blk 2 rfl).cell 1
    have hr20 : W17.cell? ⟨B6_1, 2, none⟩ = some (.int .i64 n1) := (hst17.blk 2 rfl).cell 2
    have hr21 : W17.cell? ⟨B6_1, 3, none⟩ = some (.int .i64 n2) := (hst17.blk 2 rfl).cell 3
    have hr22 : W17.cell? ⟨B6_1, 4, none⟩ = some (.bool ho) := (hst17.blk 2 rfl).cell 4
    have hr23 : W17.cell? ⟨B6_1, 5, none⟩ = some (.slice A11_3 rs.length c11_3) := (hst17.blk 2 rfl).cell 5
    refine bodyPost_ret (v := .tuple #[.agg #[.int .i64 2, .int .i64 b, .int .i64 n1, .int .i64 n2, .bool ho, .slice A11_3 rs.length c11_3], .bool true]) (by simp [results, Tryd.results25, go_sem, hr18, hr19, hr20, hr21, hr22, hr23]) rfl ?_
    exact FzPost.of (by simp_all [fzA]) (by simp_all [fzX]) (by simp_all [fzX]) (by simp_all [fzX]) (by simp_all [fzX]) (hst17.own' 0 rfl) hst17.ext
  refine wp_cond_false (show Act.eval _ _ = .bool false from (congrArg Value.bool hs5)) ?_
  refine wp_skip ?_
  refine then_normal ?_
  refine wp_seq ?_
  refine wp_seq ?_
  refine wp_region_T [0, 1, 3, 7, 15, 15, 47, 127, 255, 511] [[], [2], [], [], [], [], [2]] [] [] [.k 19 (.pointer (some ⟨B3_1, 1, none⟩)), .c 20 (.int .i64 b), .k 21 (.bool (b != 0)), .k 22 (.bool (b != 0)), .z 23 (b != 0) (.iface tt (tv)), .z 24 (b != 0) (.pointer (some ⟨B3_1, 1, none⟩)), .y 25 (b != 0) (.int .i64 b), .y 26 (b != 0) (.int .i64 (g b)), .z 27 (b != 0) (.bool ((g b) == 3)), tA 28 (b != 0) ((g b) == 3)] (fun _ _ _ _ => True) [0, 1, 2] [1, 6, 7] [(19, 0, 10, 29)] hst4 ?_ ?_ ?_
  · exact fun _ _ _ _ _ _ _ _ _ _ h => h
  · refine ⟨?_, ?_, ?_, trivial⟩
    · exact s4 rfl (fun _ _ _ h => h) fun cx => run_load1 rfl (by kernel_rfl) (cx.anc 0 rfl) ((cx.blk (cx.init 2 _ rfl) rfl).cell 1)
    · exact m2 rfl (fun _ _ _ h => h) (fun cx => (cx.anc 3 rfl)) fun cx hq => run_load1 rfl (by kernel_rfl) (mbv (cx.anc 5 rfl) hq) ((cx.blk (cx.init 2 _ rfl) rfl).cell 1)
    · exact m3 rfl (fun _ _ _ h => h) (fun cx => (cx.anc 3 rfl)) fun cx hq => ⟨_, _, run_invoke (args := #[.int .i64 b]) (args' := #[rv, .int .i64 b]) rfl rfl (mbv (cx.anc 4 rfl) hq) hM hC (map1 (mbv (cx.anc 6 rfl) hq)) rfl, hG _ b cx.upd.to_ext⟩
  intro σ β X W24 hD hX hst24 fr hfr
  simp only [zM, exq 0 (hX 0 _ rfl), exq 1 (hX 1 _ rfl), exq 2 (hX 2 _ rfl)] at hst24
  dsimp only [mgT, vals, List.take, List.drop, List.cons_append, List.nil_append] at hfr
  clear hX hD; subst hfr; clear σ β X
  refine then_normal ?_
  rcases Bool.eq_false_or_eq_true ((b != 0) && ((g b) == 3)) with hs25 | hs25
  · skip
    have hs25p := hs25
    simp only [zB] at hs25p
    obtain ⟨hs25p1, hs25p2⟩ := hs25p
    refine wp_cond_true (show Act.eval _ _ = .bool true from (congrArg Value.bool hs25)) ?_
    refine wp_region_T [0, 0, 2, 7, 15, 31] [[], [], [2], [], [3]] [[], [], [3], [], [4]] [[], [], [2], [], [3]] [.c 29 (.agg #[.int .i64 (-1), .int .i64 0]), .k 30 (.pointer (some ⟨B3_1, 1, none⟩)), .n, .k 31 (.pointer (some ⟨B3_1, 2, none⟩)), .n, .k 8 (.bool true)] (fun ix σ β X => match ix with | 0 => True | 1 => True | 2 => X 3 = eB B3_1 27 #[.int .i64 a, .int .i64 0, .int .i64 n1, .int .i64 n2, .bool ho, .slice A11_3 rs.length c11_3] | 3 => True | 4 => X 4 = eB B3_1 27 #[.int .i64 a, .int .i64 0, .int .i64 (-1), .int .i64 0, .bool ho, .slice A11_3 rs.length c11_3] | _ => True) [0, 1, 4] [0, 2, 4] [(8, 5, 1, 9), (20, 0, 4, 23)] hst24 ?_ ?_ ?_
    · exact fun ix _ _ _ _ _ _ hs hb hx h => match ix, h with
      | 2, h => by dsimp only at h ⊢; rw [← hx 3 rfl]; exact h
      | 4, h => by dsimp only at h ⊢; rw [← hx 4 rfl]; exact h
      | 0, _ | 1, _ | 3, _ | _ + 5, _ => trivial
    · refine ⟨?_, ?_, ?_, trivial⟩
      · exact s4 rfl (fun _ _ _ h => h) fun cx => run_loadAt2 rfl (by kernel_rfl) (by kernel_rfl) (cx.sees.glob _) (hN.ext cx.upd.to_ext)
      · refine sv_any rfl rfl fun ρ β W X cx => ?_
        exact dv_store (n := 1) rfl (cx.anc 1 rfl) (cx.sees.const _) (by kernel_rfl) (by kernel_rfl) (by kernel_rfl) cx (cx.init 2 _ rfl) rfl (Nat.le_of_ble_eq_true rfl) (by kernel_rfl) rfl rfl rfl (fun σ β' X' hs hb hx => hx)
      · refine sv_any rfl rfl fun ρ β W X cx => ?_
        exact dv_store (n := 2) rfl (cx.anc 3 rfl) (cx.anc 0 rfl) (by kernel_rfl) (by kernel_rfl) (by kernel_rfl) cx (dTn (cx.anc 2 rfl)) rfl (Nat.le_of_ble_eq_true rfl) (by kernel_rfl) rfl rfl rfl (fun σ β' X' hs hb hx => hx)
    intro σ β X W26 hD hX hst26 fr hfr
    simp only [zM, exq 0 (hX 0 _ rfl), exq 1 (hX 1 _ rfl), exq 4 ((dTn (hD 4 lq)))] at hst26
    dsimp only [mgT, vals, List.take, List.drop, List.cons_append, List.nil_append] at hfr
    clear hX hD; subst hfr; clear σ β X
    refine then_normal ?_
    refine wp_seq ?_
    refine wp_region_T [0, 0, 1, 7] [[2], [], [0]] [[], [], [3]] [[], [], [0]] [.c 32 (.agg #[.int .i64 a, .int .i64 0, .int .i64 (-1), .int .i64 0, .bool ho, .slice A11_3 rs.length c11_3]), .k 33 (.bool true), .n, .k 7 (.bool true)] (fun ix σ β X => match ix with | 0 => True | 1 => True | 2 => X 3 = eB B6_1 27 #[.int .i64 a, .int .i64 0, .int .i64 (-1), .int .i64 0, .bool ho, .slice A11_3 rs.length c11_3] | _ => True) [1, 2, 3] [0, 2] [(7, 3, 1, 8), (24, 0, 2, 26)] hst26 ?_ ?_ ?_
    · exact fun ix _ _ _ _ _ _ hs hb hx h => match ix, h with
      | 2, h => by dsimp only at h ⊢; rw [← hx 3 rfl]; exact h
      | 0, _ | 1, _ | _ + 3, _ => trivial
    · refine ⟨?_, ?_, trivial⟩
      · exact s4 rfl (fun _ _ _ h => h) fun cx => run_loadB (n := 6) rfl (by kernel_rfl) (by kernel_rfl) (cx.out 3 rfl) (cx.blk (cx.init 2 _ rfl) rfl) (Nat.le_of_ble_eq_true rfl) rfl
      · refine sv_any rfl rfl fun ρ β W X cx => ?_
        exact dv_store (n := 6) rfl (cx.out 6 rfl) (cx.anc 0 rfl) (by kernel_rfl) (by kernel_rfl) (by kernel_rfl) cx (cx.init 0 _ rfl) rfl (Nat.le_of_ble_eq_true rfl) (by kernel_rfl) rfl rfl rfl (fun σ β' X' hs hb hx => hx)
    intro σ β X W27 hD hX hst27 fr hfr
    simp only [zM, exq 1 (hX 1 _ rfl), exq 2 (hX 2 _ rfl), exq 3 ((dTn (hD 2 lq)))] at hst27
    dsimp only [mgT, vals, List.take, List.drop, List.cons_append, List.nil_append] at hfr
    clear hX hD; subst hfr; clear σ β X
    refine then_normal ?_
    refine wp_ret ?_
    have hr28 : W27.cell? ⟨B6_1, 0, none⟩ = some (.int .i64 a) := (hst27.blk 2 rfl).cell 0
    have hr29 : W27.cell? ⟨B6_1, 1, none⟩ = some (.int .i64 0) := (hst27.blk 2 rfl).cell 1
    have hr30 : W27.cell? ⟨B6_1, 2, none⟩ = some (.int .i64 (-1)) := (hst27.blk 2 rfl).cell 2
    have hr31 : W27.cell? ⟨B6_1, 3, none⟩ = some (.int .i64 0) := (hst27.blk 2 rfl).cell 3
    have hr32 : W27.cell? ⟨B6_1, 4, none⟩ = some (.bool ho) := (hst27.blk 2 rfl).cell 4
    have hr33 : W27.cell? ⟨B6_1, 5, none⟩ = some (.slice A11_3 rs.length c11_3) := (hst27.blk 2 rfl).cell 5
    refine bodyPost_ret (v := .tuple #[.agg #[.int .i64 a, .int .i64 0, .int .i64 (-1), .int .i64 0, .bool ho, .slice A11_3 rs.length c11_3], .bool true]) (by simp [results, Tryd.results25, go_sem, hr28, hr29, hr30, hr31, hr32, hr33]) rfl ?_
    exact FzPost.of (by simp_all [fzA]) (by simp_all [fzX]) (by simp_all [fzX]) (by simp_all [fzX]) (by simp_all [fzX]) (hst27.own' 0 rfl) hst27.ext
  have hs25p := hs25
  simp only [zB] at hs25p
  refine wp_cond_false (show Act.eval _ _ = .bool false from (congrArg Value.bool hs25)) ?_
  refine wp_skip ?_
  refine then_normal ?_
  refine wp_seq ?_
  refine wp_region_T [0, 0, 1, 7] [[2], [], [0]] [[], [], [3]] [[], [], [0]] [.c 32 (.agg #[.int .i64 a, .int .i64 b, .int .i64 n1, .int .i64 n2, .bool ho, .slice A11_3 rs.length c11_3]), .k 33 (.bool false), .n, .k 7 (.bool false)] (fun ix σ β X => match ix with | 0 => True | 1 => True | 2 => X 3 = eB B6_1 27 #[.int .i64 a, .int .i64 b, .int .i64 n1, .int .i64 n2, .bool ho, .slice A11_3 rs.length c11_3] | _ => True) [1, 2, 3] [0, 2] [(7, 3, 1, 8), (24, 0, 2, 26)] hst24 ?_ ?_ ?_
  · exact fun ix _ _ _ _ _ _ hs hb hx h => match ix, h with
    | 2, h => by dsimp only at h ⊢; rw [← hx 3 rfl]; exact h
    | 0, _ | 1, _ | _ + 3, _ => trivial
  · refine ⟨?_, ?_, trivial⟩
    · exact s4 rfl (fun _ _ _ h => h) fun cx => run_loadB (n := 6) rfl (by kernel_rfl) (by kernel_rfl) (cx.out 3 rfl) (cx.blk (cx.init 2 _ rfl) rfl) (Nat.le_of_ble_eq_true rfl) rfl
    · refine sv_any rfl rfl fun ρ β W X cx => ?_
      exact dv_store (n := 6) rfl (cx.out 6 rfl) (cx.anc 0 rfl) (by kernel_rfl) (by kernel_rfl) (by kernel_rfl) cx (cx.init 0 _ rfl) rfl (Nat.le_of_ble_eq_true rfl) (by kernel_rfl) rfl rfl rfl (fun σ β' X' hs hb hx => hx)
  intro σ β X W34 hD hX hst34 fr hfr
  simp only [zM, exq 1 (hX 1 _ rfl), exq 2 (hX 2 _ rfl), exq 3 ((dTn (hD 2 lq)))] at hst34
  dsimp only [mgT, vals, List.take, List.drop, List.cons_append, List.nil_append] at hfr
  clear hX hD; subst hfr; clear σ β X
  refine then_normal ?_
  refine wp_ret ?_
  have hr35 : W34.cell? ⟨B6_1, 0, none⟩ = some (.int .i64 a) := (hst34.blk 2 rfl).cell 0
  have hr36 : W34.cell? ⟨B6_1, 1, none⟩ = some (.int .i64 b) := (hst34.blk 2 rfl).cell 1
  have hr37 : W34.cell? ⟨B6_1, 2, none⟩ = some (.int .i64 n1) := (hst34.blk 2 rfl).cell 2
  have hr38 : W34.cell? ⟨B6_1, 3, none⟩ = some (.int .i64 n2) := (hst34.blk 2 rfl).cell 3
  have hr39 : W34.cell? ⟨B6_1, 4, none⟩ = some (.bool ho) := (hst34.blk 2 rfl).cell 4
  have hr40 : W34.cell? ⟨B6_1, 5, none⟩ = some (.slice A11_3 rs.length c11_3) := (hst34.blk 2 rfl).cell 5
  refine bodyPost_ret (v := .tuple #[.agg #[.int .i64 a, .int .i64 b, .int .i64 n1, .int .i64 n2, .bool ho, .slice A11_3 rs.length c11_3], .bool false]) (by simp [results, Tryd.results25, go_sem, hr35, hr36, hr37, hr38, hr39, hr40]) rfl ?_
  exact FzPost.of (by simp_all [fzA]) (by simp_all [fzX]) (by simp_all [fzX]) (by simp_all [fzX]) (by simp_all [fzX]) (hst34.own' 0 rfl) hst34.ext

end Go.Proofs.YtfjpglohcppjeaaDoor

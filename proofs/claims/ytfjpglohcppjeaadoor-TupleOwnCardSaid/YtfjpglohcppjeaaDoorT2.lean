/- What a snapshot sees: the program's tuple functions over any states. -/
import Derived.Test.YtfjpglohcppjeaaDoorT1
namespace Go.Proofs.YtfjpglohcppjeaaDoor
open Go.RowKit
set_option linter.unusedVariables false

/-- the interface value .iface tt tv answers g -/
structure StOk (w : World) (tt : TypeId) (tv : Value) (g : Int → Int) : Prop where
  ex : ∃ f rv, Meth Tryd.prog tt tv "State" f rv ∧ callP Tryd.prog f = true ∧ ∀ W x, Ext w W → Calls Tryd.prog f #[rv, .int .i64 x] W (Ret (.int .i64 (g x)) W)
theorem StOk.ext {w W : World} {tt : TypeId} {tv : Value} {g : Int → Int} (h : StOk w tt tv g) (hx : Ext w W) : StOk W tt tv g := by
  obtain ⟨f, rv, h1, h2, h3⟩ := h.ex
  exact ⟨f, rv, h1, h2, fun W' x hx' => h3 W' x (hx.trans hx')⟩
section
variable (hi : Int) (ls own : List Int) (g : Int → Int)
def endedF (x : Int) : Bool := if x = 2 then true else onF x && beforeF x hi && !ls.contains x && g x == 2
def mineF (x : Int) : Bool := own.contains x && g x != 3
def didF (x : Int) : Bool := mineF own g x || endedF hi ls g x
def besF (x : Int) : Bool := onF x && !own.contains x && (g x == 1 || g x == 4 || g x == 2) && !endedF hi ls g x
def visF (a b : Int) : Bool := didF hi ls own g a && !(b != 0 && didF hi ls own g b)
def bes1F (a : Int) : Int := if besF hi ls own g a then a else 0
def bes2F (b : Int) : Int := if b != 0 && besF hi ls own g b then b else 0
def busyF (b : Int) : Int := if own.contains b || (g b != 1 && g b != 4) then 0 else b
def oldF (hz x : Int) : Bool := onF x && beforeF x hz && g x == 2
def deadF (hz a b : Int) : Bool := g a == 3 || oldF g hz b
def allF (hz a b : Int) : Bool := (a == 2 || oldF g hz a) && (b == 0 || g b == 3)
end

set_option maxRecDepth 100000 in
set_option maxHeartbeats 2000000 in
theorem ton_any (x : Int) (w : World) :
    Calls Tryd.prog 105 #[.int .i64 x] w (Ret (.bool (onF x)) w) := by
  go_enter Tryd.func105, Tryd.ntmps105
  have hst0 := St.start w
  refine wp_seq ?_
  refine wp_region_X [0] [] [] [] (fun ix σ β X => match ix with | 0 => σ 2 = .bool false | _ => True) [] [2] hst0 ?_ ?_ ?_
  · exact fun ix _ _ _ _ _ _ hs hb hx h => match ix, h with
    | 0, h => (hs _ rfl).symm.trans h
    | _ + 1, _ => trivial
  · refine ⟨trivial, ?_⟩
    · exact s0 rfl fun cx => run_assign' rfl (cx.sees.const _)
  intro σ β X W1 hD hX hst1 fr hfr
  simp only [zM] at hst1
  simp only [zP, ed 2 (hD 0 lq)] at hfr
  clear hX hD; subst hfr; clear σ β X
  refine then_normal ?_
  refine wp_seq ?_
  rcases Bool.eq_false_or_eq_true (decide (3 ≤ x)) with hs3 | hs3
  · skip
    have hs3p : 3 ≤ x := by simpa using hs3
    refine wp_region_X [0, 1, 3, 7, 15, 31, 63] [] [] [] (fun ix σ β X => match ix with | 0 => σ 3 = .int .i64 x | 1 => σ 4 = .bool (decide (3 ≤ x)) | 2 => σ 5 = .bool true | 3 => σ 6 = .int .i64 x | 4 => σ 7 = .bool (decide (x < 128)) | 5 => σ 8 = .bool (decide (x < 128)) | 6 => σ 2 = .bool (decide (x < 128)) | _ => True) [] [3, 4, 5, 6, 7, 8, 2] hst1 ?_ ?_ ?_
    · exact fun ix _ _ _ _ _ _ hs hb hx h => match ix, h with
      | 0, h | 1, h | 2, h | 3, h | 4, h | 5, h | 6, h => (hs _ rfl).symm.trans h
      | _ + 7, _ => trivial
    · refine ⟨⟨⟨⟨⟨⟨⟨trivial, ?_⟩, ?_⟩, ?_⟩, ?_⟩, ?_⟩, ?_⟩, ?_⟩
      · exact mo rfl
      · exact s0 rfl fun cx => run_bin rfl (cx.anc 0 rfl) (cx.sees.const _) rfl
      · exact s0 rfl fun cx => run_move' rfl (Eq.trans (cx.anc 1 rfl) (congrArg Value.bool hs3))
      · exact s1 rfl (fun cx => (cx.anc 2 rfl)) fun cx => run_move' rfl (cx.out 0 rfl)
      · exact s1 rfl (fun cx => (cx.anc 2 rfl)) fun cx => run_bin rfl (cx.anc 3 rfl) (cx.sees.const _) rfl
      · exact s0 rfl fun cx => run_pick_t rfl (cx.anc 2 rfl) (cx.anc 4 rfl)
      · exact s0 rfl fun cx => run_assign' rfl (cx.anc 5 rfl)
    intro σ β X W4 hD hX hst4 fr hfr
    simp only [zM] at hst4
    simp only [zP, ed 3 (hD 0 lq), ed 4 (hD 1 lq), ed 5 (hD 2 lq), ed 6 (hD 3 lq), ed 7 (hD 4 lq), ed 8 (hD 5 lq), ed 2 (hD 6 lq)] at hfr
    clear hX hD; subst hfr; clear σ β X
    refine then_normal ?_
    refine wp_ret ?_
    refine bodyPost_ret (v := .bool (decide (x < 128))) (by simp [results, Tryd.results105, go_sem]) rfl ?_
    exact Ret.bool (by simp [onF, *]) hst4.ext
  have hs3p : ¬ (3 ≤ x) := by simpa using hs3
  refine wp_region_X [0, 1, 3, 7, 15, 31, 63] [] [] [] (fun ix σ β X => match ix with | 0 => σ 3 = .int .i64 x | 1 => σ 4 = .bool (decide (3 ≤ x)) | 2 => σ 5 = .bool false | 3 => σ 6 = undef | 4 => σ 7 = undef | 5 => σ 8 = .bool false | 6 => σ 2 = .bool false | _ => True) [] [3, 4, 5, 6, 7, 8, 2] hst1 ?_ ?_ ?_
  · exact fun ix _ _ _ _ _ _ hs hb hx h => match ix, h with
    | 0, h | 1, h | 2, h | 3, h | 4, h | 5, h | 6, h => (hs _ rfl).symm.trans h
    | _ + 7, _ => trivial
  · refine ⟨⟨⟨⟨⟨⟨⟨trivial, ?_⟩, ?_⟩, ?_⟩, ?_⟩, ?_⟩, ?_⟩, ?_⟩
    · exact mo rfl
    · exact s0 rfl fun cx => run_bin rfl (cx.anc 0 rfl) (cx.sees.const _) rfl
    · exact s0 rfl fun cx => run_move' rfl (Eq.trans (cx.anc 1 rfl) (congrArg Value.bool hs3))
    · exact s2 rfl fun cx => (cx.anc 2 rfl)
    · exact s2 rfl fun cx => (cx.anc 2 rfl)
    · exact s0 rfl fun cx => run_pick_f rfl (cx.anc 2 rfl) (cx.sees.const _)
    · exact s0 rfl fun cx => run_assign' rfl (cx.anc 5 rfl)
  intro σ β X W5 hD hX hst5 fr hfr
  simp only [zM] at hst5
  simp only [zP, ed 3 (hD 0 lq), ed 4 (hD 1 lq), ed 5 (hD 2 lq), ed 6 (hD 3 lq), ed 7 (hD 4 lq), ed 8 (hD 5 lq), ed 2 (hD 6 lq)] at hfr
  clear hX hD; subst hfr; clear σ β X
  refine then_normal ?_
  refine wp_ret ?_
  refine bodyPost_ret (v := .bool false) (by simp [results, Tryd.results105, go_sem]) rfl ?_
  exact Ret.bool (by simp [onF, *]) hst5.ext

set_option maxRecDepth 100000 in
set_option maxHeartbeats 2000000 in
theorem cended_any (hi : Int) (LA : Option Addr) (lc : Nat) (ls : List Int) (tt : TypeId) (tv : Value) (g : Int → Int) (x : Int) (w : World) (hL : At w LA (ls.map (Value.int .i64))) (hll : ls.length ≤ 100000) (hS : StOk w tt tv g) :
    Calls Tryd.prog 36 #[.agg #[.int .i64 hi, .slice LA ls.length lc], .int .i64 x, .iface tt (tv)] w (Ret (.bool (endedF hi ls g x)) w) := by
  obtain ⟨f0, rv, hM, hC, hG⟩ := hS.ex
  go_enter Tryd.func36, Tryd.ntmps36
  have hst0 := St.start w
  refine wp_seq ?_
  refine wp_region_X [0, 0] [] [[0]] [] (fun ix σ β X => match ix with | 0 => σ 3 = .pointer (some ⟨(pb (β 3)), 0, none⟩) ∧ X 0 = eB (pb (β 3)) 41 #[.int .i64 hi, .slice LA ls.length lc] | 1 => σ 6 = .bool false | _ => True) [0] [3, 6] hst0 ?_ ?_ ?_
  · exact fun ix _ _ _ _ _ _ hs hb hx h => match ix, h with
    | 1, h => (hs _ rfl).symm.trans h
    | 0, h => by dsimp only at h ⊢; rw [← hs 3 rfl, ← hb 3 rfl, ← hx 0 rfl]; exact h
    | _ + 2, _ => trivial
  · refine ⟨⟨trivial, ?_⟩, ?_⟩
    · refine sv_any rfl rfl fun ρ β W X cx => ?_
      exact dv_box (cs := #[.int .i64 hi, .slice LA ls.length lc]) rfl (cx.out 0 rfl) rfl rfl rfl (fun σ β' X' hs hb hv hx => ⟨hv, hx⟩)
    · exact s0 rfl fun cx => run_assign' rfl (cx.sees.const _)
  intro σ β X W1 hD hX hst1 fr hfr
  obtain ⟨B3_1, hu_B3_1⟩ : ∃ z, pb (β 3) = z := ⟨_, rfl⟩
  simp only [zM, exq 0 ((hD 0 lq).2), hu_B3_1] at hst1
  simp only [zP, ed 3 ((hD 0 lq).1), ed 6 (hD 1 lq), hu_B3_1] at hfr
  clear hX hD hu_B3_1; subst hfr; clear σ β X
  refine then_normal ?_
  refine wp_seq ?_
  refine wp_seq ?_
  refine wp_region_X [0, 1] [] [] [] (fun ix σ β X => match ix with | 0 => σ 7 = .int .i64 x | 1 => σ 8 = .bool (x == 2) | _ => True) [0] [7, 8] hst1 ?_ ?_ ?_
  · exact fun ix _ _ _ _ _ _ hs hb hx h => match ix, h with
    | 0, h | 1, h => (hs _ rfl).symm.trans h
    | _ + 2, _ => trivial
  · refine ⟨⟨trivial, ?_⟩, ?_⟩
    · exact mo rfl
    · exact s0 rfl fun cx => run_bin rfl (cx.anc 0 rfl) (cx.sees.const _) rfl
  intro σ β X W2 hD hX hst2 fr hfr
  simp only [zM, exq 0 (hX 0 _ rfl)] at hst2
  simp only [zP, ed 7 (hD 0 lq), ed 8 (hD 1 lq)] at hfr
  clear hX hD; subst hfr; clear σ β X
  refine then_normal ?_
  rcases Bool.eq_false_or_eq_true (x == 2) with hs3 | hs3
  · skip
    have hs3p : x = 2 := by simpa using hs3
    refine wp_cond_true (show Act.eval _ _ = .bool true from (congrArg Value.bool hs3)) ?_
    refine wp_seq ?_
    refine wp_region_X [0] [] [] [] (fun ix σ β X => match ix with | 0 => σ 6 = .bool true | _ => True) [0] [6] hst2 ?_ ?_ ?_
    · exact fun ix _ _ _ _ _ _ hs hb hx h => match ix, h with
      | 0, h => (hs _ rfl).symm.trans h
      | _ + 1, _ => trivial
    · refine ⟨trivial, ?_⟩
      · exact s0 rfl fun cx => run_assign' rfl (cx.sees.const _)
    intro σ β X W4 hD hX hst4 fr hfr
    simp only [zM, exq 0 (hX 0 _ rfl)] at hst4
    simp only [zP, ed 6 (hD 0 lq)] at hfr
    clear hX hD; subst hfr; clear σ β X
    refine then_normal ?_
    refine wp_ret ?_
    refine then_ret ?_
    refine bodyPost_ret (v := .bool true) (by simp [results, Tryd.results36, go_sem]) rfl ?_
    exact Ret.bool (by simp_all [endedF]) hst4.ext
  have hs3p : x ≠ 2 := by simpa using hs3
  refine wp_cond_false (show Act.eval _ _ = .bool false from (congrArg Value.bool hs3)) ?_
  refine wp_skip ?_
  refine then_normal ?_
  refine wp_seq ?_
  rcases Bool.eq_false_or_eq_true (onF x) with hs6 | hs6
  · skip
    rcases Bool.eq_false_or_eq_true (beforeF x hi) with hs8 | hs8
    · skip
      rcases Bool.eq_false_or_eq_true (ls.contains x) with hs10 | hs10
      · skip
        refine wp_region_X [0, 1, 3, 7, 7, 23, 63, 127, 255, 511, 1023, 511, 4095, 8191, 16383, 32767, 65535, 65535, 262143, 524287, 1048575, 2097151] [[], [], [], [], [], [0], [], [], [], [], [0]] [] [] (fun ix σ β X => match ix with | 0 => σ 9 = .int .i64 x | 1 => σ 10 = .bool (onF x) | 2 => σ 11 = .bool true | 3 => σ 12 = .int .i64 x | 4 => σ 13 = .pointer (some ⟨B3_1, 0, none⟩) | 5 => σ 14 = .int .i64 hi | 6 => σ 15 = .bool (beforeF x hi) | 7 => σ 16 = .bool true | 8 => σ 17 = .bool true | 9 => σ 18 = .pointer (some ⟨B3_1, 1, none⟩) | 10 => σ 19 = .slice LA ls.length lc | 11 => σ 20 = .int .i64 x | 12 => σ 21 = .bool (ls.contains x) | 13 => σ 22 = .bool false | 14 => σ 23 = .bool false | 15 => σ 24 = .bool false | 16 => σ 25 = undef | 17 => σ 26 = undef | 18 => σ 27 = undef | 19 => σ 28 = undef | 20 => σ 29 = .bool false | 21 => σ 6 = .bool false | _ => True) [0] [9, 10, 11, 12, 13, 14, 15, 16, 17, 18, 19, 20, 21, 22, 23, 24, 25, 26, 27, 28, 29, 6] hst2 ?_ ?_ ?_
        · exact fun ix _ _ _ _ _ _ hs hb hx h => match ix, h with
          | 0, h | 1, h | 2, h | 3, h | 4, h | 5, h | 6, h | 7, h | 8, h | 9, h | 10, h | 11, h | 12, h | 13, h | 14, h | 15, h | 16, h | 17, h | 18, h | 19, h | 20, h | 21, h => (hs _ rfl).symm.trans h
          | _ + 22, _ => trivial
        · refine ⟨⟨⟨⟨⟨⟨⟨⟨⟨⟨⟨⟨⟨⟨⟨⟨⟨⟨⟨⟨⟨⟨trivial, ?_⟩, ?_⟩, ?_⟩, ?_⟩, ?_⟩, ?_⟩, ?_⟩, ?_⟩, ?_⟩, ?_⟩, ?_⟩, ?_⟩, ?_⟩, ?_⟩, ?_⟩, ?_⟩, ?_⟩, ?_⟩, ?_⟩, ?_⟩, ?_⟩, ?_⟩
          · exact mo rfl
          · exact sv_call rfl rfl rfl rfl rfl (fun _ _ _ h => h) fun ρ β W X cx => ⟨_, _, run_callF (args := #[.int .i64 x]) rfl cx.sees rfl (by kernel_rfl) (map1 (cx.anc 0 rfl)), con_any x _⟩
          · exact s0 rfl fun cx => run_move' rfl (Eq.trans (cx.anc 1 rfl) (congrArg Value.bool hs6))
          · exact s1 rfl (fun cx => (cx.anc 2 rfl)) fun cx => run_move' rfl (cx.out 1 rfl)
          · exact s1 rfl (fun cx => (cx.anc 2 rfl)) fun cx => run_fieldAddr' (k := 0) (n := 0) rfl (by kernel_rfl) (cx.out 3 rfl) rfl
          · exact s1 rfl (fun cx => (cx.anc 2 rfl)) fun cx => run_load1 rfl (by kernel_rfl) (cx.anc 4 rfl) ((cx.blk (cx.init 0 _ rfl) rfl).cell 0)
          · exact sv_call_on rfl rfl rfl rfl rfl rfl (fun _ _ _ h => h) (fun _ _ _ _ cx => (cx.anc 2 rfl)) fun ρ β W X cx => ⟨_, _, run_callF (args := #[.int .i64 x, .int .i64 hi]) rfl cx.sees rfl (by kernel_rfl) (map2 (cx.anc 3 rfl) (cx.anc 5 rfl)), cbefore_any x hi _⟩
          · exact s0 rfl fun cx => run_pick_t rfl (cx.anc 2 rfl) (Eq.trans (cx.anc 6 rfl) (congrArg Value.bool hs8))
          · exact s0 rfl fun cx => run_move' rfl (cx.anc 7 rfl)
          · exact s1 rfl (fun cx => (cx.anc 8 rfl)) fun cx => run_fieldAddr' (k := 1) (n := 1) rfl (by kernel_rfl) (cx.out 3 rfl) rfl
          · exact s1 rfl (fun cx => (cx.anc 8 rfl)) fun cx => run_load1 rfl (by kernel_rfl) (cx.anc 9 rfl) ((cx.blk (cx.init 0 _ rfl) rfl).cell 1)
          · exact s1 rfl (fun cx => (cx.anc 8 rfl)) fun cx => run_move' rfl (cx.out 1 rfl)
          · exact sv_call_on rfl rfl rfl rfl rfl rfl (fun _ _ _ h => h) (fun _ _ _ _ cx => (cx.anc 8 rfl)) fun ρ β W X cx => ⟨_, _, run_callF (args := #[.slice LA ls.length lc, .int .i64 x]) rfl cx.sees rfl (by kernel_rfl) (map2 (cx.anc 10 rfl) (cx.anc 11 rfl)), icontains_any _ _ ls x _ (hL.ext cx.upd.to_ext) (by assumption)⟩
          · exact s1 rfl (fun cx => (cx.anc 8 rfl)) fun cx => run_not rfl (Eq.trans (cx.anc 12 rfl) (congrArg Value.bool hs10)) rfl
          · exact s0 rfl fun cx => run_pick_t rfl (cx.anc 8 rfl) (cx.anc 13 rfl)
          · exact s0 rfl fun cx => run_move' rfl (cx.anc 14 rfl)
          · exact s2 rfl fun cx => (cx.anc 15 rfl)
          · exact s2 rfl fun cx => (cx.anc 15 rfl)
          · exact s2 rfl fun cx => (cx.anc 15 rfl)
          · exact s2 rfl fun cx => (cx.anc 15 rfl)
          · exact s0 rfl fun cx => run_pick_f rfl (cx.anc 15 rfl) (cx.sees.const _)
          · exact s0 rfl fun cx => run_assign' rfl (cx.anc 20 rfl)
        intro σ β X W11 hD hX hst11 fr hfr
        simp only [zM, exq 0 (hX 0 _ rfl)] at hst11
        simp only [zP, ed 9 (hD 0 lq), ed 10 (hD 1 lq), ed 11 (hD 2 lq), ed 12 (hD 3 lq), ed 13 (hD 4 lq), ed 14 (hD 5 lq), ed 15 (hD 6 lq), ed 16 (hD 7 lq), ed 17 (hD 8 lq), ed 18 (hD 9 lq), ed 19 (hD 10 lq), ed 20 (hD 11 lq), ed 21 (hD 12 lq), ed 22 (hD 13 lq), ed 23 (hD 14 lq), ed 24 (hD 15 lq), ed 25 (hD 16 lq), ed 26 (hD 17 lq), ed 27 (hD 18 lq), ed 28 (hD 19 lq), ed 29 (hD 20 lq), ed 6 (hD 21 lq)] at hfr
        clear hX hD; subst hfr; clear σ β X
        refine then_normal ?_
        refine wp_ret ?_
        refine bodyPost_ret (v := .bool false) (by simp [results, Tryd.results36, go_sem]) rfl ?_
        exact Ret.bool (by simp_all [endedF]) hst11.ext
      refine wp_region_X [0, 1, 3, 7, 7, 23, 63, 127, 255, 511, 1023, 511, 4095, 8191, 16383, 32767, 65535, 65535, 262143, 524287, 1048575, 2097151] [[], [], [], [], [], [0], [], [], [], [], [0]] [] [] (fun ix σ β X => match ix with | 0 => σ 9 = .int .i64 x | 1 => σ 10 = .bool (onF x) | 2 => σ 11 = .bool true | 3 => σ 12 = .int .i64 x | 4 => σ 13 = .pointer (some ⟨B3_1, 0, none⟩) | 5 => σ 14 = .int .i64 hi | 6 => σ 15 = .bool (beforeF x hi) | 7 => σ 16 = .bool true | 8 => σ 17 = .bool true | 9 => σ 18 = .pointer (some ⟨B3_1, 1, none⟩) | 10 => σ 19 = .slice LA ls.length lc | 11 => σ 20 = .int .i64 x | 12 => σ 21 = .bool (ls.contains x) | 13 => σ 22 = .bool true | 14 => σ 23 = .bool true | 15 => σ 24 = .bool true | 16 => σ 25 = .iface tt (tv) | 17 => σ 26 = .int .i64 x | 18 => σ 27 = .int .i64 (g x) | 19 => σ 28 = .bool ((g x) == 2) | 20 => σ 29 = .bool ((g x) == 2) | 21 => σ 6 = .bool ((g x) == 2) | _ => True) [0] [9, 10, 11, 12, 13, 14, 15, 16, 17, 18, 19, 20, 21, 22, 23, 24, 25, 26, 27, 28, 29, 6] hst2 ?_ ?_ ?_
      · exact fun ix _ _ _ _ _ _ hs hb hx h => match ix, h with
        | 0, h | 1, h | 2, h | 3, h | 4, h | 5, h | 6, h | 7, h | 8, h | 9, h | 10, h | 11, h | 12, h | 13, h | 14, h | 15, h | 16, h | 17, h | 18, h | 19, h | 20, h | 21, h => (hs _ rfl).symm.trans h
        | _ + 22, _ => trivial
      · refine ⟨⟨⟨⟨⟨⟨⟨⟨⟨⟨⟨⟨⟨⟨⟨⟨⟨⟨⟨⟨⟨⟨trivial, ?_⟩, ?_⟩, ?_⟩, ?_⟩, ?_⟩, ?_⟩, ?_⟩, ?_⟩, ?_⟩, ?_⟩, ?_⟩, ?_⟩, ?_⟩, ?_⟩, ?_⟩, ?_⟩, ?_⟩, ?_⟩, ?_⟩, ?_⟩, ?_⟩, ?_⟩
        · exact mo rfl
        · exact sv_call rfl rfl rfl rfl rfl (fun _ _ _ h => h) fun ρ β W X cx => ⟨_, _, run_callF (args := #[.int .i64 x]) rfl cx.sees rfl (by kernel_rfl) (map1 (cx.anc 0 rfl)), con_any x _⟩
        · exact s0 rfl fun cx => run_move' rfl (Eq.trans (cx.anc 1 rfl) (congrArg Value.bool hs6))
        · exact s1 rfl (fun cx => (cx.anc 2 rfl)) fun cx => run_move' rfl (cx.out 1 rfl)
        · exact s1 rfl (fun cx => (cx.anc 2 rfl)) fun cx => run_fieldAddr' (k := 0) (n := 0) rfl (by kernel_rfl) (cx.out 3 rfl) rfl
        · exact s1 rfl (fun cx => (cx.anc 2 rfl)) fun cx => run_load1 rfl (by kernel_rfl) (cx.anc 4 rfl) ((cx.blk (cx.init 0 _ rfl) rfl).cell 0)
        · exact sv_call_on rfl rfl rfl rfl rfl rfl (fun _ _ _ h => h) (fun _ _ _ _ cx => (cx.anc 2 rfl)) fun ρ β W X cx => ⟨_, _, run_callF (args := #[.int .i64 x, .int .i64 hi]) rfl cx.sees rfl (by kernel_rfl) (map2 (cx.anc 3 rfl) (cx.anc 5 rfl)), cbefore_any x hi _⟩
        · exact s0 rfl fun cx => run_pick_t rfl (cx.anc 2 rfl) (Eq.trans (cx.anc 6 rfl) (congrArg Value.bool hs8))
        · exact s0 rfl fun cx => run_move' rfl (cx.anc 7 rfl)
        · exact s1 rfl (fun cx => (cx.anc 8 rfl)) fun cx => run_fieldAddr' (k := 1) (n := 1) rfl (by kernel_rfl) (cx.out 3 rfl) rfl
        · exact s1 rfl (fun cx => (cx.anc 8 rfl)) fun cx => run_load1 rfl (by kernel_rfl) (cx.anc 9 rfl) ((cx.blk (cx.init 0 _ rfl) rfl).cell 1)
        · exact s1 rfl (fun cx => (cx.anc 8 rfl)) fun cx => run_move' rfl (cx.out 1 rfl)
        · exact sv_call_on rfl rfl rfl rfl rfl rfl (fun _ _ _ h => h) (fun _ _ _ _ cx => (cx.anc 8 rfl)) fun ρ β W X cx => ⟨_, _, run_callF (args := #[.slice LA ls.length lc, .int .i64 x]) rfl cx.sees rfl (by kernel_rfl) (map2 (cx.anc 10 rfl) (cx.anc 11 rfl)), icontains_any _ _ ls x _ (hL.ext cx.upd.to_ext) (by assumption)⟩
        · exact s1 rfl (fun cx => (cx.anc 8 rfl)) fun cx => run_not rfl (Eq.trans (cx.anc 12 rfl) (congrArg Value.bool hs10)) rfl
        · exact s0 rfl fun cx => run_pick_t rfl (cx.anc 8 rfl) (cx.anc 13 rfl)
        · exact s0 rfl fun cx => run_move' rfl (cx.anc 14 rfl)
        · exact s1 rfl (fun cx => (cx.anc 15 rfl)) fun cx => run_move' rfl (cx.out 2 rfl)
        · exact s1 rfl (fun cx => (cx.anc 15 rfl)) fun cx => run_move' rfl (cx.out 1 rfl)
        · exact sv_call_on rfl rfl rfl rfl rfl rfl (fun _ _ _ h => h) (fun _ _ _ _ cx => (cx.anc 15 rfl)) fun ρ β W X cx => ⟨_, _, run_invoke (args := #[.int .i64 x]) (args' := #[rv, .int .i64 x]) rfl rfl (cx.anc 16 rfl) hM hC (map1 (cx.anc 17 rfl)) rfl, hG _ x cx.upd.to_ext⟩
        · exact s1 rfl (fun cx => (cx.anc 15 rfl)) fun cx => run_bin rfl (cx.anc 18 rfl) (cx.sees.const _) rfl
        · exact s0 rfl fun cx => run_pick_t rfl (cx.anc 15 rfl) (cx.anc 19 rfl)
        · exact s0 rfl fun cx => run_assign' rfl (cx.anc 20 rfl)
      intro σ β X W12 hD hX hst12 fr hfr
      simp only [zM, exq 0 (hX 0 _ rfl)] at hst12
      simp only [zP, ed 9 (hD 0 lq), ed 10 (hD 1 lq), ed 11 (hD 2 lq), ed 12 (hD 3 lq), ed 13 (hD 4 lq), ed 14 (hD 5 lq), ed 15 (hD 6 lq), ed 16 (hD 7 lq), ed 17 (hD 8 lq), ed 18 (hD 9 lq), ed 19 (hD 10 lq), ed 20 (hD 11 lq), ed 21 (hD 12 lq), ed 22 (hD 13 lq), ed 23 (hD 14 lq), ed 24 (hD 15 lq), ed 25 (hD 16 lq), ed 26 (hD 17 lq), ed 27 (hD 18 lq), ed 28 (hD 19 lq), ed 29 (hD 20 lq), ed 6 (hD 21 lq)] at hfr
      clear hX hD; subst hfr; clear σ β X
      refine then_normal ?_
      refine wp_ret ?_
      refine bodyPost_ret (v := .bool ((g x) == 2)) (by simp [results, Tryd.results36, go_sem]) rfl ?_
      exact Ret.bool (by simp_all [endedF]) hst12.ext
    refine wp_region_X [0, 1, 3, 7, 7, 23, 63, 127, 255, 511, 1023, 511, 4095, 8191, 16383, 32767, 65535, 65535, 262143, 524287, 1048575, 2097151] [[], [], [], [], [], [0]] [] [] (fun ix σ β X => match ix with | 0 => σ 9 = .int .i64 x | 1 => σ 10 = .bool (onF x) | 2 => σ 11 = .bool true | 3 => σ 12 = .int .i64 x | 4 => σ 13 = .pointer (some ⟨B3_1, 0, none⟩) | 5 => σ 14 = .int .i64 hi | 6 => σ 15 = .bool (beforeF x hi) | 7 => σ 16 = .bool false | 8 => σ 17 = .bool false | 9 => σ 18 = undef | 10 => σ 19 = undef | 11 => σ 20 = undef | 12 => σ 21 = undef | 13 => σ 22 = undef | 14 => σ 23 = .bool false | 15 => σ 24 = .bool false | 16 => σ 25 = undef | 17 => σ 26 = undef | 18 => σ 27 = undef | 19 => σ 28 = undef | 20 => σ 29 = .bool false | 21 => σ 6 = .bool false | _ => True) [0] [9, 10, 11, 12, 13, 14, 15, 16, 17, 18, 19, 20, 21, 22, 23, 24, 25, 26, 27, 28, 29, 6] hst2 ?_ ?_ ?_
    · exact fun ix _ _ _ _ _ _ hs hb hx h => match ix, h with
      | 0, h | 1, h | 2, h | 3, h | 4, h | 5, h | 6, h | 7, h | 8, h | 9, h | 10, h | 11, h | 12, h | 13, h | 14, h | 15, h | 16, h | 17, h | 18, h | 19, h | 20, h | 21, h => (hs _ rfl).symm.trans h
      | _ + 22, _ => trivial
    · refine ⟨⟨⟨⟨⟨⟨⟨⟨⟨⟨⟨⟨⟨⟨⟨⟨⟨⟨⟨⟨⟨⟨trivial, ?_⟩, ?_⟩, ?_⟩, ?_⟩, ?_⟩, ?_⟩, ?_⟩, ?_⟩, ?_⟩, ?_⟩, ?_⟩, ?_⟩, ?_⟩, ?_⟩, ?_⟩, ?_⟩, ?_⟩, ?_⟩, ?_⟩, ?_⟩, ?_⟩, ?_⟩
      · exact mo rfl
      · exact sv_call rfl rfl rfl rfl rfl (fun _ _ _ h => h) fun ρ β W X cx => ⟨_, _, run_callF (args := #[.int .i64 x]) rfl cx.sees rfl (by kernel_rfl) (map1 (cx.anc 0 rfl)), con_any x _⟩
      · exact s0 rfl fun cx => run_move' rfl (Eq.trans (cx.anc 1 rfl) (congrArg Value.bool hs6))
      · exact s1 rfl (fun cx => (cx.anc 2 rfl)) fun cx => run_move' rfl (cx.out 1 rfl)
      · exact s1 rfl (fun cx => (cx.anc 2 rfl)) fun cx => run_fieldAddr' (k := 0) (n := 0) rfl (by kernel_rfl) (cx.out 3 rfl) rfl
      · exact s1 rfl (fun cx => (cx.anc 2 rfl)) fun cx => run_load1 rfl (by kernel_rfl) (cx.anc 4 rfl) ((cx.blk (cx.init 0 _ rfl) rfl).cell 0)
      · exact sv_call_on rfl rfl rfl rfl rfl rfl (fun _ _ _ h => h) (fun _ _ _ _ cx => (cx.anc 2 rfl)) fun ρ β W X cx => ⟨_, _, run_callF (args := #[.int .i64 x, .int .i64 hi]) rfl cx.sees rfl (by kernel_rfl) (map2 (cx.anc 3 rfl) (cx.anc 5 rfl)), cbefore_any x hi _⟩
      · exact s0 rfl fun cx => run_pick_t rfl (cx.anc 2 rfl) (Eq.trans (cx.anc 6 rfl) (congrArg Value.bool hs8))
      · exact s0 rfl fun cx => run_move' rfl (cx.anc 7 rfl)
      · exact s2 rfl fun cx => (cx.anc 8 rfl)
      · exact s2 rfl fun cx => (cx.anc 8 rfl)
      · exact s2 rfl fun cx => (cx.anc 8 rfl)
      · exact s2 rfl fun cx => (cx.anc 8 rfl)
      · exact s2 rfl fun cx => (cx.anc 8 rfl)
      · exact s0 rfl fun cx => run_pick_f rfl (cx.anc 8 rfl) (cx.sees.const _)
      · exact s0 rfl fun cx => run_move' rfl (cx.anc 14 rfl)
      · exact s2 rfl fun cx => (cx.anc 15 rfl)
      · exact s2 rfl fun cx => (cx.anc 15 rfl)
      · exact s2 rfl fun cx => (cx.anc 15 rfl)
      · exact s2 rfl fun cx => (cx.anc 15 rfl)
      · exact s0 rfl fun cx => run_pick_f rfl (cx.anc 15 rfl) (cx.sees.const _)
      · exact s0 rfl fun cx => run_assign' rfl (cx.anc 20 rfl)
    intro σ β X W13 hD hX hst13 fr hfr
    simp only [zM, exq 0 (hX 0 _ rfl)] at hst13
    simp only [zP, ed 9 (hD 0 lq), ed 10 (hD 1 lq), ed 11 (hD 2 lq), ed 12 (hD 3 lq), ed 13 (hD 4 lq), ed 14 (hD 5 lq), ed 15 (hD 6 lq), ed 16 (hD 7 lq), ed 17 (hD 8 lq), ed 18 (hD 9 lq), ed 19 (hD 10 lq), ed 20 (hD 11 lq), ed 21 (hD 12 lq), ed 22 (hD 13 lq), ed 23 (hD 14 lq), ed 24 (hD 15 lq), ed 25 (hD 16 lq), ed 26 (hD 17 lq), ed 27 (hD 18 lq), ed 28 (hD 19 lq), ed 29 (hD 20 lq), ed 6 (hD 21 lq)] at hfr
    clear hX hD; subst hfr; clear σ β X
    refine then_normal ?_
    refine wp_ret ?_
    refine bodyPost_ret (v := .bool false) (by simp [results, Tryd.results36, go_sem]) rfl ?_
    exact Ret.bool (by simp_all [endedF]) hst13.ext
  refine wp_region_X [0, 1, 3, 7, 7, 23, 63, 127, 255, 511, 1023, 511, 4095, 8191, 16383, 32767, 65535, 65535, 262143, 524287, 1048575, 2097151] [] [] [] (fun ix σ β X => match ix with | 0 => σ 9 = .int .i64 x | 1 => σ 10 = .bool (onF x) | 2 => σ 11 = .bool false | 3 => σ 12 = undef | 4 => σ 13 = undef | 5 => σ 14 = undef | 6 => σ 15 = undef | 7 => σ 16 = .bool false | 8 => σ 17 = .bool false | 9 => σ 18 = undef | 10 => σ 19 = undef | 11 => σ 20 = undef | 12 => σ 21 = undef | 13 => σ 22 = undef | 14 => σ 23 = .bool false | 15 => σ 24 = .bool false | 16 => σ 25 = undef | 17 => σ 26 = undef | 18 => σ 27 = undef | 19 => σ 28 = undef | 20 => σ 29 = .bool false | 21 => σ 6 = .bool false | _ => True) [0] [9, 10, 11, 12, 13, 14, 15, 16, 17, 18, 19, 20, 21, 22, 23, 24, 25, 26, 27, 28, 29, 6] hst2 ?_ ?_ ?_
  · exact fun ix _ _ _ _ _ _ hs hb hx h => match ix, h with
    | 0, h | 1, h | 2, h | 3, h | 4, h | 5, h | 6, h | 7, h | 8, h | 9, h | 10, h | 11, h | 12, h | 13, h | 14, h | 15, h | 16, h | 17, h | 18, h | 19, h | 20, h | 21, h => (hs _ rfl).symm.trans h
    | _ + 22, _ => trivial
  · refine ⟨⟨⟨⟨⟨⟨⟨⟨⟨⟨⟨⟨⟨⟨⟨⟨⟨⟨⟨⟨⟨⟨trivial, ?_⟩, ?_⟩, ?_⟩, ?_⟩, ?_⟩, ?_⟩, ?_⟩, ?_⟩, ?_⟩, ?_⟩, ?_⟩, ?_⟩, ?_⟩, ?_⟩, ?_⟩, ?_⟩, ?_⟩, ?_⟩, ?_⟩, ?_⟩, ?_⟩, ?_⟩
    · exact mo rfl
    · exact sv_call rfl rfl rfl rfl rfl (fun _ _ _ h => h) fun ρ β W X cx => ⟨_, _, run_callF (args := #[.int .i64 x]) rfl cx.sees rfl (by kernel_rfl) (map1 (cx.anc 0 rfl)), con_any x _⟩
    · exact s0 rfl fun cx => run_move' rfl (Eq.trans (cx.anc 1 rfl) (congrArg Value.bool hs6))
    · exact s2 rfl fun cx => (cx.anc 2 rfl)
    · exact s2 rfl fun cx => (cx.anc 2 rfl)
    · exact s2 rfl fun cx => (cx.anc 2 rfl)
    · exact s2 rfl fun cx => (cx.anc 2 rfl)
    · exact s0 rfl fun cx => run_pick_f rfl (cx.anc 2 rfl) (cx.sees.const _)
    · exact s0 rfl fun cx => run_move' rfl (cx.anc 7 rfl)
    · exact s2 rfl fun cx => (cx.anc 8 rfl)
    · exact s2 rfl fun cx => (cx.anc 8 rfl)
    · exact s2 rfl fun cx => (cx.anc 8 rfl)
    · exact s2 rfl fun cx => (cx.anc 8 rfl)
    · exact s2 rfl fun cx => (cx.anc 8 rfl)
    · exact s0 rfl fun cx => run_pick_f rfl (cx.anc 8 rfl) (cx.sees.const _)
    · exact s0 rfl fun cx => run_move' rfl (cx.anc 14 rfl)
    · exact s2 rfl fun cx => (cx.anc 15 rfl)
    · exact s2 rfl fun cx => (cx.anc 15 rfl)
    · exact s2 rfl fun cx => (cx.anc 15 rfl)
    · exact s2 rfl fun cx => (cx.anc 15 rfl)
    · exact s0 rfl fun cx => run_pick_f rfl (cx.anc 15 rfl) (cx.sees.const _)
    · exact s0 rfl fun cx => run_assign' rfl (cx.anc 20 rfl)
  intro σ β X W14 hD hX hst14 fr hfr
  simp only [zM, exq 0 (hX 0 _ rfl)] at hst14
  simp only [zP, ed 9 (hD 0 lq), ed 10 (hD 1 lq), ed 11 (hD 2 lq), ed 12 (hD 3 lq), ed 13 (hD 4 lq), ed 14 (hD 5 lq), ed 15 (hD 6 lq), ed 16 (hD 7 lq), ed 17 (hD 8 lq), ed 18 (hD 9 lq), ed 19 (hD 10 lq), ed 20 (hD 11 lq), ed 21 (hD 12 lq), ed 22 (hD 13 lq), ed 23 (hD 14 lq), ed 24 (hD 15 lq), ed 25 (hD 16 lq), ed 26 (hD 17 lq), ed 27 (hD 18 lq), ed 28 (hD 19 lq), ed 29 (hD 20 lq), ed 6 (hD 21 lq)] at hfr
  clear hX hD; subst hfr; clear σ β X
  refine then_normal ?_
  refine wp_ret ?_
  refine bodyPost_ret (v := .bool false) (by simp [results, Tryd.results36, go_sem]) rfl ?_
  exact Ret.bool (by simp_all [endedF]) hst14.ext

set_option maxRecDepth 100000 in
set_option maxHeartbeats 2000000 in
theorem mine_any (hi : Int) (LA : Option Addr) (lc : Nat) (ls : List Int) (OA : Option Addr) (oc : Nat) (own : List Int) (tt : TypeId) (tv : Value) (g : Int → Int) (x : Int) (w : World) (hO : At w OA (own.map (Value.int .i64))) (hol : own.length ≤ 100000) (hS : StOk w tt tv g) :
    Calls Tryd.prog 115 #[.agg #[.int .i64 hi, .slice LA ls.length lc, .slice OA own.length oc, .iface tt (tv)], .int .i64 x] w (Ret (.bool (mineF own g x)) w) := by
  obtain ⟨f0, rv, hM, hC, hG⟩ := hS.ex
  go_enter Tryd.func115, Tryd.ntmps115
  have hst0 := St.start w
  refine wp_seq ?_
  refine wp_region_X [0, 0] [] [[0]] [] (fun ix σ β X => match ix with | 0 => σ 2 = .pointer (some ⟨(pb (β 2)), 0, none⟩) ∧ X 0 = eB (pb (β 2)) 120 #[.int .i64 hi, .slice LA ls.length lc, .slice OA own.length oc, .iface tt (tv)] | 1 => σ 4 = .bool false | _ => True) [0] [2, 4] hst0 ?_ ?_ ?_
  · exact fun ix _ _ _ _ _ _ hs hb hx h => match ix, h with
    | 1, h => (hs _ rfl).symm.trans h
    | 0, h => by dsimp only at h ⊢; rw [← hs 2 rfl, ← hb 2 rfl, ← hx 0 rfl]; exact h
    | _ + 2, _ => trivial
  · refine ⟨⟨trivial, ?_⟩, ?_⟩
    · refine sv_any rfl rfl fun ρ β W X cx => ?_
      exact dv_box (cs := #[.int .i64 hi, .slice LA ls.length lc, .slice OA own.length oc, .iface tt (tv)]) rfl (cx.out 0 rfl) rfl rfl rfl (fun σ β' X' hs hb hv hx => ⟨hv, hx⟩)
    · exact s0 rfl fun cx => run_assign' rfl (cx.sees.const _)
  intro σ β X W1 hD hX hst1 fr hfr
  obtain ⟨B2_1, hu_B2_1⟩ : ∃ z, pb (β 2) = z := ⟨_, rfl⟩
  simp only [zM, exq 0 ((hD 0 lq).2), hu_B2_1] at hst1
  simp only [zP, ed 2 ((hD 0 lq).1), ed 4 (hD 1 lq), hu_B2_1] at hfr
  clear hX hD hu_B2_1; subst hfr; clear σ β X
  refine then_normal ?_
  refine wp_seq ?_
  rcases Bool.eq_false_or_eq_true (own.contains x) with hs3 | hs3
  · skip
    refine wp_region_X [0, 1, 0, 7, 15, 31, 63, 31, 255, 511, 1023, 2047] [[], [0], [], [], [], [], [0]] [] [] (fun ix σ β X => match ix with | 0 => σ 5 = .pointer (some ⟨B2_1, 2, none⟩) | 1 => σ 6 = .slice OA own.length oc | 2 => σ 7 = .int .i64 x | 3 => σ 8 = .bool (own.contains x) | 4 => σ 9 = .bool true | 5 => σ 10 = .pointer (some ⟨B2_1, 3, none⟩) | 6 => σ 11 = .iface tt (tv) | 7 => σ 12 = .int .i64 x | 8 => σ 13 = .int .i64 (g x) | 9 => σ 14 = .bool ((g x) != 3) | 10 => σ 15 = .bool ((g x) != 3) | 11 => σ 4 = .bool ((g x) != 3) | _ => True) [0] [5, 6, 7, 8, 9, 10, 11, 12, 13, 14, 15, 4] hst1 ?_ ?_ ?_
    · exact fun ix _ _ _ _ _ _ hs hb hx h => match ix, h with
      | 0, h | 1, h | 2, h | 3, h | 4, h | 5, h | 6, h | 7, h | 8, h | 9, h | 10, h | 11, h => (hs _ rfl).symm.trans h
      | _ + 12, _ => trivial
    · refine ⟨⟨⟨⟨⟨⟨⟨⟨⟨⟨⟨⟨trivial, ?_⟩, ?_⟩, ?_⟩, ?_⟩, ?_⟩, ?_⟩, ?_⟩, ?_⟩, ?_⟩, ?_⟩, ?_⟩, ?_⟩
      · exact s0 rfl fun cx => run_fieldAddr' (k := 2) (n := 2) rfl (by kernel_rfl) (cx.out 2 rfl) rfl
      · exact s0 rfl fun cx => run_load1 rfl (by kernel_rfl) (cx.anc 0 rfl) ((cx.blk (cx.init 0 _ rfl) rfl).cell 2)
      · exact mo rfl
      · exact sv_call rfl rfl rfl rfl rfl (fun _ _ _ h => h) fun ρ β W X cx => ⟨_, _, run_callF (args := #[.slice OA own.length oc, .int .i64 x]) rfl cx.sees rfl (by kernel_rfl) (map2 (cx.anc 1 rfl) (cx.anc 2 rfl)), icontains_any _ _ own x _ (hO.ext cx.upd.to_ext) (by assumption)⟩
      · exact s0 rfl fun cx => run_move' rfl (Eq.trans (cx.anc 3 rfl) (congrArg Value.bool hs3))
      · exact s1 rfl (fun cx => (cx.anc 4 rfl)) fun cx => run_fieldAddr' (k := 3) (n := 3) rfl (by kernel_rfl) (cx.out 2 rfl) rfl
      · exact s1 rfl (fun cx => (cx.anc 4 rfl)) fun cx => run_load1 rfl (by kernel_rfl) (cx.anc 5 rfl) ((cx.blk (cx.init 0 _ rfl) rfl).cell 3)
      · exact s1 rfl (fun cx => (cx.anc 4 rfl)) fun cx => run_move' rfl (cx.out 1 rfl)
      · exact sv_call_on rfl rfl rfl rfl rfl rfl (fun _ _ _ h => h) (fun _ _ _ _ cx => (cx.anc 4 rfl)) fun ρ β W X cx => ⟨_, _, run_invoke (args := #[.int .i64 x]) (args' := #[rv, .int .i64 x]) rfl rfl (cx.anc 6 rfl) hM hC (map1 (cx.anc 7 rfl)) rfl, hG _ x cx.upd.to_ext⟩
      · exact s1 rfl (fun cx => (cx.anc 4 rfl)) fun cx => run_bin rfl (cx.anc 8 rfl) (cx.sees.const _) rfl
      · exact s0 rfl fun cx => run_pick_t rfl (cx.anc 4 rfl) (cx.anc 9 rfl)
      · exact s0 rfl fun cx => run_assign' rfl (cx.anc 10 rfl)
    intro σ β X W4 hD hX hst4 fr hfr
    simp only [zM, exq 0 (hX 0 _ rfl)] at hst4
    simp only [zP, ed 5 (hD 0 lq), ed 6 (hD 1 lq), ed 7 (hD 2 lq), ed 8 (hD 3 lq), ed 9 (hD 4 lq), ed 10 (hD 5 lq), ed 11 (hD 6 lq), ed 12 (hD 7 lq), ed 13 (hD 8 lq), ed 14 (hD 9 lq), ed 15 (hD 10 lq), ed 4 (hD 11 lq)] at hfr
    clear hX hD; subst hfr; clear σ β X
    refine then_normal ?_
    refine wp_ret ?_
    refine bodyPost_ret (v := .bool ((g x) != 3)) (by simp [results, Tryd.results115, go_sem]) rfl ?_
    exact Ret.bool (by simp_all [mineF]) hst4.ext
  refine wp_region_X [0, 1, 0, 7, 15, 31, 63, 31, 255, 511, 1023, 2047] [[], [0]] [] [] (fun ix σ β X => match ix with | 0 => σ 5 = .pointer (some ⟨B2_1, 2, none⟩) | 1 => σ 6 = .slice OA own.length oc | 2 => σ 7 = .int .i64 x | 3 => σ 8 = .bool (own.contains x) | 4 => σ 9 = .bool false | 5 => σ 10 = undef | 6 => σ 11 = undef | 7 => σ 12 = undef | 8 => σ 13 = undef | 9 => σ 14 = undef | 10 => σ 15 = .bool false | 11 => σ 4 = .bool false | _ => True) [0] [5, 6, 7, 8, 9, 10, 11, 12, 13, 14, 15, 4] hst1 ?_ ?_ ?_
  · exact fun ix _ _ _ _ _ _ hs hb hx h => match ix, h with
    | 0, h | 1, h | 2, h | 3, h | 4, h | 5, h | 6, h | 7, h | 8, h | 9, h | 10, h | 11, h => (hs _ rfl).symm.trans h
    | _ + 12, _ => trivial
  · refine ⟨⟨⟨⟨⟨⟨⟨⟨⟨⟨⟨⟨trivial, ?_⟩, ?_⟩, ?_⟩, ?_⟩, ?_⟩, ?_⟩, ?_⟩, ?_⟩, ?_⟩, ?_⟩, ?_⟩, ?_⟩
    · exact s0 rfl fun cx => run_fieldAddr' (k := 2) (n := 2) rfl (by kernel_rfl) (cx.out 2 rfl) rfl
    · exact s0 rfl fun cx => run_load1 rfl (by kernel_rfl) (cx.anc 0 rfl) ((cx.blk (cx.init 0 _ rfl) rfl).cell 2)
    · exact mo rfl
    · exact sv_call rfl rfl rfl rfl rfl (fun _ _ _ h => h) fun ρ β W X cx => ⟨_, _, run_callF (args := #[.slice OA own.length oc, .int .i64 x]) rfl cx.sees rfl (by kernel_rfl) (map2 (cx.anc 1 rfl) (cx.anc 2 rfl)), icontains_any _ _ own x _ (hO.ext cx.upd.to_ext) (by assumption)⟩
    · exact s0 rfl fun cx => run_move' rfl (Eq.trans (cx.anc 3 rfl) (congrArg Value.bool hs3))
    · exact s2 rfl fun cx => (cx.anc 4 rfl)
    · exact s2 rfl fun cx => (cx.anc 4 rfl)
    · exact s2 rfl fun cx => (cx.anc 4 rfl)
    · exact s2 rfl fun cx => (cx.anc 4 rfl)
    · exact s2 rfl fun cx => (cx.anc 4 rfl)
    · exact s0 rfl fun cx => run_pick_f rfl (cx.anc 4 rfl) (cx.sees.const _)
    · exact s0 rfl fun cx => run_assign' rfl (cx.anc 10 rfl)
  intro σ β X W5 hD hX hst5 fr hfr
  simp only [zM, exq 0 (hX 0 _ rfl)] at hst5
  simp only [zP, ed 5 (hD 0 lq), ed 6 (hD 1 lq), ed 7 (hD 2 lq), ed 8 (hD 3 lq), ed 9 (hD 4 lq), ed 10 (hD 5 lq), ed 11 (hD 6 lq), ed 12 (hD 7 lq), ed 13 (hD 8 lq), ed 14 (hD 9 lq), ed 15 (hD 10 lq), ed 4 (hD 11 lq)] at hfr
  clear hX hD; subst hfr; clear σ β X
  refine then_normal ?_
  refine wp_ret ?_
  refine bodyPost_ret (v := .bool false) (by simp [results, Tryd.results115, go_sem]) rfl ?_
  exact Ret.bool (by simp_all [mineF]) hst5.ext

set_option maxRecDepth 100000 in
set_option maxHeartbeats 2000000 in
theorem did_any (hi : Int) (LA : Option Addr) (lc : Nat) (ls : List Int) (OA : Option Addr) (oc : Nat) (own : List Int) (tt : TypeId) (tv : Value) (g : Int → Int) (x : Int) (w : World) (hL : At w LA (ls.map (Value.int .i64))) (hll : ls.length ≤ 100000) (hO : At w OA (own.map (Value.int .i64))) (hol : own.length ≤ 100000) (hS : StOk w tt tv g) :
    Calls Tryd.prog 72 #[.agg #[.int .i64 hi, .slice LA ls.length lc, .slice OA own.length oc, .iface tt (tv)], .int .i64 x] w (Ret (.bool (didF hi ls own g x)) w) := by
  go_enter Tryd.func72, Tryd.ntmps72
  have hst0 := St.start w
  refine wp_seq ?_
  refine wp_region_X [0, 0] [] [[0]] [] (fun ix σ β X => match ix with | 0 => σ 2 = .pointer (some ⟨(pb (β 2)), 0, none⟩) ∧ X 0 = eB (pb (β 2)) 120 #[.int .i64 hi, .slice LA ls.length lc, .slice OA own.length oc, .iface tt (tv)] | 1 => σ 4 = .bool false | _ => True) [0] [2, 4] hst0 ?_ ?_ ?_
  · exact fun ix _ _ _ _ _ _ hs hb hx h => match ix, h with
    | 1, h => (hs _ rfl).symm.trans h
    | 0, h => by dsimp only at h ⊢; rw [← hs 2 rfl, ← hb 2 rfl, ← hx 0 rfl]; exact h
    | _ + 2, _ => trivial
  · refine ⟨⟨trivial, ?_⟩, ?_⟩
    · refine sv_any rfl rfl fun ρ β W X cx => ?_
      exact dv_box (cs := #[.int .i64 hi, .slice LA ls.length lc, .slice OA own.length oc, .iface tt (tv)]) rfl (cx.out 0 rfl) rfl rfl rfl (fun σ β' X' hs hb hv hx => ⟨hv, hx⟩)
    · exact s0 rfl fun cx => run_assign' rfl (cx.sees.const _)
  intro σ β X W1 hD hX hst1 fr hfr
  obtain ⟨B2_1, hu_B2_1⟩ : ∃ z, pb (β 2) = z := ⟨_, rfl⟩
  simp only [zM, exq 0 ((hD 0 lq).2), hu_B2_1] at hst1
  simp only [zP, ed 2 ((hD 0 lq).1), ed 4 (hD 1 lq), hu_B2_1] at hfr
  clear hX hD hu_B2_1; subst hfr; clear σ β X
  refine then_normal ?_
  refine wp_seq ?_
  rcases Bool.eq_false_or_eq_true (mineF own g x) with hs3 | hs3
  · skip
    refine wp_region_X [0, 0, 3, 7, 15, 31, 15, 15, 143, 511, 1023, 2047] [[0]] [] [] (fun ix σ β X => match ix with | 0 => σ 5 = .agg #[.int .i64 hi, .slice LA ls.length lc, .slice OA own.length oc, .iface tt (tv)] | 1 => σ 6 = .int .i64 x | 2 => σ 7 = .bool (mineF own g x) | 3 => σ 8 = .bool true | 4 => σ 9 = undef | 5 => σ 10 = undef | 6 => σ 11 = undef | 7 => σ 12 = undef | 8 => σ 13 = undef | 9 => σ 14 = undef | 10 => σ 15 = .bool true | 11 => σ 4 = .bool true | _ => True) [0] [5, 6, 7, 8, 9, 10, 11, 12, 13, 14, 15, 4] hst1 ?_ ?_ ?_
    · exact fun ix _ _ _ _ _ _ hs hb hx h => match ix, h with
      | 0, h | 1, h | 2, h | 3, h | 4, h | 5, h | 6, h | 7, h | 8, h | 9, h | 10, h | 11, h => (hs _ rfl).symm.trans h
      | _ + 12, _ => trivial
    · refine ⟨⟨⟨⟨⟨⟨⟨⟨⟨⟨⟨⟨trivial, ?_⟩, ?_⟩, ?_⟩, ?_⟩, ?_⟩, ?_⟩, ?_⟩, ?_⟩, ?_⟩, ?_⟩, ?_⟩, ?_⟩
      · exact s0 rfl fun cx => run_loadB (n := 4) rfl (by kernel_rfl) (by kernel_rfl) (cx.out 2 rfl) (cx.blk (cx.init 0 _ rfl) rfl) (Nat.le_of_ble_eq_true rfl) rfl
      · exact mo rfl
      · exact sv_call rfl rfl rfl rfl rfl (fun _ _ _ h => h) fun ρ β W X cx => ⟨_, _, run_callF (args := #[.agg #[.int .i64 hi, .slice LA ls.length lc, .slice OA own.length oc, .iface tt (tv)], .int .i64 x]) rfl cx.sees rfl (by kernel_rfl) (map2 (cx.anc 0 rfl) (cx.anc 1 rfl)), mine_any _ _ _ _ _ _ _ _ _ _ x _ (hO.ext cx.upd.to_ext) (by assumption) (hS.ext cx.upd.to_ext)⟩
      · exact s0 rfl fun cx => run_move' rfl (Eq.trans (cx.anc 2 rfl) (congrArg Value.bool hs3))
      · exact s2 rfl fun cx => (cx.anc 3 rfl)
      · exact s2 rfl fun cx => (cx.anc 3 rfl)
      · exact s2 rfl fun cx => (cx.anc 3 rfl)
      · exact s2 rfl fun cx => (cx.anc 3 rfl)
      · exact s2 rfl fun cx => (cx.anc 3 rfl)
      · exact s2 rfl fun cx => (cx.anc 3 rfl)
      · exact s0 rfl fun cx => run_pick_t rfl (cx.anc 3 rfl) (cx.sees.const _)
      · exact s0 rfl fun cx => run_assign' rfl (cx.anc 10 rfl)
    intro σ β X W4 hD hX hst4 fr hfr
    simp only [zM, exq 0 (hX 0 _ rfl)] at hst4
    simp only [zP, ed 5 (hD 0 lq), ed 6 (hD 1 lq), ed 7 (hD 2 lq), ed 8 (hD 3 lq), ed 9 (hD 4 lq), ed 10 (hD 5 lq), ed 11 (hD 6 lq), ed 12 (hD 7 lq), ed 13 (hD 8 lq), ed 14 (hD 9 lq), ed 15 (hD 10 lq), ed 4 (hD 11 lq)] at hfr
    clear hX hD; subst hfr; clear σ β X
    refine then_normal ?_
    refine wp_ret ?_
    refine bodyPost_ret (v := .bool true) (by simp [results, Tryd.results72, go_sem]) rfl ?_
    exact Ret.bool (by simp_all [didF]) hst4.ext
  refine wp_region_X [0, 0, 3, 7, 15, 31, 15, 15, 143, 511, 1023, 2047] [[0], [], [], [], [], [0], [], [], [0]] [] [] (fun ix σ β X => match ix with | 0 => σ 5 = .agg #[.int .i64 hi, .slice LA ls.length lc, .slice OA own.length oc, .iface tt (tv)] | 1 => σ 6 = .int .i64 x | 2 => σ 7 = .bool (mineF own g x) | 3 => σ 8 = .bool false | 4 => σ 9 = .pointer (some ⟨B2_1, 0, none⟩) | 5 => σ 10 = .agg #[.int .i64 hi, .slice LA ls.length lc] | 6 => σ 11 = .int .i64 x | 7 => σ 12 = .pointer (some ⟨B2_1, 3, none⟩) | 8 => σ 13 = .iface tt (tv) | 9 => σ 14 = .bool (endedF hi ls g x) | 10 => σ 15 = .bool (endedF hi ls g x) | 11 => σ 4 = .bool (endedF hi ls g x) | _ => True) [0] [5, 6, 7, 8, 9, 10, 11, 12, 13, 14, 15, 4] hst1 ?_ ?_ ?_
  · exact fun ix _ _ _ _ _ _ hs hb hx h => match ix, h with
    | 0, h | 1, h | 2, h | 3, h | 4, h | 5, h | 6, h | 7, h | 8, h | 9, h | 10, h | 11, h => (hs _ rfl).symm.trans h
    | _ + 12, _ => trivial
  · refine ⟨⟨⟨⟨⟨⟨⟨⟨⟨⟨⟨⟨trivial, ?_⟩, ?_⟩, ?_⟩, ?_⟩, ?_⟩, ?_⟩, ?_⟩, ?_⟩, ?_⟩, ?_⟩, ?_⟩, ?_⟩
    · exact s0 rfl fun cx => run_loadB (n := 4) rfl (by kernel_rfl) (by kernel_rfl) (cx.out 2 rfl) (cx.blk (cx.init 0 _ rfl) rfl) (Nat.le_of_ble_eq_true rfl) rfl
    · exact mo rfl
    · exact sv_call rfl rfl rfl rfl rfl (fun _ _ _ h => h) fun ρ β W X cx => ⟨_, _, run_callF (args := #[.agg #[.int .i64 hi, .slice LA ls.length lc, .slice OA own.length oc, .iface tt (tv)], .int .i64 x]) rfl cx.sees rfl (by kernel_rfl) (map2 (cx.anc 0 rfl) (cx.anc 1 rfl)), mine_any _ _ _ _ _ _ _ _ _ _ x _ (hO.ext cx.upd.to_ext) (by assumption) (hS.ext cx.upd.to_ext)⟩
    · exact s0 rfl fun cx => run_move' rfl (Eq.trans (cx.anc 2 rfl) (congrArg Value.bool hs3))
    · exact s1 rfl (fun cx => (cx.anc 3 rfl)) fun cx => run_fieldAddr' (k := 0) (n := 0) rfl (by kernel_rfl) (cx.out 2 rfl) rfl
    · exact s1 rfl (fun cx => (cx.anc 3 rfl)) fun cx => run_loadB (n := 2) rfl (by kernel_rfl) (by kernel_rfl) (cx.anc 4 rfl) (cx.blk (cx.init 0 _ rfl) rfl) (Nat.le_of_ble_eq_true rfl) rfl
    · exact s1 rfl (fun cx => (cx.anc 3 rfl)) fun cx => run_move' rfl (cx.out 1 rfl)
    · exact s1 rfl (fun cx => (cx.anc 3 rfl)) fun cx => run_fieldAddr' (k := 3) (n := 3) rfl (by kernel_rfl) (cx.out 2 rfl) rfl
    · exact s1 rfl (fun cx => (cx.anc 3 rfl)) fun cx => run_load1 rfl (by kernel_rfl) (cx.anc 7 rfl) ((cx.blk (cx.init 0 _ rfl) rfl).cell 3)
    · exact sv_call_on rfl rfl rfl rfl rfl rfl (fun _ _ _ h => h) (fun _ _ _ _ cx => (cx.anc 3 rfl)) fun ρ β W X cx => ⟨_, _, run_callF (args := #[.agg #[.int .i64 hi, .slice LA ls.length lc], .int .i64 x, .iface tt (tv)]) rfl cx.sees rfl (by kernel_rfl) (map3 (cx.anc 5 rfl) (cx.anc 6 rfl) (cx.anc 8 rfl)), cended_any _ _ _ _ _ _ _ x _ (hL.ext cx.upd.to_ext) (by assumption) (hS.ext cx.upd.to_ext)⟩
    · exact s0 rfl fun cx => run_pick_f rfl (cx.anc 3 rfl) (cx.anc 9 rfl)
    · exact s0 rfl fun cx => run_assign' rfl (cx.anc 10 rfl)
  intro σ β X W5 hD hX hst5 fr hfr
  simp only [zM, exq 0 (hX 0 _ rfl)] at hst5
  simp only [zP, ed 5 (hD 0 lq), ed 6 (hD 1 lq), ed 7 (hD 2 lq), ed 8 (hD 3 lq), ed 9 (hD 4 lq), ed 10 (hD 5 lq), ed 11 (hD 6 lq), ed 12 (hD 7 lq), ed 13 (hD 8 lq), ed 14 (hD 9 lq), ed 15 (hD 10 lq), ed 4 (hD 11 lq)] at hfr
  clear hX hD; subst hfr; clear σ β X
  refine then_normal ?_
  refine wp_ret ?_
  refine bodyPost_ret (v := .bool (endedF hi ls g x)) (by simp [results, Tryd.results72, go_sem]) rfl ?_
  exact Ret.bool (by simp_all [didF]) hst5.ext

set_option maxRecDepth 100000 in
set_option maxHeartbeats 2000000 in
theorem bes_any (hi : Int) (LA : Option Addr) (lc : Nat) (ls : List Int) (OA : Option Addr) (oc : Nat) (own : List Int) (tt : TypeId) (tv : Value) (g : Int → Int) (x : Int) (w : World) (hL : At w LA (ls.map (Value.int .i64))) (hll : ls.length ≤ 100000) (hO : At w OA (own.map (Value.int .i64))) (hol : own.length ≤ 100000) (hS : StOk w tt tv g) :
    Calls Tryd.prog 66 #[.agg #[.int .i64 hi, .slice LA ls.length lc, .slice OA own.length oc, .iface tt (tv)], .int .i64 x] w (Ret (.bool (besF hi ls own g x)) w) := by
  obtain ⟨f0, rv, hM, hC, hG⟩ := hS.ex
  go_enter Tryd.func66, Tryd.ntmps66
  have hst0 := St.start w
  refine wp_seq ?_
  refine wp_region_X [0, 0] [] [[0]] [] (fun ix σ β X => match ix with | 0 => σ 2 = .pointer (some ⟨(pb (β 2)), 0, none⟩) ∧ X 0 = eB (pb (β 2)) 120 #[.int .i64 hi, .slice LA ls.length lc, .slice OA own.length oc, .iface tt (tv)] | 1 => σ 4 = .bool false | _ => True) [0] [2, 4] hst0 ?_ ?_ ?_
  · exact fun ix _ _ _ _ _ _ hs hb hx h => match ix, h with
    | 1, h => (hs _ rfl).symm.trans h
    | 0, h => by dsimp only at h ⊢; rw [← hs 2 rfl, ← hb 2 rfl, ← hx 0 rfl]; exact h
    | _ + 2, _ => trivial
  · refine ⟨⟨trivial, ?_⟩, ?_⟩
    · refine sv_any rfl rfl fun ρ β W X cx => ?_
      exact dv_box (cs := #[.int .i64 hi, .slice LA ls.length lc, .slice OA own.length oc, .iface tt (tv)]) rfl (cx.out 0 rfl) rfl rfl rfl (fun σ β' X' hs hb hv hx => ⟨hv, hx⟩)
    · exact s0 rfl fun cx => run_assign' rfl (cx.sees.const _)
  intro σ β X W1 hD hX hst1 fr hfr
  obtain ⟨B2_1, hu_B2_1⟩ : ∃ z, pb (β 2) = z := ⟨_, rfl⟩
  simp only [zM, exq 0 ((hD 0 lq).2), hu_B2_1] at hst1
  simp only [zP, ed 2 ((hD 0 lq).1), ed 4 (hD 1 lq), hu_B2_1] at hfr
  clear hX hD hu_B2_1; subst hfr; clear σ β X
  refine then_normal ?_
  refine wp_seq ?_
  refine wp_region_X [0, 1, 0, 7, 15] [[], [0]] [] [] (fun ix σ β X => match ix with | 0 => σ 6 = .pointer (some ⟨B2_1, 3, none⟩) | 1 => σ 7 = .iface tt (tv) | 2 => σ 8 = .int .i64 x | 3 => σ 9 = .int .i64 (g x) | 4 => σ 5 = .int .i64 (g x) | _ => True) [0] [6, 7, 8, 9, 5] hst1 ?_ ?_ ?_
  · exact fun ix _ _ _ _ _ _ hs hb hx h => match ix, h with
    | 0, h | 1, h | 2, h | 3, h | 4, h => (hs _ rfl).symm.trans h
    | _ + 5, _ => trivial
  · refine ⟨⟨⟨⟨⟨trivial, ?_⟩, ?_⟩, ?_⟩, ?_⟩, ?_⟩
    · exact s0 rfl fun cx => run_fieldAddr' (k := 3) (n := 3) rfl (by kernel_rfl) (cx.out 2 rfl) rfl
    · exact s0 rfl fun cx => run_load1 rfl (by kernel_rfl) (cx.anc 0 rfl) ((cx.blk (cx.init 0 _ rfl) rfl).cell 3)
    · exact mo rfl
    · exact sv_call rfl rfl rfl rfl rfl (fun _ _ _ h => h) fun ρ β W X cx => ⟨_, _, run_invoke (args := #[.int .i64 x]) (args' := #[rv, .int .i64 x]) rfl rfl (cx.anc 1 rfl) hM hC (map1 (cx.anc 2 rfl)) rfl, hG _ x cx.upd.to_ext⟩
    · exact s0 rfl fun cx => run_assign' rfl (cx.anc 3 rfl)
  intro σ β X W2 hD hX hst2 fr hfr
  simp only [zM, exq 0 (hX 0 _ rfl)] at hst2
  simp only [zP, ed 6 (hD 0 lq), ed 7 (hD 1 lq), ed 8 (hD 2 lq), ed 9 (hD 3 lq), ed 5 (hD 4 lq)] at hfr
  clear hX hD; subst hfr; clear σ β X
  refine then_normal ?_
  refine wp_seq ?_
  rcases Bool.eq_false_or_eq_true (onF x) with hs4 | hs4
  · skip
    rcases Bool.eq_false_or_eq_true (own.contains x) with hs6 | hs6
    · skip
      refine wp_region_X [0, 1, 3, 7, 15, 7, 63, 127, 255, 511, 1023, 2047, 4095, 8191, 16383, 32767, 65535, 131071, 262143, 524287, 1048575, 2097151, 4194303, 8388607, 4194303, 4194303, 37748735, 134217727, 268435455, 536870911, 1073741823] [[], [], [], [], [0]] [] [] (fun ix σ β X => match ix with | 0 => σ 10 = .int .i64 x | 1 => σ 11 = .bool (onF x) | 2 => σ 12 = .bool true | 3 => σ 13 = .pointer (some ⟨B2_1, 2, none⟩) | 4 => σ 14 = .slice OA own.length oc | 5 => σ 15 = .int .i64 x | 6 => σ 16 = .bool (own.contains x) | 7 => σ 17 = .bool false | 8 => σ 18 = .bool false | 9 => σ 19 = .bool false | 10 => σ 20 = undef | 11 => σ 21 = undef | 12 => σ 22 = undef | 13 => σ 23 = undef | 14 => σ 24 = undef | 15 => σ 25 = undef | 16 => σ 26 = undef | 17 => σ 27 = undef | 18 => σ 28 = undef | 19 => σ 29 = undef | 20 => σ 30 = .bool false | 21 => σ 31 = .bool false | 22 => σ 32 = undef | 23 => σ 33 = undef | 24 => σ 34 = undef | 25 => σ 35 = undef | 26 => σ 36 = undef | 27 => σ 37 = undef | 28 => σ 38 = undef | 29 => σ 39 = .bool false | 30 => σ 4 = .bool false | _ => True) [0] [10, 11, 12, 13, 14, 15, 16, 17, 18, 19, 20, 21, 22, 23, 24, 25, 26, 27, 28, 29, 30, 31, 32, 33, 34, 35, 36, 37, 38, 39, 4] hst2 ?_ ?_ ?_
      · exact fun ix _ _ _ _ _ _ hs hb hx h => match ix, h with
        | 0, h | 1, h | 2, h | 3, h | 4, h | 5, h | 6, h | 7, h | 8, h | 9, h | 10, h | 11, h | 12, h | 13, h | 14, h | 15, h | 16, h | 17, h | 18, h | 19, h | 20, h | 21, h | 22, h | 23, h | 24, h | 25, h | 26, h | 27, h | 28, h | 29, h | 30, h => (hs _ rfl).symm.trans h
        | _ + 31, _ => trivial
      · refine ⟨⟨⟨⟨⟨⟨⟨⟨⟨⟨⟨⟨⟨⟨⟨⟨⟨⟨⟨⟨⟨⟨⟨⟨⟨⟨⟨⟨⟨⟨⟨trivial, ?_⟩, ?_⟩, ?_⟩, ?_⟩, ?_⟩, ?_⟩, ?_⟩, ?_⟩, ?_⟩, ?_⟩, ?_⟩, ?_⟩, ?_⟩, ?_⟩, ?_⟩, ?_⟩, ?_⟩, ?_⟩, ?_⟩, ?_⟩, ?_⟩, ?_⟩, ?_⟩, ?_⟩, ?_⟩, ?_⟩, ?_⟩, ?_⟩, ?_⟩, ?_⟩, ?_⟩
        · exact mo rfl
        · exact sv_call rfl rfl rfl rfl rfl (fun _ _ _ h => h) fun ρ β W X cx => ⟨_, _, run_callF (args := #[.int .i64 x]) rfl cx.sees rfl (by kernel_rfl) (map1 (cx.anc 0 rfl)), ton_any x _⟩
        · exact s0 rfl fun cx => run_move' rfl (Eq.trans (cx.anc 1 rfl) (congrArg Value.bool hs4))
        · exact s1 rfl (fun cx => (cx.anc 2 rfl)) fun cx => run_fieldAddr' (k := 2) (n := 2) rfl (by kernel_rfl) (cx.out 2 rfl) rfl
        · exact s1 rfl (fun cx => (cx.anc 2 rfl)) fun cx => run_load1 rfl (by kernel_rfl) (cx.anc 3 rfl) ((cx.blk (cx.init 0 _ rfl) rfl).cell 2)
        · exact s1 rfl (fun cx => (cx.anc 2 rfl)) fun cx => run_move' rfl (cx.out 1 rfl)
        · exact sv_call_on rfl rfl rfl rfl rfl rfl (fun _ _ _ h => h) (fun _ _ _ _ cx => (cx.anc 2 rfl)) fun ρ β W X cx => ⟨_, _, run_callF (args := #[.slice OA own.length oc, .int .i64 x]) rfl cx.sees rfl (by kernel_rfl) (map2 (cx.anc 4 rfl) (cx.anc 5 rfl)), icontains_any _ _ own x _ (hO.ext cx.upd.to_ext) (by assumption)⟩
        · exact s1 rfl (fun cx => (cx.anc 2 rfl)) fun cx => run_not rfl (Eq.trans (cx.anc 6 rfl) (congrArg Value.bool hs6)) rfl
        · exact s0 rfl fun cx => run_pick_t rfl (cx.anc 2 rfl) (cx.anc 7 rfl)
        · exact s0 rfl fun cx => run_move' rfl (cx.anc 8 rfl)
        · exact s2 rfl fun cx => (cx.anc 9 rfl)
        · exact s2 rfl fun cx => (cx.anc 9 rfl)
        · exact s2 rfl fun cx => (cx.anc 9 rfl)
        · exact s3 rfl fun cx => cx.anc 12 rfl
        · exact s3 rfl fun cx => cx.anc 12 rfl
        · exact s2 rfl fun cx => (cx.anc 9 rfl)
        · exact s2 rfl fun cx => (cx.anc 9 rfl)
        · exact s3 rfl fun cx => cx.anc 16 rfl
        · exact s3 rfl fun cx => cx.anc 16 rfl
        · exact s2 rfl fun cx => (cx.anc 9 rfl)
        · exact s0 rfl fun cx => run_pick_f rfl (cx.anc 9 rfl) (cx.sees.const _)
        · exact s0 rfl fun cx => run_move' rfl (cx.anc 20 rfl)
        · exact s2 rfl fun cx => (cx.anc 21 rfl)
        · exact s2 rfl fun cx => (cx.anc 21 rfl)
        · exact s2 rfl fun cx => (cx.anc 21 rfl)
        · exact s2 rfl fun cx => (cx.anc 21 rfl)
        · exact s2 rfl fun cx => (cx.anc 21 rfl)
        · exact s2 rfl fun cx => (cx.anc 21 rfl)
        · exact s2 rfl fun cx => (cx.anc 21 rfl)
        · exact s0 rfl fun cx => run_pick_f rfl (cx.anc 21 rfl) (cx.sees.const _)
        · exact s0 rfl fun cx => run_assign' rfl (cx.anc 29 rfl)
      intro σ β X W7 hD hX hst7 fr hfr
      simp only [zM, exq 0 (hX 0 _ rfl)] at hst7
      simp only [zP, ed 10 (hD 0 lq), ed 11 (hD 1 lq), ed 12 (hD 2 lq), ed 13 (hD 3 lq), ed 14 (hD 4 lq), ed 15 (hD 5 lq), ed 16 (hD 6 lq), ed 17 (hD 7 lq), ed 18 (hD 8 lq), ed 19 (hD 9 lq), ed 20 (hD 10 lq), ed 21 (hD 11 lq), ed 22 (hD 12 lq), ed 23 (hD 13 lq), ed 24 (hD 14 lq), ed 25 (hD 15 lq), ed 26 (hD 16 lq), ed 27 (hD 17 lq), ed 28 (hD 18 lq), ed 29 (hD 19 lq), ed 30 (hD 20 lq), ed 31 (hD 21 lq), ed 32 (hD 22 lq), ed 33 (hD 23 lq), ed 34 (hD 24 lq), ed 35 (hD 25 lq), ed 36 (hD 26 lq), ed 37 (hD 27 lq), ed 38 (hD 28 lq), ed 39 (hD 29 lq), ed 4 (hD 30 lq)] at hfr
      clear hX hD; subst hfr; clear σ β X
      refine then_normal ?_
      refine wp_ret ?_
      refine bodyPost_ret (v := .bool false) (by simp [results, Tryd.results66, go_sem]) rfl ?_
      exact Ret.bool (by simp_all [besF]) hst7.ext
    rcases Bool.eq_false_or_eq_true ((g x) == 1) with hs9 | hs9
    · skip
      have hs9p : (g x) = 1 := by simpa using hs9
      refine wp_region_X [0, 1, 3, 7, 15, 7, 63, 127, 255, 511, 1023, 2047, 4095, 8191, 16383, 32767, 65535, 131071, 262143, 524287, 1048575, 2097151, 4194303, 8388607, 4194303, 4194303, 37748735, 134217727, 268435455, 536870911, 1073741823] [[], [], [], [], [0], [], [], [], [], [], [], [], [], [], [], [], [], [], [], [], [], [], [], [0], [], [], [0]] [] [] (fun ix σ β X => match ix with | 0 => σ 10 = .int .i64 x | 1 => σ 11 = .bool (onF x) | 2 => σ 12 = .bool true | 3 => σ 13 = .pointer (some ⟨B2_1, 2, none⟩) | 4 => σ 14 = .slice OA own.length oc | 5 => σ 15 = .int .i64 x | 6 => σ 16 = .bool (own.contains x) | 7 => σ 17 = .bool true | 8 => σ 18 = .bool true | 9 => σ 19 = .bool true | 10 => σ 20 = .int .i64 (g x) | 11 => σ 21 = .bool ((g x) == 1) | 12 => σ 22 = .bool true | 13 => σ 23 = undef | 14 => σ 24 = undef | 15 => σ 25 = .bool true | 16 => σ 26 = .bool true | 17 => σ 27 = undef | 18 => σ 28 = undef | 19 => σ 29 = .bool true | 20 => σ 30 = .bool true | 21 => σ 31 = .bool true | 22 => σ 32 = .pointer (some ⟨B2_1, 0, none⟩) | 23 => σ 33 = .agg #[.int .i64 hi, .slice LA ls.length lc] | 24 => σ 34 = .int .i64 x | 25 => σ 35 = .pointer (some ⟨B2_1, 3, none⟩) | 26 => σ 36 = .iface tt (tv) | 27 => σ 37 = .bool (endedF hi ls g x) | 28 => σ 38 = .bool (!(endedF hi ls g x)) | 29 => σ 39 = .bool (!(endedF hi ls g x)) | 30 => σ 4 = .bool (!(endedF hi ls g x)) | _ => True) [0] [10, 11, 12, 13, 14, 15, 16, 17, 18, 19, 20, 21, 22, 23, 24, 25, 26, 27, 28, 29, 30, 31, 32, 33, 34, 35, 36, 37, 38, 39, 4] hst2 ?_ ?_ ?_
      · exact fun ix _ _ _ _ _ _ hs hb hx h => match ix, h with
        | 0, h | 1, h | 2, h | 3, h | 4, h | 5, h | 6, h | 7, h | 8, h | 9, h | 10, h | 11, h | 12, h | 13, h | 14, h | 15, h | 16, h | 17, h | 18, h | 19, h | 20, h | 21, h | 22, h | 23, h | 24, h | 25, h | 26, h | 27, h | 28, h | 29, h | 30, h => (hs _ rfl).symm.trans h
        | _ + 31, _ => trivial
      · refine ⟨⟨⟨⟨⟨⟨⟨⟨⟨⟨⟨⟨⟨⟨⟨⟨⟨⟨⟨⟨⟨⟨⟨⟨⟨⟨⟨⟨⟨⟨⟨trivial, ?_⟩, ?_⟩, ?_⟩, ?_⟩, ?_⟩, ?_⟩, ?_⟩, ?_⟩, ?_⟩, ?_⟩, ?_⟩, ?_⟩, ?_⟩, ?_⟩, ?_⟩, ?_⟩, ?_⟩, ?_⟩, ?_⟩, ?_⟩, ?_⟩, ?_⟩, ?_⟩, ?_⟩, ?_⟩, ?_⟩, ?_⟩, ?_⟩, ?_⟩, ?_⟩, ?_⟩
        · exact mo rfl
        · exact sv_call rfl rfl rfl rfl rfl (fun _ _ _ h => h) fun ρ β W X cx => ⟨_, _, run_callF (args := #[.int .i64 x]) rfl cx.sees rfl (by kernel_rfl) (map1 (cx.anc 0 rfl)), ton_any x _⟩
        · exact s0 rfl fun cx => run_move' rfl (Eq.trans (cx.anc 1 rfl) (congrArg Value.bool hs4))
        · exact s1 rfl (fun cx => (cx.anc 2 rfl)) fun cx => run_fieldAddr' (k := 2) (n := 2) rfl (by kernel_rfl) (cx.out 2 rfl) rfl
        · exact s1 rfl (fun cx => (cx.anc 2 rfl)) fun cx => run_load1 rfl (by kernel_rfl) (cx.anc 3 rfl) ((cx.blk (cx.init 0 _ rfl) rfl).cell 2)
        · exact s1 rfl (fun cx => (cx.anc 2 rfl)) fun cx => run_move' rfl (cx.out 1 rfl)
        · exact sv_call_on rfl rfl rfl rfl rfl rfl (fun _ _ _ h => h) (fun _ _ _ _ cx => (cx.anc 2 rfl)) fun ρ β W X cx => ⟨_, _, run_callF (args := #[.slice OA own.length oc, .int .i64 x]) rfl cx.sees rfl (by kernel_rfl) (map2 (cx.anc 4 rfl) (cx.anc 5 rfl)), icontains_any _ _ own x _ (hO.ext cx.upd.to_ext) (by assumption)⟩
        · exact s1 rfl (fun cx => (cx.anc 2 rfl)) fun cx => run_not rfl (Eq.trans (cx.anc 6 rfl) (congrArg Value.bool hs6)) rfl
        · exact s0 rfl fun cx => run_pick_t rfl (cx.anc 2 rfl) (cx.anc 7 rfl)
        · exact s0 rfl fun cx => run_move' rfl (cx.anc 8 rfl)
        · exact s1 rfl (fun cx => (cx.anc 9 rfl)) fun cx => run_move' rfl (cx.out 5 rfl)
        · exact s1 rfl (fun cx => (cx.anc 9 rfl)) fun cx => run_bin rfl (cx.anc 10 rfl) (cx.sees.const _) rfl
        · exact s1 rfl (fun cx => (cx.anc 9 rfl)) fun cx => run_move' rfl (Eq.trans (cx.anc 11 rfl) (congrArg Value.bool hs9))
        · exact s2 rfl fun cx => (cx.anc 12 rfl)
        · exact s2 rfl fun cx => (cx.anc 12 rfl)
        · exact s1 rfl (fun cx => (cx.anc 9 rfl)) fun cx => run_pick_t rfl (cx.anc 12 rfl) (cx.sees.const _)
        · exact s1 rfl (fun cx => (cx.anc 9 rfl)) fun cx => run_move' rfl (cx.anc 15 rfl)
        · exact s2 rfl fun cx => (cx.anc 16 rfl)
        · exact s2 rfl fun cx => (cx.anc 16 rfl)
        · exact s1 rfl (fun cx => (cx.anc 9 rfl)) fun cx => run_pick_t rfl (cx.anc 16 rfl) (cx.sees.const _)
        · exact s0 rfl fun cx => run_pick_t rfl (cx.anc 9 rfl) (cx.anc 19 rfl)
        · exact s0 rfl fun cx => run_move' rfl (cx.anc 20 rfl)
        · exact s1 rfl (fun cx => (cx.anc 21 rfl)) fun cx => run_fieldAddr' (k := 0) (n := 0) rfl (by kernel_rfl) (cx.out 2 rfl) rfl
        · exact s1 rfl (fun cx => (cx.anc 21 rfl)) fun cx => run_loadB (n := 2) rfl (by kernel_rfl) (by kernel_rfl) (cx.anc 22 rfl) (cx.blk (cx.init 0 _ rfl) rfl) (Nat.le_of_ble_eq_true rfl) rfl
        · exact s1 rfl (fun cx => (cx.anc 21 rfl)) fun cx => run_move' rfl (cx.out 1 rfl)
        · exact s1 rfl (fun cx => (cx.anc 21 rfl)) fun cx => run_fieldAddr' (k := 3) (n := 3) rfl (by kernel_rfl) (cx.out 2 rfl) rfl
        · exact s1 rfl (fun cx => (cx.anc 21 rfl)) fun cx => run_load1 rfl (by kernel_rfl) (cx.anc 25 rfl) ((cx.blk (cx.init 0 _ rfl) rfl).cell 3)
        · exact sv_call_on rfl rfl rfl rfl rfl rfl (fun _ _ _ h => h) (fun _ _ _ _ cx => (cx.anc 21 rfl)) fun ρ β W X cx => ⟨_, _, run_callF (args := #[.agg #[.int .i64 hi, .slice LA ls.length lc], .int .i64 x, .iface tt (tv)]) rfl cx.sees rfl (by kernel_rfl) (map3 (cx.anc 23 rfl) (cx.anc 24 rfl) (cx.anc 26 rfl)), cended_any _ _ _ _ _ _ _ x _ (hL.ext cx.upd.to_ext) (by assumption) (hS.ext cx.upd.to_ext)⟩
        · exact s1 rfl (fun cx => (cx.anc 21 rfl)) fun cx => run_not rfl (cx.anc 27 rfl) rfl
        · exact s0 rfl fun cx => run_pick_t rfl (cx.anc 21 rfl) (cx.anc 28 rfl)
        · exact s0 rfl fun cx => run_assign' rfl (cx.anc 29 rfl)
      intro σ β X W10 hD hX hst10 fr hfr
      simp only [zM, exq 0 (hX 0 _ rfl)] at hst10
      simp only [zP, ed 10 (hD 0 lq), ed 11 (hD 1 lq), ed 12 (hD 2 lq), ed 13 (hD 3 lq), ed 14 (hD 4 lq), ed 15 (hD 5 lq), ed 16 (hD 6 lq), ed 17 (hD 7 lq), ed 18 (hD 8 lq), ed 19 (hD 9 lq), ed 20 (hD 10 lq), ed 21 (hD 11 lq), ed 22 (hD 12 lq), ed 23 (hD 13 lq), ed 24 (hD 14 lq), ed 25 (hD 15 lq), ed 26 (hD 16 lq), ed 27 (hD 17 lq), ed 28 (hD 18 lq), ed 29 (hD 19 lq), ed 30 (hD 20 lq), ed 31 (hD 21 lq), ed 32 (hD 22 lq), ed 33 (hD 23 lq), ed 34 (hD 24 lq), ed 35 (hD 25 lq), ed 36 (hD 26 lq), ed 37 (hD 27 lq), ed 38 (hD 28 lq), ed 39 (hD 29 lq), ed 4 (hD 30 lq)] at hfr
      clear hX hD; subst hfr; clear σ β X
      refine then_normal ?_
      refine wp_ret ?_
      refine bodyPost_ret (v := .bool (!(endedF hi ls g x))) (by simp [results, Tryd.results66, go_sem]) rfl ?_
      exact Ret.bool (by simp_all [besF]) hst10.ext
    have hs9p : (g x) ≠ 1 := by simpa using hs9
    rcases Bool.eq_false_or_eq_true ((g x) == 4) with hs12 | hs12
    · skip
      have hs12p : (g x) = 4 := by simpa using hs12
      refine wp_region_X [0, 1, 3, 7, 15, 7, 63, 127, 255, 511, 1023, 2047, 4095, 8191, 16383, 32767, 65535, 131071, 262143, 524287, 1048575, 2097151, 4194303, 8388607, 4194303, 4194303, 37748735, 134217727, 268435455, 536870911, 1073741823] [[], [], [], [], [0], [], [], [], [], [], [], [], [], [], [], [], [], [], [], [], [], [], [], [0], [], [], [0]] [] [] (fun ix σ β X => match ix with | 0 => σ 10 = .int .i64 x | 1 => σ 11 = .bool (onF x) | 2 => σ 12 = .bool true | 3 => σ 13 = .pointer (some ⟨B2_1, 2, none⟩) | 4 => σ 14 = .slice OA own.length oc | 5 => σ 15 = .int .i64 x | 6 => σ 16 = .bool (own.contains x) | 7 => σ 17 = .bool true | 8 => σ 18 = .bool true | 9 => σ 19 = .bool true | 10 => σ 20 = .int .i64 (g x) | 11 => σ 21 = .bool ((g x) == 1) | 12 => σ 22 = .bool false | 13 => σ 23 = .int .i64 (g x) | 14 => σ 24 = .bool ((g x) == 4) | 15 => σ 25 = .bool true | 16 => σ 26 = .bool true | 17 => σ 27 = undef | 18 => σ 28 = undef | 19 => σ 29 = .bool true | 20 => σ 30 = .bool true | 21 => σ 31 = .bool true | 22 => σ 32 = .pointer (some ⟨B2_1, 0, none⟩) | 23 => σ 33 = .agg #[.int .i64 hi, .slice LA ls.length lc] | 24 => σ 34 = .int .i64 x | 25 => σ 35 = .pointer (some ⟨B2_1, 3, none⟩) | 26 => σ 36 = .iface tt (tv) | 27 => σ 37 = .bool (endedF hi ls g x) | 28 => σ 38 = .bool (!(endedF hi ls g x)) | 29 => σ 39 = .bool (!(endedF hi ls g x)) | 30 => σ 4 = .bool (!(endedF hi ls g x)) | _ => True) [0] [10, 11, 12, 13, 14, 15, 16, 17, 18, 19, 20, 21, 22, 23, 24, 25, 26, 27, 28, 29, 30, 31, 32, 33, 34, 35, 36, 37, 38, 39, 4] hst2 ?_ ?_ ?_
      · exact fun ix _ _ _ _ _ _ hs hb hx h => match ix, h with
        | 0, h | 1, h | 2, h | 3, h | 4, h | 5, h | 6, h | 7, h | 8, h | 9, h | 10, h | 11, h | 12, h | 13, h | 14, h | 15, h | 16, h | 17, h | 18, h | 19, h | 20, h | 21, h | 22, h | 23, h | 24, h | 25, h | 26, h | 27, h | 28, h | 29, h | 30, h => (hs _ rfl).symm.trans h
        | _ + 31, _ => trivial
      · refine ⟨⟨⟨⟨⟨⟨⟨⟨⟨⟨⟨⟨⟨⟨⟨⟨⟨⟨⟨⟨⟨⟨⟨⟨⟨⟨⟨⟨⟨⟨⟨trivial, ?_⟩, ?_⟩, ?_⟩, ?_⟩, ?_⟩, ?_⟩, ?_⟩, ?_⟩, ?_⟩, ?_⟩, ?_⟩, ?_⟩, ?_⟩, ?_⟩, ?_⟩, ?_⟩, ?_⟩, ?_⟩, ?_⟩, ?_⟩, ?_⟩, ?_⟩, ?_⟩, ?_⟩, ?_⟩, ?_⟩, ?_⟩, ?_⟩, ?_⟩, ?_⟩, ?_⟩
        · exact mo rfl
        · exact sv_call rfl rfl rfl rfl rfl (fun _ _ _ h => h) fun ρ β W X cx => ⟨_, _, run_callF (args := #[.int .i64 x]) rfl cx.sees rfl (by kernel_rfl) (map1 (cx.anc 0 rfl)), ton_any x _⟩
        · exact s0 rfl fun cx => run_move' rfl (Eq.trans (cx.anc 1 rfl) (congrArg Value.bool hs4))
        · exact s1 rfl (fun cx => (cx.anc 2 rfl)) fun cx => run_fieldAddr' (k := 2) (n := 2) rfl (by kernel_rfl) (cx.out 2 rfl) rfl
        · exact s1 rfl (fun cx => (cx.anc 2 rfl)) fun cx => run_load1 rfl (by kernel_rfl) (cx.anc 3 rfl) ((cx.blk (cx.init 0 _ rfl) rfl).cell 2)
        · exact s1 rfl (fun cx => (cx.anc 2 rfl)) fun cx => run_move' rfl (cx.out 1 rfl)
        · exact sv_call_on rfl rfl rfl rfl rfl rfl (fun _ _ _ h => h) (fun _ _ _ _ cx => (cx.anc 2 rfl)) fun ρ β W X cx => ⟨_, _, run_callF (args := #[.slice OA own.length oc, .int .i64 x]) rfl cx.sees rfl (by kernel_rfl) (map2 (cx.anc 4 rfl) (cx.anc 5 rfl)), icontains_any _ _ own x _ (hO.ext cx.upd.to_ext) (by assumption)⟩
        · exact s1 rfl (fun cx => (cx.anc 2 rfl)) fun cx => run_not rfl (Eq.trans (cx.anc 6 rfl) (congrArg Value.bool hs6)) rfl
        · exact s0 rfl fun cx => run_pick_t rfl (cx.anc 2 rfl) (cx.anc 7 rfl)
        · exact s0 rfl fun cx => run_move' rfl (cx.anc 8 rfl)
        · exact s1 rfl (fun cx => (cx.anc 9 rfl)) fun cx => run_move' rfl (cx.out 5 rfl)
        · exact s1 rfl (fun cx => (cx.anc 9 rfl)) fun cx => run_bin rfl (cx.anc 10 rfl) (cx.sees.const _) rfl
        · exact s1 rfl (fun cx => (cx.anc 9 rfl)) fun cx => run_move' rfl (Eq.trans (cx.anc 11 rfl) (congrArg Value.bool hs9))
        · exact s1 rfl (fun cx => (cx.anc 12 rfl)) fun cx => run_move' rfl (cx.out 5 rfl)
        · exact s1 rfl (fun cx => (cx.anc 12 rfl)) fun cx => run_bin rfl (cx.anc 13 rfl) (cx.sees.const _) rfl
        · exact s1 rfl (fun cx => (cx.anc 9 rfl)) fun cx => run_pick_f rfl (cx.anc 12 rfl) (Eq.trans (cx.anc 14 rfl) (congrArg Value.bool hs12))
        · exact s1 rfl (fun cx => (cx.anc 9 rfl)) fun cx => run_move' rfl (cx.anc 15 rfl)
        · exact s2 rfl fun cx => (cx.anc 16 rfl)
        · exact s2 rfl fun cx => (cx.anc 16 rfl)
        · exact s1 rfl (fun cx => (cx.anc 9 rfl)) fun cx => run_pick_t rfl (cx.anc 16 rfl) (cx.sees.const _)
        · exact s0 rfl fun cx => run_pick_t rfl (cx.anc 9 rfl) (cx.anc 19 rfl)
        · exact s0 rfl fun cx => run_move' rfl (cx.anc 20 rfl)
        · exact s1 rfl (fun cx => (cx.anc 21 rfl)) fun cx => run_fieldAddr' (k := 0) (n := 0) rfl (by kernel_rfl) (cx.out 2 rfl) rfl
        · exact s1 rfl (fun cx => (cx.anc 21 rfl)) fun cx => run_loadB (n := 2) rfl (by kernel_rfl) (by kernel_rfl) (cx.anc 22 rfl) (cx.blk (cx.init 0 _ rfl) rfl) (Nat.le_of_ble_eq_true rfl) rfl
        · exact s1 rfl (fun cx => (cx.anc 21 rfl)) fun cx => run_move' rfl (cx.out 1 rfl)
        · exact s1 rfl (fun cx => (cx.anc 21 rfl)) fun cx => run_fieldAddr' (k := 3) (n := 3) rfl (by kernel_rfl) (cx.out 2 rfl) rfl
        · exact s1 rfl (fun cx => (cx.anc 21 rfl)) fun cx => run_load1 rfl (by kernel_rfl) (cx.anc 25 rfl) ((cx.blk (cx.init 0 _ rfl) rfl).cell 3)
        · exact sv_call_on rfl rfl rfl rfl rfl rfl (fun _ _ _ h => h) (fun _ _ _ _ cx => (cx.anc 21 rfl)) fun ρ β W X cx => ⟨_, _, run_callF (args := #[.agg #[.int .i64 hi, .slice LA ls.length lc], .int .i64 x, .iface tt (tv)]) rfl cx.sees rfl (by kernel_rfl) (map3 (cx.anc 23 rfl) (cx.anc 24 rfl) (cx.anc 26 rfl)), cended_any _ _ _ _ _ _ _ x _ (hL.ext cx.upd.to_ext) (by assumption) (hS.ext cx.upd.to_ext)⟩
        · exact s1 rfl (fun cx => (cx.anc 21 rfl)) fun cx => run_not rfl (cx.anc 27 rfl) rfl
        · exact s0 rfl fun cx => run_pick_t rfl (cx.anc 21 rfl) (cx.anc 28 rfl)
        · exact s0 rfl fun cx => run_assign' rfl (cx.anc 29 rfl)
      intro σ β X W13 hD hX hst13 fr hfr
      simp only [zM, exq 0 (hX 0 _ rfl)] at hst13
      simp only [zP, ed 10 (hD 0 lq), ed 11 (hD 1 lq), ed 12 (hD 2 lq), ed 13 (hD 3 lq), ed 14 (hD 4 lq), ed 15 (hD 5 lq), ed 16 (hD 6 lq), ed 17 (hD 7 lq), ed 18 (hD 8 lq), ed 19 (hD 9 lq), ed 20 (hD 10 lq), ed 21 (hD 11 lq), ed 22 (hD 12 lq), ed 23 (hD 13 lq), ed 24 (hD 14 lq), ed 25 (hD 15 lq), ed 26 (hD 16 lq), ed 27 (hD 17 lq), ed 28 (hD 18 lq), ed 29 (hD 19 lq), ed 30 (hD 20 lq), ed 31 (hD 21 lq), ed 32 (hD 22 lq), ed 33 (hD 23 lq), ed 34 (hD 24 lq), ed 35 (hD 25 lq), ed 36 (hD 26 lq), ed 37 (hD 27 lq), ed 38 (hD 28 lq), ed 39 (hD 29 lq), ed 4 (hD 30 lq)] at hfr
      clear hX hD; subst hfr; clear σ β X
      refine then_normal ?_
      refine wp_ret ?_
      refine bodyPost_ret (v := .bool (!(endedF hi ls g x))) (by simp [results, Tryd.results66, go_sem]) rfl ?_
      exact Ret.bool (by simp_all [besF]) hst13.ext
    have hs12p : (g x) ≠ 4 := by simpa using hs12
    rcases Bool.eq_false_or_eq_true ((g x) == 2) with hs15 | hs15
    · skip
      have hs15p : (g x) = 2 := by simpa using hs15
      refine wp_region_X [0, 1, 3, 7, 15, 7, 63, 127, 255, 511, 1023, 2047, 4095, 8191, 16383, 32767, 65535, 131071, 262143, 524287, 1048575, 2097151, 4194303, 8388607, 4194303, 4194303, 37748735, 134217727, 268435455, 536870911, 1073741823] [[], [], [], [], [0], [], [], [], [], [], [], [], [], [], [], [], [], [], [], [], [], [], [], [0], [], [], [0]] [] [] (fun ix σ β X => match ix with | 0 => σ 10 = .int .i64 x | 1 => σ 11 = .bool (onF x) | 2 => σ 12 = .bool true | 3 => σ 13 = .pointer (some ⟨B2_1, 2, none⟩) | 4 => σ 14 = .slice OA own.length oc | 5 => σ 15 = .int .i64 x | 6 => σ 16 = .bool (own.contains x) | 7 => σ 17 = .bool true | 8 => σ 18 = .bool true | 9 => σ 19 = .bool true | 10 => σ 20 = .int .i64 (g x) | 11 => σ 21 = .bool ((g x) == 1) | 12 => σ 22 = .bool false | 13 => σ 23 = .int .i64 (g x) | 14 => σ 24 = .bool ((g x) == 4) | 15 => σ 25 = .bool false | 16 => σ 26 = .bool false | 17 => σ 27 = .int .i64 (g x) | 18 => σ 28 = .bool ((g x) == 2) | 19 => σ 29 = .bool true | 20 => σ 30 = .bool true | 21 => σ 31 = .bool true | 22 => σ 32 = .pointer (some ⟨B2_1, 0, none⟩) | 23 => σ 33 = .agg #[.int .i64 hi, .slice LA ls.length lc] | 24 => σ 34 = .int .i64 x | 25 => σ 35 = .pointer (some ⟨B2_1, 3, none⟩) | 26 => σ 36 = .iface tt (tv) | 27 => σ 37 = .bool (endedF hi ls g x) | 28 => σ 38 = .bool (!(endedF hi ls g x)) | 29 => σ 39 = .bool (!(endedF hi ls g x)) | 30 => σ 4 = .bool (!(endedF hi ls g x)) | _ => True) [0] [10, 11, 12, 13, 14, 15, 16, 17, 18, 19, 20, 21, 22, 23, 24, 25, 26, 27, 28, 29, 30, 31, 32, 33, 34, 35, 36, 37, 38, 39, 4] hst2 ?_ ?_ ?_
      · exact fun ix _ _ _ _ _ _ hs hb hx h => match ix, h with
        | 0, h | 1, h | 2, h | 3, h | 4, h | 5, h | 6, h | 7, h | 8, h | 9, h | 10, h | 11, h | 12, h | 13, h | 14, h | 15, h | 16, h | 17, h | 18, h | 19, h | 20, h | 21, h | 22, h | 23, h | 24, h | 25, h | 26, h | 27, h | 28, h | 29, h | 30, h => (hs _ rfl).symm.trans h
        | _ + 31, _ => trivial
      · refine ⟨⟨⟨⟨⟨⟨⟨⟨⟨⟨⟨⟨⟨⟨⟨⟨⟨⟨⟨⟨⟨⟨⟨⟨⟨⟨⟨⟨⟨⟨⟨trivial, ?_⟩, ?_⟩, ?_⟩, ?_⟩, ?_⟩, ?_⟩, ?_⟩, ?_⟩, ?_⟩, ?_⟩, ?_⟩, ?_⟩, ?_⟩, ?_⟩, ?_⟩, ?_⟩, ?_⟩, ?_⟩, ?_⟩, ?_⟩, ?_⟩, ?_⟩, ?_⟩, ?_⟩, ?_⟩, ?_⟩, ?_⟩, ?_⟩, ?_⟩, ?_⟩, ?_⟩
        · exact mo rfl
        · exact sv_call rfl rfl rfl rfl rfl (fun _ _ _ h => h) fun ρ β W X cx => ⟨_, _, run_callF (args := #[.int .i64 x]) rfl cx.sees rfl (by kernel_rfl) (map1 (cx.anc 0 rfl)), ton_any x _⟩
        · exact s0 rfl fun cx => run_move' rfl (Eq.trans (cx.anc 1 rfl) (congrArg Value.bool hs4))
        · exact s1 rfl (fun cx => (cx.anc 2 rfl)) fun cx => run_fieldAddr' (k := 2) (n := 2) rfl (by kernel_rfl) (cx.out 2 rfl) rfl
        · exact s1 rfl (fun cx => (cx.anc 2 rfl)) fun cx => run_load1 rfl (by kernel_rfl) (cx.anc 3 rfl) ((cx.blk (cx.init 0 _ rfl) rfl).cell 2)
        · exact s1 rfl (fun cx => (cx.anc 2 rfl)) fun cx => run_move' rfl (cx.out 1 rfl)
        · exact sv_call_on rfl rfl rfl rfl rfl rfl (fun _ _ _ h => h) (fun _ _ _ _ cx => (cx.anc 2 rfl)) fun ρ β W X cx => ⟨_, _, run_callF (args := #[.slice OA own.length oc, .int .i64 x]) rfl cx.sees rfl (by kernel_rfl) (map2 (cx.anc 4 rfl) (cx.anc 5 rfl)), icontains_any _ _ own x _ (hO.ext cx.upd.to_ext) (by assumption)⟩
        · exact s1 rfl (fun cx => (cx.anc 2 rfl)) fun cx => run_not rfl (Eq.trans (cx.anc 6 rfl) (congrArg Value.bool hs6)) rfl
        · exact s0 rfl fun cx => run_pick_t rfl (cx.anc 2 rfl) (cx.anc 7 rfl)
        · exact s0 rfl fun cx => run_move' rfl (cx.anc 8 rfl)
        · exact s1 rfl (fun cx => (cx.anc 9 rfl)) fun cx => run_move' rfl (cx.out 5 rfl)
        · exact s1 rfl (fun cx => (cx.anc 9 rfl)) fun cx => run_bin rfl (cx.anc 10 rfl) (cx.sees.const _) rfl
        · exact s1 rfl (fun cx => (cx.anc 9 rfl)) fun cx => run_move' rfl (Eq.trans (cx.anc 11 rfl) (congrArg Value.bool hs9))
        · exact s1 rfl (fun cx => (cx.anc 12 rfl)) fun cx => run_move' rfl (cx.out 5 rfl)
        · exact s1 rfl (fun cx => (cx.anc 12 rfl)) fun cx => run_bin rfl (cx.anc 13 rfl) (cx.sees.const _) rfl
        · exact s1 rfl (fun cx => (cx.anc 9 rfl)) fun cx => run_pick_f rfl (cx.anc 12 rfl) (Eq.trans (cx.anc 14 rfl) (congrArg Value.bool hs12))
        · exact s1 rfl (fun cx => (cx.anc 9 rfl)) fun cx => run_move' rfl (cx.anc 15 rfl)
        · exact s1 rfl (fun cx => (cx.anc 16 rfl)) fun cx => run_move' rfl (cx.out 5 rfl)
        · exact s1 rfl (fun cx => (cx.anc 16 rfl)) fun cx => run_bin rfl (cx.anc 17 rfl) (cx.sees.const _) rfl
        · exact s1 rfl (fun cx => (cx.anc 9 rfl)) fun cx => run_pick_f rfl (cx.anc 16 rfl) (Eq.trans (cx.anc 18 rfl) (congrArg Value.bool hs15))
        · exact s0 rfl fun cx => run_pick_t rfl (cx.anc 9 rfl) (cx.anc 19 rfl)
        · exact s0 rfl fun cx => run_move' rfl (cx.anc 20 rfl)
        · exact s1 rfl (fun cx => (cx.anc 21 rfl)) fun cx => run_fieldAddr' (k := 0) (n := 0) rfl (by kernel_rfl) (cx.out 2 rfl) rfl
        · exact s1 rfl (fun cx => (cx.anc 21 rfl)) fun cx => run_loadB (n := 2) rfl (by kernel_rfl) (by kernel_rfl) (cx.anc 22 rfl) (cx.blk (cx.init 0 _ rfl) rfl) (Nat.le_of_ble_eq_true rfl) rfl
        · exact s1 rfl (fun cx => (cx.anc 21 rfl)) fun cx => run_move' rfl (cx.out 1 rfl)
        · exact s1 rfl (fun cx => (cx.anc 21 rfl)) fun cx => run_fieldAddr' (k := 3) (n := 3) rfl (by kernel_rfl) (cx.out 2 rfl) rfl
        · exact s1 rfl (fun cx => (cx.anc 21 rfl)) fun cx => run_load1 rfl (by kernel_rfl) (cx.anc 25 rfl) ((cx.blk (cx.init 0 _ rfl) rfl).cell 3)
        · exact sv_call_on rfl rfl rfl rfl rfl rfl (fun _ _ _ h => h) (fun _ _ _ _ cx => (cx.anc 21 rfl)) fun ρ β W X cx => ⟨_, _, run_callF (args := #[.agg #[.int .i64 hi, .slice LA ls.length lc], .int .i64 x, .iface tt (tv)]) rfl cx.sees rfl (by kernel_rfl) (map3 (cx.anc 23 rfl) (cx.anc 24 rfl) (cx.anc 26 rfl)), cended_any _ _ _ _ _ _ _ x _ (hL.ext cx.upd.to_ext) (by assumption) (hS.ext cx.upd.to_ext)⟩
        · exact s1 rfl (fun cx => (cx.anc 21 rfl)) fun cx => run_not rfl (cx.anc 27 rfl) rfl
        · exact s0 rfl fun cx => run_pick_t rfl (cx.anc 21 rfl) (cx.anc 28 rfl)
        · exact s0 rfl fun cx => run_assign' rfl (cx.anc 29 rfl)
      intro σ β X W16 hD hX hst16 fr hfr
      simp only [zM, exq 0 (hX 0 _ rfl)] at hst16
      simp only [zP, ed 10 (hD 0 lq), ed 11 (hD 1 lq), ed 12 (hD 2 lq), ed 13 (hD 3 lq), ed 14 (hD 4 lq), ed 15 (hD 5 lq), ed 16 (hD 6 lq), ed 17 (hD 7 lq), ed 18 (hD 8 lq), ed 19 (hD 9 lq), ed 20 (hD 10 lq), ed 21 (hD 11 lq), ed 22 (hD 12 lq), ed 23 (hD 13 lq), ed 24 (hD 14 lq), ed 25 (hD 15 lq), ed 26 (hD 16 lq), ed 27 (hD 17 lq), ed 28 (hD 18 lq), ed 29 (hD 19 lq), ed 30 (hD 20 lq), ed 31 (hD 21 lq), ed 32 (hD 22 lq), ed 33 (hD 23 lq), ed 34 (hD 24 lq), ed 35 (hD 25 lq), ed 36 (hD 26 lq), ed 37 (hD 27 lq), ed 38 (hD 28 lq), ed 39 (hD 29 lq), ed 4 (hD 30 lq)] at hfr
      clear hX hD; subst hfr; clear σ β X
      refine then_normal ?_
      refine wp_ret ?_
      refine bodyPost_ret (v := .bool (!(endedF hi ls g x))) (by simp [results, Tryd.results66, go_sem]) rfl ?_
      exact Ret.bool (by simp_all [besF]) hst16.ext
    have hs15p : (g x) ≠ 2 := by simpa using hs15
    refine wp_region_X [0, 1, 3, 7, 15, 7, 63, 127, 255, 511, 1023, 2047, 4095, 8191, 16383, 32767, 65535, 131071, 262143, 524287, 1048575, 2097151, 4194303, 8388607, 4194303, 4194303, 37748735, 134217727, 268435455, 536870911, 1073741823] [[], [], [], [], [0]] [] [] (fun ix σ β X => match ix with | 0 => σ 10 = .int .i64 x | 1 => σ 11 = .bool (onF x) | 2 => σ 12 = .bool true | 3 => σ 13 = .pointer (some ⟨B2_1, 2, none⟩) | 4 => σ 14 = .slice OA own.length oc | 5 => σ 15 = .int .i64 x | 6 => σ 16 = .bool (own.contains x) | 7 => σ 17 = .bool true | 8 => σ 18 = .bool true | 9 => σ 19 = .bool true | 10 => σ 20 = .int .i64 (g x) | 11 => σ 21 = .bool ((g x) == 1) | 12 => σ 22 = .bool false | 13 => σ 23 = .int .i64 (g x) | 14 => σ 24 = .bool ((g x) == 4) | 15 => σ 25 = .bool false | 16 => σ 26 = .bool false | 17 => σ 27 = .int .i64 (g x) | 18 => σ 28 = .bool ((g x) == 2) | 19 => σ 29 = .bool false | 20 => σ 30 = .bool false | 21 => σ 31 = .bool false | 22 => σ 32 = undef | 23 => σ 33 = undef | 24 => σ 34 = undef | 25 => σ 35 = undef | 26 => σ 36 = undef | 27 => σ 37 = undef | 28 => σ 38 = undef | 29 => σ 39 = .bool false | 30 => σ 4 = .bool false | _ => True) [0] [10, 11, 12, 13, 14, 15, 16, 17, 18, 19, 20, 21, 22, 23, 24, 25, 26, 27, 28, 29, 30, 31, 32, 33, 34, 35, 36, 37, 38, 39, 4] hst2 ?_ ?_ ?_
    · exact fun ix _ _ _ _ _ _ hs hb hx h => match ix, h with
      | 0, h | 1, h | 2, h | 3, h | 4, h | 5, h | 6, h | 7, h | 8, h | 9, h | 10, h | 11, h | 12, h | 13, h | 14, h | 15, h | 16, h | 17, h | 18, h | 19, h | 20, h | 21, h | 22, h | 23, h | 24, h | 25, h | 26, h | 27, h | 28, h | 29, h | 30, h => (hs _ rfl).symm.trans h
      | _ + 31, _ => trivial
    · refine ⟨⟨⟨⟨⟨⟨⟨⟨⟨⟨⟨⟨⟨⟨⟨⟨⟨⟨⟨⟨⟨⟨⟨⟨⟨⟨⟨⟨⟨⟨⟨trivial, ?_⟩, ?_⟩, ?_⟩, ?_⟩, ?_⟩, ?_⟩, ?_⟩, ?_⟩, ?_⟩, ?_⟩, ?_⟩, ?_⟩, ?_⟩, ?_⟩, ?_⟩, ?_⟩, ?_⟩, ?_⟩, ?_⟩, ?_⟩, ?_⟩, ?_⟩, ?_⟩, ?_⟩, ?_⟩, ?_⟩, ?_⟩, ?_⟩, ?_⟩, ?_⟩, ?_⟩
      · exact mo rfl
      · exact sv_call rfl rfl rfl rfl rfl (fun _ _ _ h => h) fun ρ β W X cx => ⟨_, _, run_callF (args := #[.int .i64 x]) rfl cx.sees rfl (by kernel_rfl) (map1 (cx.anc 0 rfl)), ton_any x _⟩
      · exact s0 rfl fun cx => run_move' rfl (Eq.trans (cx.anc 1 rfl) (congrArg Value.bool hs4))
      · exact s1 rfl (fun cx => (cx.anc 2 rfl)) fun cx => run_fieldAddr' (k := 2) (n := 2) rfl (by kernel_rfl) (cx.out 2 rfl) rfl
      · exact s1 rfl (fun cx => (cx.anc 2 rfl)) fun cx => run_load1 rfl (by kernel_rfl) (cx.anc 3 rfl) ((cx.blk (cx.init 0 _ rfl) rfl).cell 2)
      · exact s1 rfl (fun cx => (cx.anc 2 rfl)) fun cx => run_move' rfl (cx.out 1 rfl)
      · exact sv_call_on rfl rfl rfl rfl rfl rfl (fun _ _ _ h => h) (fun _ _ _ _ cx => (cx.anc 2 rfl)) fun ρ β W X cx => ⟨_, _, run_callF (args := #[.slice OA own.length oc, .int .i64 x]) rfl cx.sees rfl (by kernel_rfl) (map2 (cx.anc 4 rfl) (cx.anc 5 rfl)), icontains_any _ _ own x _ (hO.ext cx.upd.to_ext) (by assumption)⟩
      · exact s1 rfl (fun cx => (cx.anc 2 rfl)) fun cx => run_not rfl (Eq.trans (cx.anc 6 rfl) (congrArg Value.bool hs6)) rfl
      · exact s0 rfl fun cx => run_pick_t rfl (cx.anc 2 rfl) (cx.anc 7 rfl)
      · exact s0 rfl fun cx => run_move' rfl (cx.anc 8 rfl)
      · exact s1 rfl (fun cx => (cx.anc 9 rfl)) fun cx => run_move' rfl (cx.out 5 rfl)
      · exact s1 rfl (fun cx => (cx.anc 9 rfl)) fun cx => run_bin rfl (cx.anc 10 rfl) (cx.sees.const _) rfl
      · exact s1 rfl (fun cx => (cx.anc 9 rfl)) fun cx => run_move' rfl (Eq.trans (cx.anc 11 rfl) (congrArg Value.bool hs9))
      · exact s1 rfl (fun cx => (cx.anc 12 rfl)) fun cx => run_move' rfl (cx.out 5 rfl)
      · exact s1 rfl (fun cx => (cx.anc 12 rfl)) fun cx => run_bin rfl (cx.anc 13 rfl) (cx.sees.const _) rfl
      · exact s1 rfl (fun cx => (cx.anc 9 rfl)) fun cx => run_pick_f rfl (cx.anc 12 rfl) (Eq.trans (cx.anc 14 rfl) (congrArg Value.bool hs12))
      · exact s1 rfl (fun cx => (cx.anc 9 rfl)) fun cx => run_move' rfl (cx.anc 15 rfl)
      · exact s1 rfl (fun cx => (cx.anc 16 rfl)) fun cx => run_move' rfl (cx.out 5 rfl)
      · exact s1 rfl (fun cx => (cx.anc 16 rfl)) fun cx => run_bin rfl (cx.anc 17 rfl) (cx.sees.const _) rfl
      · exact s1 rfl (fun cx => (cx.anc 9 rfl)) fun cx => run_pick_f rfl (cx.anc 16 rfl) (Eq.trans (cx.anc 18 rfl) (congrArg Value.bool hs15))
      · exact s0 rfl fun cx => run_pick_t rfl (cx.anc 9 rfl) (cx.anc 19 rfl)
      · exact s0 rfl fun cx => run_move' rfl (cx.anc 20 rfl)
      · exact s2 rfl fun cx => (cx.anc 21 rfl)
      · exact s2 rfl fun cx => (cx.anc 21 rfl)
      · exact s2 rfl fun cx => (cx.anc 21 rfl)
      · exact s2 rfl fun cx => (cx.anc 21 rfl)
      · exact s2 rfl fun cx => (cx.anc 21 rfl)
      · exact s2 rfl fun cx => (cx.anc 21 rfl)
      · exact s2 rfl fun cx => (cx.anc 21 rfl)
      · exact s0 rfl fun cx => run_pick_f rfl (cx.anc 21 rfl) (cx.sees.const _)
      · exact s0 rfl fun cx => run_assign' rfl (cx.anc 29 rfl)
    intro σ β X W17 hD hX hst17 fr hfr
    simp only [zM, exq 0 (hX 0 _ rfl)] at hst17
    simp only [zP, ed 10 (hD 0 lq), ed 11 (hD 1 lq), ed 12 (hD 2 lq), ed 13 (hD 3 lq), ed 14 (hD 4 lq), ed 15 (hD 5 lq), ed 16 (hD 6 lq), ed 17 (hD 7 lq), ed 18 (hD 8 lq), ed 19 (hD 9 lq), ed 20 (hD 10 lq), ed 21 (hD 11 lq), ed 22 (hD 12 lq), ed 23 (hD 13 lq), ed 24 (hD 14 lq), ed 25 (hD 15 lq), ed 26 (hD 16 lq), ed 27 (hD 17 lq), ed 28 (hD 18 lq), ed 29 (hD 19 lq), ed 30 (hD 20 lq), ed 31 (hD 21 lq), ed 32 (hD 22 lq), ed 33 (hD 23 lq), ed 34 (hD 24 lq), ed 35 (hD 25 lq), ed 36 (hD 26 lq), ed 37 (hD 27 lq), ed 38 (hD 28 lq), ed 39 (hD 29 lq), ed 4 (hD 30 lq)] at hfr
    clear hX hD; subst hfr; clear σ β X
    refine then_normal ?_
    refine wp_ret ?_
    refine bodyPost_ret (v := .bool false) (by simp [results, Tryd.results66, go_sem]) rfl ?_
    exact Ret.bool (by simp_all [besF]) hst17.ext
  refine wp_region_X [0, 1, 3, 7, 15, 7, 63, 127, 255, 511, 1023, 2047, 4095, 8191, 16383, 32767, 65535, 131071, 262143, 524287, 1048575, 2097151, 4194303, 8388607, 4194303, 4194303, 37748735, 134217727, 268435455, 536870911, 1073741823] [] [] [] (fun ix σ β X => match ix with | 0 => σ 10 = .int .i64 x | 1 => σ 11 = .bool (onF x) | 2 => σ 12 = .bool false | 3 => σ 13 = undef | 4 => σ 14 = undef | 5 => σ 15 = undef | 6 => σ 16 = undef | 7 => σ 17 = undef | 8 => σ 18 = .bool false | 9 => σ 19 = .bool false | 10 => σ 20 = undef | 11 => σ 21 = undef | 12 => σ 22 = undef | 13 => σ 23 = undef | 14 => σ 24 = undef | 15 => σ 25 = undef | 16 => σ 26 = undef | 17 => σ 27 = undef | 18 => σ 28 = undef | 19 => σ 29 = undef | 20 => σ 30 = .bool false | 21 => σ 31 = .bool false | 22 => σ 32 = undef | 23 => σ 33 = undef | 24 => σ 34 = undef | 25 => σ 35 = undef | 26 => σ 36 = undef | 27 => σ 37 = undef | 28 => σ 38 = undef | 29 => σ 39 = .bool false | 30 => σ 4 = .bool false | _ => True) [0] [10, 11, 12, 13, 14, 15, 16, 17, 18, 19, 20, 21, 22, 23, 24, 25, 26, 27, 28, 29, 30, 31, 32, 33, 34, 35, 36, 37, 38, 39, 4] hst2 ?_ ?_ ?_
  · exact fun ix _ _ _ _ _ _ hs hb hx h => match ix, h with
    | 0, h | 1, h | 2, h | 3, h | 4, h | 5, h | 6, h | 7, h | 8, h | 9, h | 10, h | 11, h | 12, h | 13, h | 14, h | 15, h | 16, h | 17, h | 18, h | 19, h | 20, h | 21, h | 22, h | 23, h | 24, h | 25, h | 26, h | 27, h | 28, h | 29, h | 30, h => (hs _ rfl).symm.trans h
    | _ + 31, _ => trivial
  · refine ⟨⟨⟨⟨⟨⟨⟨⟨⟨⟨⟨⟨⟨⟨⟨⟨⟨⟨⟨⟨⟨⟨⟨⟨⟨⟨⟨⟨⟨⟨⟨trivial, ?_⟩, ?_⟩, ?_⟩, ?_⟩, ?_⟩, ?_⟩, ?_⟩, ?_⟩, ?_⟩, ?_⟩, ?_⟩, ?_⟩, ?_⟩, ?_⟩, ?_⟩, ?_⟩, ?_⟩, ?_⟩, ?_⟩, ?_⟩, ?_⟩, ?_⟩, ?_⟩, ?_⟩, ?_⟩, ?_⟩, ?_⟩, ?_⟩, ?_⟩, ?_⟩, ?_⟩
    · exact mo rfl
    · exact sv_call rfl rfl rfl rfl rfl (fun _ _ _ h => h) fun ρ β W X cx => ⟨_, _, run_callF (args := #[.int .i64 x]) rfl cx.sees rfl (by kernel_rfl) (map1 (cx.anc 0 rfl)), ton_any x _⟩
    · exact s0 rfl fun cx => run_move' rfl (Eq.trans (cx.anc 1 rfl) (congrArg Value.bool hs4))
    · exact s2 rfl fun cx => (cx.anc 2 rfl)
    · exact s2 rfl fun cx => (cx.anc 2 rfl)
    · exact s2 rfl fun cx => (cx.anc 2 rfl)
    · exact s2 rfl fun cx => (cx.anc 2 rfl)
    · exact s2 rfl fun cx => (cx.anc 2 rfl)
    · exact s0 rfl fun cx => run_pick_f rfl (cx.anc 2 rfl) (cx.sees.const _)
    · exact s0 rfl fun cx => run_move' rfl (cx.anc 8 rfl)
    · exact s2 rfl fun cx => (cx.anc 9 rfl)
    · exact s2 rfl fun cx => (cx.anc 9 rfl)
    · exact s2 rfl fun cx => (cx.anc 9 rfl)
    · exact s3 rfl fun cx => cx.anc 12 rfl
    · exact s3 rfl fun cx => cx.anc 12 rfl
    · exact s2 rfl fun cx => (cx.anc 9 rfl)
    · exact s2 rfl fun cx => (cx.anc 9 rfl)
    · exact s3 rfl fun cx => cx.anc 16 rfl
    · exact s3 rfl fun cx => cx.anc 16 rfl
    · exact s2 rfl fun cx => (cx.anc 9 rfl)
    · exact s0 rfl fun cx => run_pick_f rfl (cx.anc 9 rfl) (cx.sees.const _)
    · exact s0 rfl fun cx => run_move' rfl (cx.anc 20 rfl)
    · exact s2 rfl fun cx => (cx.anc 21 rfl)
    · exact s2 rfl fun cx => (cx.anc 21 rfl)
    · exact s2 rfl fun cx => (cx.anc 21 rfl)
    · exact s2 rfl fun cx => (cx.anc 21 rfl)
    · exact s2 rfl fun cx => (cx.anc 21 rfl)
    · exact s2 rfl fun cx => (cx.anc 21 rfl)
    · exact s2 rfl fun cx => (cx.anc 21 rfl)
    · exact s0 rfl fun cx => run_pick_f rfl (cx.anc 21 rfl) (cx.sees.const _)
    · exact s0 rfl fun cx => run_assign' rfl (cx.anc 29 rfl)
  intro σ β X W18 hD hX hst18 fr hfr
  simp only [zM, exq 0 (hX 0 _ rfl)] at hst18
  simp only [zP, ed 10 (hD 0 lq), ed 11 (hD 1 lq), ed 12 (hD 2 lq), ed 13 (hD 3 lq), ed 14 (hD 4 lq), ed 15 (hD 5 lq), ed 16 (hD 6 lq), ed 17 (hD 7 lq), ed 18 (hD 8 lq), ed 19 (hD 9 lq), ed 20 (hD 10 lq), ed 21 (hD 11 lq), ed 22 (hD 12 lq), ed 23 (hD 13 lq), ed 24 (hD 14 lq), ed 25 (hD 15 lq), ed 26 (hD 16 lq), ed 27 (hD 17 lq), ed 28 (hD 18 lq), ed 29 (hD 19 lq), ed 30 (hD 20 lq), ed 31 (hD 21 lq), ed 32 (hD 22 lq), ed 33 (hD 23 lq), ed 34 (hD 24 lq), ed 35 (hD 25 lq), ed 36 (hD 26 lq), ed 37 (hD 27 lq), ed 38 (hD 28 lq), ed 39 (hD 29 lq), ed 4 (hD 30 lq)] at hfr
  clear hX hD; subst hfr; clear σ β X
  refine then_normal ?_
  refine wp_ret ?_
  refine bodyPost_ret (v := .bool false) (by simp [results, Tryd.results66, go_sem]) rfl ?_
  exact Ret.bool (by simp_all [besF]) hst18.ext

set_option maxRecDepth 100000 in
set_option maxHeartbeats 2000000 in
theorem each_did (hi : Int) (LA : Option Addr) (lc : Nat) (ls : List Int) (OA : Option Addr) (oc : Nat) (own : List Int) (tt : TypeId) (tv : Value) (g : Int → Int) (a b n1 n2 : Int) (ho : Bool) (RA : Option Addr) (rn rc : Nat) (w : World) (hL : At w LA (ls.map (Value.int .i64))) (hll : ls.length ≤ 100000) (hO : At w OA (own.map (Value.int .i64))) (hol : own.length ≤ 100000) (hS : StOk w tt tv g) :
    Calls Tryd.prog 65 #[.agg #[.int .i64 a, .int .i64 b, .int .i64 n1, .int .i64 n2, .bool ho, .slice RA rn rc], .func (.func 72) #[.agg #[.int .i64 hi, .slice LA ls.length lc, .slice OA own.length oc, .iface tt (tv)]] #[]] w (Ret (.tuple #[.bool (didF hi ls own g a), .bool (b != 0 && didF hi ls own g b)]) w) := by
  go_enter Tryd.func65, Tryd.ntmps65
  have hst0 := St.start w
  refine wp_seq ?_
  refine wp_region_X [0, 0, 2] [] [[0]] [] (fun ix σ β X => match ix with | 0 => σ 2 = .pointer (some ⟨(pb (β 2)), 0, none⟩) ∧ X 0 = eB (pb (β 2)) 27 #[.int .i64 a, .int .i64 b, .int .i64 n1, .int .i64 n2, .bool ho, .slice RA rn rc] | 1 => σ 4 = .bool false | 2 => σ 5 = .bool false | _ => True) [0] [2, 4, 5] hst0 ?_ ?_ ?_
  · exact fun ix _ _ _ _ _ _ hs hb hx h => match ix, h with
    | 1, h | 2, h => (hs _ rfl).symm.trans h
    | 0, h => by dsimp only at h ⊢; rw [← hs 2 rfl, ← hb 2 rfl, ← hx 0 rfl]; exact h
    | _ + 3, _ => trivial
  · refine ⟨⟨⟨trivial, ?_⟩, ?_⟩, ?_⟩
    · refine sv_any rfl rfl fun ρ β W X cx => ?_
      exact dv_box (cs := #[.int .i64 a, .int .i64 b, .int .i64 n1, .int .i64 n2, .bool ho, .slice RA rn rc]) rfl (cx.out 0 rfl) rfl rfl rfl (fun σ β' X' hs hb hv hx => ⟨hv, hx⟩)
    · exact s0 rfl fun cx => run_assign' rfl (cx.sees.const _)
    · exact s0 rfl fun cx => run_assign' rfl (cx.sees.const _)
  intro σ β X W1 hD hX hst1 fr hfr
  obtain ⟨B2_1, hu_B2_1⟩ : ∃ z, pb (β 2) = z := ⟨_, rfl⟩
  simp only [zM, exq 0 ((hD 0 lq).2), hu_B2_1] at hst1
  simp only [zP, ed 2 ((hD 0 lq).1), ed 4 (hD 1 lq), ed 5 (hD 2 lq), hu_B2_1] at hfr
  clear hX hD hu_B2_1; subst hfr; clear σ β X
  refine then_normal ?_
  refine wp_seq ?_
  rcases Bool.eq_false_or_eq_true (b != 0) with hs3 | hs3
  · skip
    have hs3p : b ≠ 0 := by simpa using hs3
    refine wp_region_X [0, 0, 2, 7, 0, 16, 48, 127, 255, 255, 767, 2047, 4095, 4095, 16383] [[], [], [0], [], [], [0], [], [], [], [], [0]] [] [] (fun ix σ β X => match ix with | 0 => σ 6 = .func (.func 72) #[.agg #[.int .i64 hi, .slice LA ls.length lc, .slice OA own.length oc, .iface tt (tv)]] #[] | 1 => σ 7 = .pointer (some ⟨B2_1, 0, none⟩) | 2 => σ 8 = .int .i64 a | 3 => σ 9 = .bool (didF hi ls own g a) | 4 => σ 10 = .pointer (some ⟨B2_1, 1, none⟩) | 5 => σ 11 = .int .i64 b | 6 => σ 12 = .bool (b != 0) | 7 => σ 13 = .bool true | 8 => σ 14 = .func (.func 72) #[.agg #[.int .i64 hi, .slice LA ls.length lc, .slice OA own.length oc, .iface tt (tv)]] #[] | 9 => σ 15 = .pointer (some ⟨B2_1, 1, none⟩) | 10 => σ 16 = .int .i64 b | 11 => σ 17 = .bool (didF hi ls own g b) | 12 => σ 18 = .bool (didF hi ls own g b) | 13 => σ 4 = .bool (didF hi ls own g a) | 14 => σ 5 = .bool (didF hi ls own g b) | _ => True) [0] [6, 7, 8, 9, 10, 11, 12, 13, 14, 15, 16, 17, 18, 4, 5] hst1 ?_ ?_ ?_
    · exact fun ix _ _ _ _ _ _ hs hb hx h => match ix, h with
      | 0, h | 1, h | 2, h | 3, h | 4, h | 5, h | 6, h | 7, h | 8, h | 9, h | 10, h | 11, h | 12, h | 13, h | 14, h => (hs _ rfl).symm.trans h
      | _ + 15, _ => trivial
    · refine ⟨⟨⟨⟨⟨⟨⟨⟨⟨⟨⟨⟨⟨⟨⟨trivial, ?_⟩, ?_⟩, ?_⟩, ?_⟩, ?_⟩, ?_⟩, ?_⟩, ?_⟩, ?_⟩, ?_⟩, ?_⟩, ?_⟩, ?_⟩, ?_⟩, ?_⟩
      · exact mo rfl
      · exact s0 rfl fun cx => run_fieldAddr' (k := 0) (n := 0) rfl (by kernel_rfl) (cx.out 2 rfl) rfl
      · exact s0 rfl fun cx => run_load1 rfl (by kernel_rfl) (cx.anc 1 rfl) ((cx.blk (cx.init 0 _ rfl) rfl).cell 0)
      · exact sv_call rfl rfl rfl rfl rfl (fun _ _ _ h => h) fun ρ β W X cx => ⟨_, _, run_callV (f := 72) (args := #[.int .i64 a]) (args' := #[.agg #[.int .i64 hi, .slice LA ls.length lc, .slice OA own.length oc, .iface tt (tv)], .int .i64 a]) rfl rfl (cx.anc 0 rfl) (by kernel_rfl) (map1 (cx.anc 2 rfl)) rfl, did_any _ _ _ _ _ _ _ _ _ _ a _ (hL.ext cx.upd.to_ext) (by assumption) (hO.ext cx.upd.to_ext) (by assumption) (hS.ext cx.upd.to_ext)⟩
      · exact s0 rfl fun cx => run_fieldAddr' (k := 1) (n := 1) rfl (by kernel_rfl) (cx.out 2 rfl) rfl
      · exact s0 rfl fun cx => run_load1 rfl (by kernel_rfl) (cx.anc 4 rfl) ((cx.blk (cx.init 0 _ rfl) rfl).cell 1)
      · exact s0 rfl fun cx => run_bin rfl (cx.anc 5 rfl) (cx.sees.const _) rfl
      · exact s0 rfl fun cx => run_move' rfl (Eq.trans (cx.anc 6 rfl) (congrArg Value.bool hs3))
      · exact s1 rfl (fun cx => (cx.anc 7 rfl)) fun cx => run_move' rfl (cx.out 1 rfl)
      · exact s1 rfl (fun cx => (cx.anc 7 rfl)) fun cx => run_fieldAddr' (k := 1) (n := 1) rfl (by kernel_rfl) (cx.out 2 rfl) rfl
      · exact s1 rfl (fun cx => (cx.anc 7 rfl)) fun cx => run_load1 rfl (by kernel_rfl) (cx.anc 9 rfl) ((cx.blk (cx.init 0 _ rfl) rfl).cell 1)
      · exact sv_call_on rfl rfl rfl rfl rfl rfl (fun _ _ _ h => h) (fun _ _ _ _ cx => (cx.anc 7 rfl)) fun ρ β W X cx => ⟨_, _, run_callV (f := 72) (args := #[.int .i64 b]) (args' := #[.agg #[.int .i64 hi, .slice LA ls.length lc, .slice OA own.length oc, .iface tt (tv)], .int .i64 b]) rfl rfl (cx.anc 8 rfl) (by kernel_rfl) (map1 (cx.anc 10 rfl)) rfl, did_any _ _ _ _ _ _ _ _ _ _ b _ (hL.ext cx.upd.to_ext) (by assumption) (hO.ext cx.upd.to_ext) (by assumption) (hS.ext cx.upd.to_ext)⟩
      · exact s0 rfl fun cx => run_pick_t rfl (cx.anc 7 rfl) (cx.anc 11 rfl)
      · exact s0 rfl fun cx => run_assign' rfl (cx.anc 3 rfl)
      · exact s0 rfl fun cx => run_assign' rfl (cx.anc 12 rfl)
    intro σ β X W4 hD hX hst4 fr hfr
    simp only [zM, exq 0 (hX 0 _ rfl)] at hst4
    simp only [zP, ed 6 (hD 0 lq), ed 7 (hD 1 lq), ed 8 (hD 2 lq), ed 9 (hD 3 lq), ed 10 (hD 4 lq), ed 11 (hD 5 lq), ed 12 (hD 6 lq), ed 13 (hD 7 lq), ed 14 (hD 8 lq), ed 15 (hD 9 lq), ed 16 (hD 10 lq), ed 17 (hD 11 lq), ed 18 (hD 12 lq), ed 4 (hD 13 lq), ed 5 (hD 14 lq)] at hfr
    clear hX hD; subst hfr; clear σ β X
    refine then_normal ?_
    refine wp_ret ?_
    refine bodyPost_ret (v := .tuple #[.bool (didF hi ls own g a), .bool (didF hi ls own g b)]) (by simp [results, Tryd.results65, go_sem]) rfl ?_
    exact Ret.of (by simp_all) hst4.ext
  have hs3p : b = 0 := by simpa using hs3
  refine wp_region_X [0, 0, 2, 7, 0, 16, 48, 127, 255, 255, 767, 2047, 4095, 4095, 16383] [[], [], [0], [], [], [0]] [] [] (fun ix σ β X => match ix with | 0 => σ 6 = .func (.func 72) #[.agg #[.int .i64 hi, .slice LA ls.length lc, .slice OA own.length oc, .iface tt (tv)]] #[] | 1 => σ 7 = .pointer (some ⟨B2_1, 0, none⟩) | 2 => σ 8 = .int .i64 a | 3 => σ 9 = .bool (didF hi ls own g a) | 4 => σ 10 = .pointer (some ⟨B2_1, 1, none⟩) | 5 => σ 11 = .int .i64 b | 6 => σ 12 = .bool (b != 0) | 7 => σ 13 = .bool false | 8 => σ 14 = undef | 9 => σ 15 = undef | 10 => σ 16 = undef | 11 => σ 17 = undef | 12 => σ 18 = .bool false | 13 => σ 4 = .bool (didF hi ls own g a) | 14 => σ 5 = .bool false | _ => True) [0] [6, 7, 8, 9, 10, 11, 12, 13, 14, 15, 16, 17, 18, 4, 5] hst1 ?_ ?_ ?_
  · exact fun ix _ _ _ _ _ _ hs hb hx h => match ix, h with
    | 0, h | 1, h | 2, h | 3, h | 4, h | 5, h | 6, h | 7, h | 8, h | 9, h | 10, h | 11, h | 12, h | 13, h | 14, h => (hs _ rfl).symm.trans h
    | _ + 15, _ => trivial
  · refine ⟨⟨⟨⟨⟨⟨⟨⟨⟨⟨⟨⟨⟨⟨⟨trivial, ?_⟩, ?_⟩, ?_⟩, ?_⟩, ?_⟩, ?_⟩, ?_⟩, ?_⟩, ?_⟩, ?_⟩, ?_⟩, ?_⟩, ?_⟩, ?_⟩, ?_⟩
    · exact mo rfl
    · exact s0 rfl fun cx => run_fieldAddr' (k := 0) (n := 0) rfl (by kernel_rfl) (cx.out 2 rfl) rfl
    · exact s0 rfl fun cx => run_load1 rfl (by kernel_rfl) (cx.anc 1 rfl) ((cx.blk (cx.init 0 _ rfl) rfl).cell 0)
    · exact sv_call rfl rfl rfl rfl rfl (fun _ _ _ h => h) fun ρ β W X cx => ⟨_, _, run_callV (f := 72) (args := #[.int .i64 a]) (args' := #[.agg #[.int .i64 hi, .slice LA ls.length lc, .slice OA own.length oc, .iface tt (tv)], .int .i64 a]) rfl rfl (cx.anc 0 rfl) (by kernel_rfl) (map1 (cx.anc 2 rfl)) rfl, did_any _ _ _ _ _ _ _ _ _ _ a _ (hL.ext cx.upd.to_ext) (by assumption) (hO.ext cx.upd.to_ext) (by assumption) (hS.ext cx.upd.to_ext)⟩
    · exact s0 rfl fun cx => run_fieldAddr' (k := 1) (n := 1) rfl (by kernel_rfl) (cx.out 2 rfl) rfl
    · exact s0 rfl fun cx => run_load1 rfl (by kernel_rfl) (cx.anc 4 rfl) ((cx.blk (cx.init 0 _ rfl) rfl).cell 1)
    · exact s0 rfl fun cx => run_bin rfl (cx.anc 5 rfl) (cx.sees.const _) rfl
    · exact s0 rfl fun cx => run_move' rfl (Eq.trans (cx.anc 6 rfl) (congrArg Value.bool hs3))
    · exact s2 rfl fun cx => (cx.anc 7 rfl)
    · exact s2 rfl fun cx => (cx.anc 7 rfl)
    · exact s2 rfl fun cx => (cx.anc 7 rfl)
    · exact s2 rfl fun cx => (cx.anc 7 rfl)
    · exact s0 rfl fun cx => run_pick_f rfl (cx.anc 7 rfl) (cx.sees.const _)
    · exact s0 rfl fun cx => run_assign' rfl (cx.anc 3 rfl)
    · exact s0 rfl fun cx => run_assign' rfl (cx.anc 12 rfl)
  intro σ β X W5 hD hX hst5 fr hfr
  simp only [zM, exq 0 (hX 0 _ rfl)] at hst5
  simp only [zP, ed 6 (hD 0 lq), ed 7 (hD 1 lq), ed 8 (hD 2 lq), ed 9 (hD 3 lq), ed 10 (hD 4 lq), ed 11 (hD 5 lq), ed 12 (hD 6 lq), ed 13 (hD 7 lq), ed 14 (hD 8 lq), ed 15 (hD 9 lq), ed 16 (hD 10 lq), ed 17 (hD 11 lq), ed 18 (hD 12 lq), ed 4 (hD 13 lq), ed 5 (hD 14 lq)] at hfr
  clear hX hD; subst hfr; clear σ β X
  refine then_normal ?_
  refine wp_ret ?_
  refine bodyPost_ret (v := .tuple #[.bool (didF hi ls own g a), .bool false]) (by simp [results, Tryd.results65, go_sem]) rfl ?_
  exact Ret.of (by simp_all) hst5.ext

set_option maxRecDepth 100000 in
set_option maxHeartbeats 2000000 in
theorem each_bes (hi : Int) (LA : Option Addr) (lc : Nat) (ls : List Int) (OA : Option Addr) (oc : Nat) (own : List Int) (tt : TypeId) (tv : Value) (g : Int → Int) (a b n1 n2 : Int) (ho : Bool) (RA : Option Addr) (rn rc : Nat) (w : World) (hL : At w LA (ls.map (Value.int .i64))) (hll : ls.length ≤ 100000) (hO : At w OA (own.map (Value.int .i64))) (hol : own.length ≤ 100000) (hS : StOk w tt tv g) :
    Calls Tryd.prog 65 #[.agg #[.int .i64 a, .int .i64 b, .int .i64 n1, .int .i64 n2, .bool ho, .slice RA rn rc], .func (.func 66) #[.agg #[.int .i64 hi, .slice LA ls.length lc, .slice OA own.length oc, .iface tt (tv)]] #[]] w (Ret (.tuple #[.bool (besF hi ls own g a), .bool (b != 0 && besF hi ls own g b)]) w) := by
  go_enter Tryd.func65, Tryd.ntmps65
  have hst0 := St.start w
  refine wp_seq ?_
  refine wp_region_X [0, 0, 2] [] [[0]] [] (fun ix σ β X => match ix with | 0 => σ 2 = .pointer (some ⟨(pb (β 2)), 0, none⟩) ∧ X 0 = eB (pb (β 2)) 27 #[.int .i64 a, .int .i64 b, .int .i64 n1, .int .i64 n2, .bool ho, .slice RA rn rc] | 1 => σ 4 = .bool false | 2 => σ 5 = .bool false | _ => True) [0] [2, 4, 5] hst0 ?_ ?_ ?_
  · exact fun ix _ _ _ _ _ _ hs hb hx h => match ix, h with
    | 1, h | 2, h => (hs _ rfl).symm.trans h
    | 0, h => by dsimp only at h ⊢; rw [← hs 2 rfl, ← hb 2 rfl, ← hx 0 rfl]; exact h
    | _ + 3, _ => trivial
  · refine ⟨⟨⟨trivial, ?_⟩, ?_⟩, ?_⟩
    · refine sv_any rfl rfl fun ρ β W X cx => ?_
      exact dv_box (cs := #[.int .i64 a, .int .i64 b, .int .i64 n1, .int .i64 n2, .bool ho, .slice RA rn rc]) rfl (cx.out 0 rfl) rfl rfl rfl (fun σ β' X' hs hb hv hx => ⟨hv, hx⟩)
    · exact s0 rfl fun cx => run_assign' rfl (cx.sees.const _)
    · exact s0 rfl fun cx => run_assign' rfl (cx.sees.const _)
  intro σ β X W1 hD hX hst1 fr hfr
  obtain ⟨B2_1, hu_B2_1⟩ : ∃ z, pb (β 2) = z := ⟨_, rfl⟩
  simp only [zM, exq 0 ((hD 0 lq).2), hu_B2_1] at hst1
  simp only [zP, ed 2 ((hD 0 lq).1), ed 4 (hD 1 lq), ed 5 (hD 2 lq), hu_B2_1] at hfr
  clear hX hD hu_B2_1; subst hfr; clear σ β X
  refine then_normal ?_
  refine wp_seq ?_
  rcases Bool.eq_false_or_eq_true (b != 0) with hs3 | hs3
  · skip
    have hs3p : b ≠ 0 := by simpa using hs3
    refine wp_region_X [0, 0, 2, 7, 0, 16, 48, 127, 255, 255, 767, 2047, 4095, 4095, 16383] [[], [], [0], [], [], [0], [], [], [], [], [0]] [] [] (fun ix σ β X => match ix with | 0 => σ 6 = .func (.func 66) #[.agg #[.int .i64 hi, .slice LA ls.length lc, .slice OA own.length oc, .iface tt (tv)]] #[] | 1 => σ 7 = .pointer (some ⟨B2_1, 0, none⟩) | 2 => σ 8 = .int .i64 a | 3 => σ 9 = .bool (besF hi ls own g a) | 4 => σ 10 = .pointer (some ⟨B2_1, 1, none⟩) | 5 => σ 11 = .int .i64 b | 6 => σ 12 = .bool (b != 0) | 7 => σ 13 = .bool true | 8 => σ 14 = .func (.func 66) #[.agg #[.int .i64 hi, .slice LA ls.length lc, .slice OA own.length oc, .iface tt (tv)]] #[] | 9 => σ 15 = .pointer (some ⟨B2_1, 1, none⟩) | 10 => σ 16 = .int .i64 b | 11 => σ 17 = .bool (besF hi ls own g b) | 12 => σ 18 = .bool (besF hi ls own g b) | 13 => σ 4 = .bool (besF hi ls own g a) | 14 => σ 5 = .bool (besF hi ls own g b) | _ => True) [0] [6, 7, 8, 9, 10, 11, 12, 13, 14, 15, 16, 17, 18, 4, 5] hst1 ?_ ?_ ?_
    · exact fun ix _ _ _ _ _ _ hs hb hx h => match ix, h with
      | 0, h | 1, h | 2, h | 3, h | 4, h | 5, h | 6, h | 7, h | 8, h | 9, h | 10, h | 11, h | 12, h | 13, h | 14, h => (hs _ rfl).symm.trans h
      | _ + 15, _ => trivial
    · refine ⟨⟨⟨⟨⟨⟨⟨⟨⟨⟨⟨⟨⟨⟨⟨trivial, ?_⟩, ?_⟩, ?_⟩, ?_⟩, ?_⟩, ?_⟩, ?_⟩, ?_⟩, ?_⟩, ?_⟩, ?_⟩, ?_⟩, ?_⟩, ?_⟩, ?_⟩
      · exact mo rfl
      · exact s0 rfl fun cx => run_fieldAddr' (k := 0) (n := 0) rfl (by kernel_rfl) (cx.out 2 rfl) rfl
      · exact s0 rfl fun cx => run_load1 rfl (by kernel_rfl) (cx.anc 1 rfl) ((cx.blk (cx.init 0 _ rfl) rfl).cell 0)
      · exact sv_call rfl rfl rfl rfl rfl (fun _ _ _ h => h) fun ρ β W X cx => ⟨_, _, run_callV (f := 66) (args := #[.int .i64 a]) (args' := #[.agg #[.int .i64 hi, .slice LA ls.length lc, .slice OA own.length oc, .iface tt (tv)], .int .i64 a]) rfl rfl (cx.anc 0 rfl) (by kernel_rfl) (map1 (cx.anc 2 rfl)) rfl, bes_any _ _ _ _ _ _ _ _ _ _ a _ (hL.ext cx.upd.to_ext) (by assumption) (hO.ext cx.upd.to_ext) (by assumption) (hS.ext cx.upd.to_ext)⟩
      · exact s0 rfl fun cx => run_fieldAddr' (k := 1) (n := 1) rfl (by kernel_rfl) (cx.out 2 rfl) rfl
      · exact s0 rfl fun cx => run_load1 rfl (by kernel_rfl) (cx.anc 4 rfl) ((cx.blk (cx.init 0 _ rfl) rfl).cell 1)
      · exact s0 rfl fun cx => run_bin rfl (cx.anc 5 rfl) (cx.sees.const _) rfl
      · exact s0 rfl fun cx => run_move' rfl (Eq.trans (cx.anc 6 rfl) (congrArg Value.bool hs3))
      · exact s1 rfl (fun cx => (cx.anc 7 rfl)) fun cx => run_move' rfl (cx.out 1 rfl)
      · exact s1 rfl (fun cx => (cx.anc 7 rfl)) fun cx => run_fieldAddr' (k := 1) (n := 1) rfl (by kernel_rfl) (cx.out 2 rfl) rfl
      · exact s1 rfl (fun cx => (cx.anc 7 rfl)) fun cx => run_load1 rfl (by kernel_rfl) (cx.anc 9 rfl) ((cx.blk (cx.init 0 _ rfl) rfl).cell 1)
      · exact sv_call_on rfl rfl rfl rfl rfl rfl (fun _ _ _ h => h) (fun _ _ _ _ cx => (cx.anc 7 rfl)) fun ρ β W X cx => ⟨_, _, run_callV (f := 66) (args := #[.int .i64 b]) (args' := #[.agg #[.int .i64 hi, .slice LA ls.length lc, .slice OA own.length oc, .iface tt (tv)], .int .i64 b]) rfl rfl (cx.anc 8 rfl) (by kernel_rfl) (map1 (cx.anc 10 rfl)) rfl, bes_any _ _ _ _ _ _ _ _ _ _ b _ (hL.ext cx.upd.to_ext) (by assumption) (hO.ext cx.upd.to_ext) (by assumption) (hS.ext cx.upd.to_ext)⟩
      · exact s0 rfl fun cx => run_pick_t rfl (cx.anc 7 rfl) (cx.anc 11 rfl)
      · exact s0 rfl fun cx => run_assign' rfl (cx.anc 3 rfl)
      · exact s0 rfl fun cx => run_assign' rfl (cx.anc 12 rfl)
    intro σ β X W4 hD hX hst4 fr hfr
    simp only [zM, exq 0 (hX 0 _ rfl)] at hst4
    simp only [zP, ed 6 (hD 0 lq), ed 7 (hD 1 lq), ed 8 (hD 2 lq), ed 9 (hD 3 lq), ed 10 (hD 4 lq), ed 11 (hD 5 lq), ed 12 (hD 6 lq), ed 13 (hD 7 lq), ed 14 (hD 8 lq), ed 15 (hD 9 lq), ed 16 (hD 10 lq), ed 17 (hD 11 lq), ed 18 (hD 12 lq), ed 4 (hD 13 lq), ed 5 (hD 14 lq)] at hfr
    clear hX hD; subst hfr; clear σ β X
    refine then_normal ?_
    refine wp_ret ?_
    refine bodyPost_ret (v := .tuple #[.bool (besF hi ls own g a), .bool (besF hi ls own g b)]) (by simp [results, Tryd.results65, go_sem]) rfl ?_
    exact Ret.of (by simp_all) hst4.ext
  have hs3p : b = 0 := by simpa using hs3
  refine wp_region_X [0, 0, 2, 7, 0, 16, 48, 127, 255, 255, 767, 2047, 4095, 4095, 16383] [[], [], [0], [], [], [0]] [] [] (fun ix σ β X => match ix with | 0 => σ 6 = .func (.func 66) #[.agg #[.int .i64 hi, .slice LA ls.length lc, .slice OA own.length oc, .iface tt (tv)]] #[] | 1 => σ 7 = .pointer (some ⟨B2_1, 0, none⟩) | 2 => σ 8 = .int .i64 a | 3 => σ 9 = .bool (besF hi ls own g a) | 4 => σ 10 = .pointer (some ⟨B2_1, 1, none⟩) | 5 => σ 11 = .int .i64 b | 6 => σ 12 = .bool (b != 0) | 7 => σ 13 = .bool false | 8 => σ 14 = undef | 9 => σ 15 = undef | 10 => σ 16 = undef | 11 => σ 17 = undef | 12 => σ 18 = .bool false | 13 => σ 4 = .bool (besF hi ls own g a) | 14 => σ 5 = .bool false | _ => True) [0] [6, 7, 8, 9, 10, 11, 12, 13, 14, 15, 16, 17, 18, 4, 5] hst1 ?_ ?_ ?_
  · exact fun ix _ _ _ _ _ _ hs hb hx h => match ix, h with
    | 0, h | 1, h | 2, h | 3, h | 4, h | 5, h | 6, h | 7, h | 8, h | 9, h | 10, h | 11, h | 12, h | 13, h | 14, h => (hs _ rfl).symm.trans h
    | _ + 15, _ => trivial
  · refine ⟨⟨⟨⟨⟨⟨⟨⟨⟨⟨⟨⟨⟨⟨⟨trivial, ?_⟩, ?_⟩, ?_⟩, ?_⟩, ?_⟩, ?_⟩, ?_⟩, ?_⟩, ?_⟩, ?_⟩, ?_⟩, ?_⟩, ?_⟩, ?_⟩, ?_⟩
    · exact mo rfl
    · exact s0 rfl fun cx => run_fieldAddr' (k := 0) (n := 0) rfl (by kernel_rfl) (cx.out 2 rfl) rfl
    · exact s0 rfl fun cx => run_load1 rfl (by kernel_rfl) (cx.anc 1 rfl) ((cx.blk (cx.init 0 _ rfl) rfl).cell 0)
    · exact sv_call rfl rfl rfl rfl rfl (fun _ _ _ h => h) fun ρ β W X cx => ⟨_, _, run_callV (f := 66) (args := #[.int .i64 a]) (args' := #[.agg #[.int .i64 hi, .slice LA ls.length lc, .slice OA own.length oc, .iface tt (tv)], .int .i64 a]) rfl rfl (cx.anc 0 rfl) (by kernel_rfl) (map1 (cx.anc 2 rfl)) rfl, bes_any _ _ _ _ _ _ _ _ _ _ a _ (hL.ext cx.upd.to_ext) (by assumption) (hO.ext cx.upd.to_ext) (by assumption) (hS.ext cx.upd.to_ext)⟩
    · exact s0 rfl fun cx => run_fieldAddr' (k := 1) (n := 1) rfl (by kernel_rfl) (cx.out 2 rfl) rfl
    · exact s0 rfl fun cx => run_load1 rfl (by kernel_rfl) (cx.anc 4 rfl) ((cx.blk (cx.init 0 _ rfl) rfl).cell 1)
    · exact s0 rfl fun cx => run_bin rfl (cx.anc 5 rfl) (cx.sees.const _) rfl
    · exact s0 rfl fun cx => run_move' rfl (Eq.trans (cx.anc 6 rfl) (congrArg Value.bool hs3))
    · exact s2 rfl fun cx => (cx.anc 7 rfl)
    · exact s2 rfl fun cx => (cx.anc 7 rfl)
    · exact s2 rfl fun cx => (cx.anc 7 rfl)
    · exact s2 rfl fun cx => (cx.anc 7 rfl)
    · exact s0 rfl fun cx => run_pick_f rfl (cx.anc 7 rfl) (cx.sees.const _)
    · exact s0 rfl fun cx => run_assign' rfl (cx.anc 3 rfl)
    · exact s0 rfl fun cx => run_assign' rfl (cx.anc 12 rfl)
  intro σ β X W5 hD hX hst5 fr hfr
  simp only [zM, exq 0 (hX 0 _ rfl)] at hst5
  simp only [zP, ed 6 (hD 0 lq), ed 7 (hD 1 lq), ed 8 (hD 2 lq), ed 9 (hD 3 lq), ed 10 (hD 4 lq), ed 11 (hD 5 lq), ed 12 (hD 6 lq), ed 13 (hD 7 lq), ed 14 (hD 8 lq), ed 15 (hD 9 lq), ed 16 (hD 10 lq), ed 17 (hD 11 lq), ed 18 (hD 12 lq), ed 4 (hD 13 lq), ed 5 (hD 14 lq)] at hfr
  clear hX hD; subst hfr; clear σ β X
  refine then_normal ?_
  refine wp_ret ?_
  refine bodyPost_ret (v := .tuple #[.bool (besF hi ls own g a), .bool false]) (by simp [results, Tryd.results65, go_sem]) rfl ?_
  exact Ret.of (by simp_all) hst5.ext

set_option maxRecDepth 100000 in
set_option maxHeartbeats 2000000 in
theorem visible_any (a b n1 n2 : Int) (ho : Bool) (RA : Option Addr) (rn rc : Nat) (hi : Int) (LA : Option Addr) (lc : Nat) (ls : List Int) (OA : Option Addr) (oc : Nat) (own : List Int) (tt : TypeId) (tv : Value) (g : Int → Int) (w : World) (hL : At w LA (ls.map (Value.int .i64))) (hll : ls.length ≤ 100000) (hO : At w OA (own.map (Value.int .i64))) (hol : own.length ≤ 100000) (hS : StOk w tt tv g) :
    Calls Tryd.prog 27 #[.agg #[.int .i64 a, .int .i64 b, .int .i64 n1, .int .i64 n2, .bool ho, .slice RA rn rc], .agg #[.int .i64 hi, .slice LA ls.length lc], .slice OA own.length oc, .iface tt (tv)] w (Ret (.bool (visF hi ls own g a b)) w) := by
  go_enter Tryd.func27, Tryd.ntmps27
  have hst0 := St.start w
  refine wp_seq ?_
  refine wp_region_X [0, 0, 0] [] [[0], [1]] [] (fun ix σ β X => match ix with | 0 => σ 4 = .pointer (some ⟨(pb (β 4)), 0, none⟩) ∧ X 0 = eB (pb (β 4)) 27 #[.int .i64 a, .int .i64 b, .int .i64 n1, .int .i64 n2, .bool ho, .slice RA rn rc] | 1 => σ 5 = .pointer (some ⟨(pb (β 5)), 0, none⟩) ∧ X 1 = eB (pb (β 5)) 41 #[.int .i64 hi, .slice LA ls.length lc] | 2 => σ 8 = .bool false | _ => True) [0, 1] [4, 5, 8] hst0 ?_ ?_ ?_
  · exact fun ix _ _ _ _ _ _ hs hb hx h => match ix, h with
    | 2, h => (hs _ rfl).symm.trans h
    | 0, h => by dsimp only at h ⊢; rw [← hs 4 rfl, ← hb 4 rfl, ← hx 0 rfl]; exact h
    | 1, h => by dsimp only at h ⊢; rw [← hs 5 rfl, ← hb 5 rfl, ← hx 1 rfl]; exact h
    | _ + 3, _ => trivial
  · refine ⟨⟨⟨trivial, ?_⟩, ?_⟩, ?_⟩
    · refine sv_any rfl rfl fun ρ β W X cx => ?_
      exact dv_box (cs := #[.int .i64 a, .int .i64 b, .int .i64 n1, .int .i64 n2, .bool ho, .slice RA rn rc]) rfl (cx.out 0 rfl) rfl rfl rfl (fun σ β' X' hs hb hv hx => ⟨hv, hx⟩)
    · refine sv_any rfl rfl fun ρ β W X cx => ?_
      exact dv_box (cs := #[.int .i64 hi, .slice LA ls.length lc]) rfl (cx.out 1 rfl) rfl rfl rfl (fun σ β' X' hs hb hv hx => ⟨hv, hx⟩)
    · exact s0 rfl fun cx => run_assign' rfl (cx.sees.const _)
  intro σ β X W1 hD hX hst1 fr hfr
  obtain ⟨B4_1, hu_B4_1⟩ : ∃ z, pb (β 4) = z := ⟨_, rfl⟩
  obtain ⟨B5_1, hu_B5_1⟩ : ∃ z, pb (β 5) = z := ⟨_, rfl⟩
  simp only [zM, exq 0 ((hD 0 lq).2), exq 1 ((hD 1 lq).2), hu_B4_1, hu_B5_1] at hst1
  simp only [zP, ed 4 ((hD 0 lq).1), ed 5 ((hD 1 lq).1), ed 8 (hD 2 lq), hu_B4_1, hu_B5_1] at hfr
  clear hX hD hu_B4_1 hu_B5_1; subst hfr; clear σ β X
  refine then_normal ?_
  refine wp_seq ?_
  refine wp_region_X [0, 0, 0, 7, 0, 31] [[1], [], [], [], [], [2]] [[], [], [], [], [2], [3]] [[], [], [], [], [], [2]] (fun ix σ β X => match ix with | 0 => σ 12 = .agg #[.int .i64 hi, .slice LA ls.length lc] | 1 => σ 13 = .slice OA own.length oc | 2 => σ 14 = .iface tt (tv) | 3 => σ 15 = .agg #[.int .i64 hi, .slice LA ls.length lc, .slice OA own.length oc, .iface tt (tv)] | 4 => σ 9 = .pointer (some ⟨(pb (β 9)), 0, none⟩) ∧ X 2 = eB (pb (β 9)) 120 #[.int .i64 0, .slice none 0 0, .slice none 0 0, .nilIface] | 5 => X 3 = eB (pb (β 9)) 120 #[.int .i64 hi, .slice LA ls.length lc, .slice OA own.length oc, .iface tt (tv)] | _ => True) [0, 1, 3] [12, 13, 14, 15, 9] hst1 ?_ ?_ ?_
  · exact fun ix _ _ _ _ _ _ hs hb hx h => match ix, h with
    | 0, h | 1, h | 2, h | 3, h => (hs _ rfl).symm.trans h
    | 4, h => by dsimp only at h ⊢; rw [← hs 9 rfl, ← hb 9 rfl, ← hx 2 rfl]; exact h
    | 5, h => by dsimp only at h ⊢; rw [← hb 9 rfl, ← hx 3 rfl]; exact h
    | _ + 6, _ => trivial
  · refine ⟨⟨⟨⟨⟨⟨trivial, ?_⟩, ?_⟩, ?_⟩, ?_⟩, ?_⟩, ?_⟩
    · exact s0 rfl fun cx => run_loadB (n := 2) rfl (by kernel_rfl) (by kernel_rfl) (cx.out 5 rfl) (cx.blk (cx.init 1 _ rfl) rfl) (Nat.le_of_ble_eq_true rfl) rfl
    · exact mo rfl
    · exact mo rfl
    · exact sv0 rfl rfl rfl rfl rfl (fun _ _ _ h => h) fun ρ β W X cx => by
        have fF12 : ρ (.tmp 12) = .agg #[.int .i64 hi, .slice LA ls.length lc] := (cx.anc 0 rfl)
        have fF13 : ρ (.tmp 13) = .slice OA own.length oc := (cx.anc 1 rfl)
        have fF14 : ρ (.tmp 14) = .iface tt (tv) := (cx.anc 2 rfl)
        simp [go_sem, cx.sees.const, fF12, fF13, fF14] <;> rfl
    · refine sv_any rfl rfl fun ρ β W X cx => ?_
      exact dv_alloc (cs := #[.int .i64 0, .slice none 0 0, .slice none 0 0, .nilIface]) rfl (by kernel_rfl) rfl rfl (fun σ β' X' hs hb hv hx => ⟨hv, hx⟩)
    · refine sv_any rfl rfl fun ρ β W X cx => ?_
      exact dv_store (n := 4) rfl (cx.anc 4 rfl).1 (cx.anc 3 rfl) (by kernel_rfl) rfl rfl cx (cx.anc 4 rfl).2 rfl (Nat.le_of_ble_eq_true rfl) rfl rfl rfl rfl (fun σ β' X' hs hb hx => by rw [hb 9]; exact hx)
  intro σ β X W2 hD hX hst2 fr hfr
  obtain ⟨B9_2, hu_B9_2⟩ : ∃ z, pb (β 9) = z := ⟨_, rfl⟩
  simp only [zM, exq 0 (hX 0 _ rfl), exq 1 (hX 1 _ rfl), exq 3 ((hD 5 lq)), hu_B9_2] at hst2
  simp only [zP, ed 12 (hD 0 lq), ed 13 (hD 1 lq), ed 14 (hD 2 lq), ed 15 (hD 3 lq), ed 9 ((hD 4 lq).1), hu_B9_2] at hfr
  clear hX hD hu_B9_2; subst hfr; clear σ β X
  refine then_normal ?_
  refine wp_seq ?_
  refine wp_region_X [0, 0, 2, 7, 15, 31, 31, 63, 255] [[0], [2]] [] [] (fun ix σ β X => match ix with | 0 => σ 17 = .agg #[.int .i64 a, .int .i64 b, .int .i64 n1, .int .i64 n2, .bool ho, .slice RA rn rc] | 1 => σ 18 = .agg #[.int .i64 hi, .slice LA ls.length lc, .slice OA own.length oc, .iface tt (tv)] | 2 => σ 19 = .func (.func 72) #[.agg #[.int .i64 hi, .slice LA ls.length lc, .slice OA own.length oc, .iface tt (tv)]] #[] | 3 => σ 20 = .tuple #[.bool (didF hi ls own g a), .bool (b != 0 && didF hi ls own g b)] | 4 => σ 16 = .tuple #[.bool (didF hi ls own g a), .bool (b != 0 && didF hi ls own g b)] | 5 => σ 21 = .bool (didF hi ls own g a) | 6 => σ 22 = .bool (b != 0 && didF hi ls own g b) | 7 => σ 10 = .bool (didF hi ls own g a) | 8 => σ 11 = .bool (b != 0 && didF hi ls own g b) | _ => True) [0, 1, 2] [17, 18, 19, 20, 16, 21, 22, 10, 11] hst2 ?_ ?_ ?_
  · exact fun ix _ _ _ _ _ _ hs hb hx h => match ix, h with
    | 0, h | 1, h | 2, h | 3, h | 4, h | 5, h | 6, h | 7, h | 8, h => (hs _ rfl).symm.trans h
    | _ + 9, _ => trivial
  · refine ⟨⟨⟨⟨⟨⟨⟨⟨⟨trivial, ?_⟩, ?_⟩, ?_⟩, ?_⟩, ?_⟩, ?_⟩, ?_⟩, ?_⟩, ?_⟩
    · exact s0 rfl fun cx => run_loadB (n := 6) rfl (by kernel_rfl) (by kernel_rfl) (cx.out 4 rfl) (cx.blk (cx.init 0 _ rfl) rfl) (Nat.le_of_ble_eq_true rfl) rfl
    · exact s0 rfl fun cx => run_loadB (n := 4) rfl (by kernel_rfl) (by kernel_rfl) (cx.out 9 rfl) (cx.blk (cx.init 2 _ rfl) rfl) (Nat.le_of_ble_eq_true rfl) rfl
    · exact sv0 rfl rfl rfl rfl rfl (fun _ _ _ h => h) fun ρ β W X cx => by
        have fF18 : ρ (.tmp 18) = .agg #[.int .i64 hi, .slice LA ls.length lc, .slice OA own.length oc, .iface tt (tv)] := (cx.anc 1 rfl)
        simp [go_sem, Instr.makeFunc, fF18]
    · exact sv_call rfl rfl rfl rfl rfl (fun _ _ _ h => h) fun ρ β W X cx => ⟨_, _, run_callF (args := #[.agg #[.int .i64 a, .int .i64 b, .int .i64 n1, .int .i64 n2, .bool ho, .slice RA rn rc], .func (.func 72) #[.agg #[.int .i64 hi, .slice LA ls.length lc, .slice OA own.length oc, .iface tt (tv)]] #[]]) rfl cx.sees rfl (by kernel_rfl) (map2 (cx.anc 0 rfl) (cx.anc 2 rfl)), each_did hi LA lc ls OA oc own tt tv g a b n1 n2 ho RA rn rc _ (hL.ext cx.upd.to_ext) (by assumption) (hO.ext cx.upd.to_ext) (by assumption) (hS.ext cx.upd.to_ext)⟩
    · exact s0 rfl fun cx => run_move' rfl (cx.anc 3 rfl)
    · exact s0 rfl fun cx => run_extract' rfl (cx.anc 4 rfl) rfl
    · exact s0 rfl fun cx => run_extract' rfl (cx.anc 4 rfl) rfl
    · exact s0 rfl fun cx => run_assign' rfl (cx.anc 5 rfl)
    · exact s0 rfl fun cx => run_assign' rfl (cx.anc 6 rfl)
  intro σ β X W3 hD hX hst3 fr hfr
  simp only [zM, exq 0 (hX 0 _ rfl), exq 1 (hX 1 _ rfl), exq 2 (hX 2 _ rfl)] at hst3
  simp only [zP, ed 17 (hD 0 lq), ed 18 (hD 1 lq), ed 19 (hD 2 lq), ed 20 (hD 3 lq), ed 16 (hD 4 lq), ed 21 (hD 5 lq), ed 22 (hD 6 lq), ed 10 (hD 7 lq), ed 11 (hD 8 lq)] at hfr
  clear hX hD; subst hfr; clear σ β X
  refine then_normal ?_
  refine wp_seq ?_
  rcases Bool.eq_false_or_eq_true (didF hi ls own g a) with hs5 | hs5
  · skip
    refine wp_region_X [0, 1, 3, 7, 15, 31] [] [] [] (fun ix σ β X => match ix with | 0 => σ 23 = .bool true | 1 => σ 24 = .bool true | 2 => σ 25 = .bool (b != 0 && didF hi ls own g b) | 3 => σ 26 = .bool (!(b != 0 && didF hi ls own g b)) | 4 => σ 27 = .bool (!(b != 0 && didF hi ls own g b)) | 5 => σ 8 = .bool (!(b != 0 && didF hi ls own g b)) | _ => True) [0, 1, 2] [23, 24, 25, 26, 27, 8] hst3 ?_ ?_ ?_
    · exact fun ix _ _ _ _ _ _ hs hb hx h => match ix, h with
      | 0, h | 1, h | 2, h | 3, h | 4, h | 5, h => (hs _ rfl).symm.trans h
      | _ + 6, _ => trivial
    · refine ⟨⟨⟨⟨⟨⟨trivial, ?_⟩, ?_⟩, ?_⟩, ?_⟩, ?_⟩, ?_⟩
      · exact s0 rfl fun cx => run_move' rfl (Eq.trans (cx.out 10 rfl) (congrArg Value.bool hs5))
      · exact s0 rfl fun cx => run_move' rfl (cx.anc 0 rfl)
      · exact s1 rfl (fun cx => (cx.anc 1 rfl)) fun cx => run_move' rfl (cx.out 11 rfl)
      · exact s1 rfl (fun cx => (cx.anc 1 rfl)) fun cx => run_not rfl (cx.anc 2 rfl) rfl
      · exact s0 rfl fun cx => run_pick_t rfl (cx.anc 1 rfl) (cx.anc 3 rfl)
      · exact s0 rfl fun cx => run_assign' rfl (cx.anc 4 rfl)
    intro σ β X W6 hD hX hst6 fr hfr
    simp only [zM, exq 0 (hX 0 _ rfl), exq 1 (hX 1 _ rfl), exq 2 (hX 2 _ rfl)] at hst6
    simp only [zP, ed 23 (hD 0 lq), ed 24 (hD 1 lq), ed 25 (hD 2 lq), ed 26 (hD 3 lq), ed 27 (hD 4 lq), ed 8 (hD 5 lq)] at hfr
    clear hX hD; subst hfr; clear σ β X
    refine then_normal ?_
    refine wp_ret ?_
    refine bodyPost_ret (v := .bool (!(b != 0 && didF hi ls own g b))) (by simp [results, Tryd.results27, go_sem]) rfl ?_
    exact Ret.bool (by simp_all [visF]) hst6.ext
  refine wp_region_X [0, 1, 3, 7, 15, 31] [] [] [] (fun ix σ β X => match ix with | 0 => σ 23 = .bool false | 1 => σ 24 = .bool false | 2 => σ 25 = undef | 3 => σ 26 = undef | 4 => σ 27 = .bool false | 5 => σ 8 = .bool false | _ => True) [0, 1, 2] [23, 24, 25, 26, 27, 8] hst3 ?_ ?_ ?_
  · exact fun ix _ _ _ _ _ _ hs hb hx h => match ix, h with
    | 0, h | 1, h | 2, h | 3, h | 4, h | 5, h => (hs _ rfl).symm.trans h
    | _ + 6, _ => trivial
  · refine ⟨⟨⟨⟨⟨⟨trivial, ?_⟩, ?_⟩, ?_⟩, ?_⟩, ?_⟩, ?_⟩
    · exact s0 rfl fun cx => run_move' rfl (Eq.trans (cx.out 10 rfl) (congrArg Value.bool hs5))
    · exact s0 rfl fun cx => run_move' rfl (cx.anc 0 rfl)
    · exact s2 rfl fun cx => (cx.anc 1 rfl)
    · exact s2 rfl fun cx => (cx.anc 1 rfl)
    · exact s0 rfl fun cx => run_pick_f rfl (cx.anc 1 rfl) (cx.sees.const _)
    · exact s0 rfl fun cx => run_assign' rfl (cx.anc 4 rfl)
  intro σ β X W7 hD hX hst7 fr hfr
  simp only [zM, exq 0 (hX 0 _ rfl), exq 1 (hX 1 _ rfl), exq 2 (hX 2 _ rfl)] at hst7
  simp only [zP, ed 23 (hD 0 lq), ed 24 (hD 1 lq), ed 25 (hD 2 lq), ed 26 (hD 3 lq), ed 27 (hD 4 lq), ed 8 (hD 5 lq)] at hfr
  clear hX hD; subst hfr; clear σ β X
  refine then_normal ?_
  refine wp_ret ?_
  refine bodyPost_ret (v := .bool false) (by simp [results, Tryd.results27, go_sem]) rfl ?_
  exact Ret.bool (by simp_all [visF]) hst7.ext

set_option maxRecDepth 100000 in
set_option maxHeartbeats 2000000 in
theorem beside_any (a b n1 n2 : Int) (ho : Bool) (RA : Option Addr) (rn rc : Nat) (hi : Int) (LA : Option Addr) (lc : Nat) (ls : List Int) (OA : Option Addr) (oc : Nat) (own : List Int) (tt : TypeId) (tv : Value) (g : Int → Int) (w : World) (hL : At w LA (ls.map (Value.int .i64))) (hll : ls.length ≤ 100000) (hO : At w OA (own.map (Value.int .i64))) (hol : own.length ≤ 100000) (hS : StOk w tt tv g) :
    Calls Tryd.prog 23 #[.agg #[.int .i64 a, .int .i64 b, .int .i64 n1, .int .i64 n2, .bool ho, .slice RA rn rc], .agg #[.int .i64 hi, .slice LA ls.length lc], .slice OA own.length oc, .iface tt (tv)] w (Ret (.tuple #[.int .i64 (bes1F hi ls own g a), .int .i64 (bes2F hi ls own g b)]) w) := by
  go_enter Tryd.func23, Tryd.ntmps23
  have hst0 := St.start w
  refine wp_seq ?_
  refine wp_region_X [0, 0, 0, 4] [] [[0], [1]] [] (fun ix σ β X => match ix with | 0 => σ 4 = .pointer (some ⟨(pb (β 4)), 0, none⟩) ∧ X 0 = eB (pb (β 4)) 27 #[.int .i64 a, .int .i64 b, .int .i64 n1, .int .i64 n2, .bool ho, .slice RA rn rc] | 1 => σ 5 = .pointer (some ⟨(pb (β 5)), 0, none⟩) ∧ X 1 = eB (pb (β 5)) 41 #[.int .i64 hi, .slice LA ls.length lc] | 2 => σ 8 = .int .i64 0 | 3 => σ 9 = .int .i64 0 | _ => True) [0, 1] [4, 5, 8, 9] hst0 ?_ ?_ ?_
  · exact fun ix _ _ _ _ _ _ hs hb hx h => match ix, h with
    | 2, h | 3, h => (hs _ rfl).symm.trans h
    | 0, h => by dsimp only at h ⊢; rw [← hs 4 rfl, ← hb 4 rfl, ← hx 0 rfl]; exact h
    | 1, h => by dsimp only at h ⊢; rw [← hs 5 rfl, ← hb 5 rfl, ← hx 1 rfl]; exact h
    | _ + 4, _ => trivial
  · refine ⟨⟨⟨⟨trivial, ?_⟩, ?_⟩, ?_⟩, ?_⟩
    · refine sv_any rfl rfl fun ρ β W X cx => ?_
      exact dv_box (cs := #[.int .i64 a, .int .i64 b, .int .i64 n1, .int .i64 n2, .bool ho, .slice RA rn rc]) rfl (cx.out 0 rfl) rfl rfl rfl (fun σ β' X' hs hb hv hx => ⟨hv, hx⟩)
    · refine sv_any rfl rfl fun ρ β W X cx => ?_
      exact dv_box (cs := #[.int .i64 hi, .slice LA ls.length lc]) rfl (cx.out 1 rfl) rfl rfl rfl (fun σ β' X' hs hb hv hx => ⟨hv, hx⟩)
    · exact s0 rfl fun cx => run_assign' rfl (cx.sees.const _)
    · exact s0 rfl fun cx => run_assign' rfl (cx.sees.const _)
  intro σ β X W1 hD hX hst1 fr hfr
  obtain ⟨B4_1, hu_B4_1⟩ : ∃ z, pb (β 4) = z := ⟨_, rfl⟩
  obtain ⟨B5_1, hu_B5_1⟩ : ∃ z, pb (β 5) = z := ⟨_, rfl⟩
  simp only [zM, exq 0 ((hD 0 lq).2), exq 1 ((hD 1 lq).2), hu_B4_1, hu_B5_1] at hst1
  simp only [zP, ed 4 ((hD 0 lq).1), ed 5 ((hD 1 lq).1), ed 8 (hD 2 lq), ed 9 (hD 3 lq), hu_B4_1, hu_B5_1] at hfr
  clear hX hD hu_B4_1 hu_B5_1; subst hfr; clear σ β X
  refine then_normal ?_
  refine wp_seq ?_
  refine wp_region_X [0, 0, 0, 7, 0, 31] [[1], [], [], [], [], [2]] [[], [], [], [], [2], [3]] [[], [], [], [], [], [2]] (fun ix σ β X => match ix with | 0 => σ 13 = .agg #[.int .i64 hi, .slice LA ls.length lc] | 1 => σ 14 = .slice OA own.length oc | 2 => σ 15 = .iface tt (tv) | 3 => σ 16 = .agg #[.int .i64 hi, .slice LA ls.length lc, .slice OA own.length oc, .iface tt (tv)] | 4 => σ 10 = .pointer (some ⟨(pb (β 10)), 0, none⟩) ∧ X 2 = eB (pb (β 10)) 120 #[.int .i64 0, .slice none 0 0, .slice none 0 0, .nilIface] | 5 => X 3 = eB (pb (β 10)) 120 #[.int .i64 hi, .slice LA ls.length lc, .slice OA own.length oc, .iface tt (tv)] | _ => True) [0, 1, 3] [13, 14, 15, 16, 10] hst1 ?_ ?_ ?_
  · exact fun ix _ _ _ _ _ _ hs hb hx h => match ix, h with
    | 0, h | 1, h | 2, h | 3, h => (hs _ rfl).symm.trans h
    | 4, h => by dsimp only at h ⊢; rw [← hs 10 rfl, ← hb 10 rfl, ← hx 2 rfl]; exact h
    | 5, h => by dsimp only at h ⊢; rw [← hb 10 rfl, ← hx 3 rfl]; exact h
    | _ + 6, _ => trivial
  · refine ⟨⟨⟨⟨⟨⟨trivial, ?_⟩, ?_⟩, ?_⟩, ?_⟩, ?_⟩, ?_⟩
    · exact s0 rfl fun cx => run_loadB (n := 2) rfl (by kernel_rfl) (by kernel_rfl) (cx.out 5 rfl) (cx.blk (cx.init 1 _ rfl) rfl) (Nat.le_of_ble_eq_true rfl) rfl
    · exact mo rfl
    · exact mo rfl
    · exact sv0 rfl rfl rfl rfl rfl (fun _ _ _ h => h) fun ρ β W X cx => by
        have fF13 : ρ (.tmp 13) = .agg #[.int .i64 hi, .slice LA ls.length lc] := (cx.anc 0 rfl)
        have fF14 : ρ (.tmp 14) = .slice OA own.length oc := (cx.anc 1 rfl)
        have fF15 : ρ (.tmp 15) = .iface tt (tv) := (cx.anc 2 rfl)
        simp [go_sem, cx.sees.const, fF13, fF14, fF15] <;> rfl
    · refine sv_any rfl rfl fun ρ β W X cx => ?_
      exact dv_alloc (cs := #[.int .i64 0, .slice none 0 0, .slice none 0 0, .nilIface]) rfl (by kernel_rfl) rfl rfl (fun σ β' X' hs hb hv hx => ⟨hv, hx⟩)
    · refine sv_any rfl rfl fun ρ β W X cx => ?_
      exact dv_store (n := 4) rfl (cx.anc 4 rfl).1 (cx.anc 3 rfl) (by kernel_rfl) rfl rfl cx (cx.anc 4 rfl).2 rfl (Nat.le_of_ble_eq_true rfl) rfl rfl rfl rfl (fun σ β' X' hs hb hx => by rw [hb 10]; exact hx)
  intro σ β X W2 hD hX hst2 fr hfr
  obtain ⟨B10_2, hu_B10_2⟩ : ∃ z, pb (β 10) = z := ⟨_, rfl⟩
  simp only [zM, exq 0 (hX 0 _ rfl), exq 1 (hX 1 _ rfl), exq 3 ((hD 5 lq)), hu_B10_2] at hst2
  simp only [zP, ed 13 (hD 0 lq), ed 14 (hD 1 lq), ed 15 (hD 2 lq), ed 16 (hD 3 lq), ed 10 ((hD 4 lq).1), hu_B10_2] at hfr
  clear hX hD hu_B10_2; subst hfr; clear σ β X
  refine then_normal ?_
  refine wp_seq ?_
  refine wp_region_X [0, 0, 2, 7, 15, 31, 31, 63, 255] [[0], [2]] [] [] (fun ix σ β X => match ix with | 0 => σ 18 = .agg #[.int .i64 a, .int .i64 b, .int .i64 n1, .int .i64 n2, .bool ho, .slice RA rn rc] | 1 => σ 19 = .agg #[.int .i64 hi, .slice LA ls.length lc, .slice OA own.length oc, .iface tt (tv)] | 2 => σ 20 = .func (.func 66) #[.agg #[.int .i64 hi, .slice LA ls.length lc, .slice OA own.length oc, .iface tt (tv)]] #[] | 3 => σ 21 = .tuple #[.bool (besF hi ls own g a), .bool (b != 0 && besF hi ls own g b)] | 4 => σ 17 = .tuple #[.bool (besF hi ls own g a), .bool (b != 0 && besF hi ls own g b)] | 5 => σ 22 = .bool (besF hi ls own g a) | 6 => σ 23 = .bool (b != 0 && besF hi ls own g b) | 7 => σ 11 = .bool (besF hi ls own g a) | 8 => σ 12 = .bool (b != 0 && besF hi ls own g b) | _ => True) [0, 1, 2] [18, 19, 20, 21, 17, 22, 23, 11, 12] hst2 ?_ ?_ ?_
  · exact fun ix _ _ _ _ _ _ hs hb hx h => match ix, h with
    | 0, h | 1, h | 2, h | 3, h | 4, h | 5, h | 6, h | 7, h | 8, h => (hs _ rfl).symm.trans h
    | _ + 9, _ => trivial
  · refine ⟨⟨⟨⟨⟨⟨⟨⟨⟨trivial, ?_⟩, ?_⟩, ?_⟩, ?_⟩, ?_⟩, ?_⟩, ?_⟩, ?_⟩, ?_⟩
    · exact s0 rfl fun cx => run_loadB (n := 6) rfl (by kernel_rfl) (by kernel_rfl) (cx.out 4 rfl) (cx.blk (cx.init 0 _ rfl) rfl) (Nat.le_of_ble_eq_true rfl) rfl
    · exact s0 rfl fun cx => run_loadB (n := 4) rfl (by kernel_rfl) (by kernel_rfl) (cx.out 10 rfl) (cx.blk (cx.init 2 _ rfl) rfl) (Nat.le_of_ble_eq_true rfl) rfl
    · exact sv0 rfl rfl rfl rfl rfl (fun _ _ _ h => h) fun ρ β W X cx => by
        have fF19 : ρ (.tmp 19) = .agg #[.int .i64 hi, .slice LA ls.length lc, .slice OA own.length oc, .iface tt (tv)] := (cx.anc 1 rfl)
        simp [go_sem, Instr.makeFunc, fF19]
    · exact sv_call rfl rfl rfl rfl rfl (fun _ _ _ h => h) fun ρ β W X cx => ⟨_, _, run_callF (args := #[.agg #[.int .i64 a, .int .i64 b, .int .i64 n1, .int .i64 n2, .bool ho, .slice RA rn rc], .func (.func 66) #[.agg #[.int .i64 hi, .slice LA ls.length lc, .slice OA own.length oc, .iface tt (tv)]] #[]]) rfl cx.sees rfl (by kernel_rfl) (map2 (cx.anc 0 rfl) (cx.anc 2 rfl)), each_bes hi LA lc ls OA oc own tt tv g a b n1 n2 ho RA rn rc _ (hL.ext cx.upd.to_ext) (by assumption) (hO.ext cx.upd.to_ext) (by assumption) (hS.ext cx.upd.to_ext)⟩
    · exact s0 rfl fun cx => run_move' rfl (cx.anc 3 rfl)
    · exact s0 rfl fun cx => run_extract' rfl (cx.anc 4 rfl) rfl
    · exact s0 rfl fun cx => run_extract' rfl (cx.anc 4 rfl) rfl
    · exact s0 rfl fun cx => run_assign' rfl (cx.anc 5 rfl)
    · exact s0 rfl fun cx => run_assign' rfl (cx.anc 6 rfl)
  intro σ β X W3 hD hX hst3 fr hfr
  simp only [zM, exq 0 (hX 0 _ rfl), exq 1 (hX 1 _ rfl), exq 2 (hX 2 _ rfl)] at hst3
  simp only [zP, ed 18 (hD 0 lq), ed 19 (hD 1 lq), ed 20 (hD 2 lq), ed 21 (hD 3 lq), ed 17 (hD 4 lq), ed 22 (hD 5 lq), ed 23 (hD 6 lq), ed 11 (hD 7 lq), ed 12 (hD 8 lq)] at hfr
  clear hX hD; subst hfr; clear σ β X
  refine then_normal ?_
  refine wp_seq ?_
  refine wp_seq ?_
  refine wp_region_X [0] [] [] [] (fun ix σ β X => match ix with | 0 => σ 24 = .bool (besF hi ls own g a) | _ => True) [0, 1, 2] [24] hst3 ?_ ?_ ?_
  · exact fun ix _ _ _ _ _ _ hs hb hx h => match ix, h with
    | 0, h => (hs _ rfl).symm.trans h
    | _ + 1, _ => trivial
  · refine ⟨trivial, ?_⟩
    · exact mo rfl
  intro σ β X W4 hD hX hst4 fr hfr
  simp only [zM, exq 0 (hX 0 _ rfl), exq 1 (hX 1 _ rfl), exq 2 (hX 2 _ rfl)] at hst4
  simp only [zP, ed 24 (hD 0 lq)] at hfr
  clear hX hD; subst hfr; clear σ β X
  refine then_normal ?_
  rcases Bool.eq_false_or_eq_true (besF hi ls own g a) with hs5 | hs5
  · skip
    refine wp_cond_true (show Act.eval _ _ = .bool true from (congrArg Value.bool hs5)) ?_
    refine wp_region_X [0, 1, 3] [[], [0]] [] [] (fun ix σ β X => match ix with | 0 => σ 25 = .pointer (some ⟨B4_1, 0, none⟩) | 1 => σ 26 = .int .i64 a | 2 => σ 8 = .int .i64 a | _ => True) [0, 1, 2] [25, 26, 8] hst4 ?_ ?_ ?_
    · exact fun ix _ _ _ _ _ _ hs hb hx h => match ix, h with
      | 0, h | 1, h | 2, h => (hs _ rfl).symm.trans h
      | _ + 3, _ => trivial
    · refine ⟨⟨⟨trivial, ?_⟩, ?_⟩, ?_⟩
      · exact s0 rfl fun cx => run_fieldAddr' (k := 0) (n := 0) rfl (by kernel_rfl) (cx.out 4 rfl) rfl
      · exact s0 rfl fun cx => run_load1 rfl (by kernel_rfl) (cx.anc 0 rfl) ((cx.blk (cx.init 0 _ rfl) rfl).cell 0)
      · exact s0 rfl fun cx => run_assign' rfl (cx.anc 1 rfl)
    intro σ β X W6 hD hX hst6 fr hfr
    simp only [zM, exq 0 (hX 0 _ rfl), exq 1 (hX 1 _ rfl), exq 2 (hX 2 _ rfl)] at hst6
    simp only [zP, ed 25 (hD 0 lq), ed 26 (hD 1 lq), ed 8 (hD 2 lq)] at hfr
    clear hX hD; subst hfr; clear σ β X
    refine then_normal ?_
    refine wp_seq ?_
    refine wp_seq ?_
    refine wp_region_X [0] [] [] [] (fun ix σ β X => match ix with | 0 => σ 27 = .bool (b != 0 && besF hi ls own g b) | _ => True) [0, 1, 2] [27] hst6 ?_ ?_ ?_
    · exact fun ix _ _ _ _ _ _ hs hb hx h => match ix, h with
      | 0, h => (hs _ rfl).symm.trans h
      | _ + 1, _ => trivial
    · refine ⟨trivial, ?_⟩
      · exact mo rfl
    intro σ β X W7 hD hX hst7 fr hfr
    simp only [zM, exq 0 (hX 0 _ rfl), exq 1 (hX 1 _ rfl), exq 2 (hX 2 _ rfl)] at hst7
    simp only [zP, ed 27 (hD 0 lq)] at hfr
    clear hX hD; subst hfr; clear σ β X
    refine then_normal ?_
    rcases Bool.eq_false_or_eq_true (b != 0 && besF hi ls own g b) with hs8 | hs8
    · skip
      refine wp_cond_true (show Act.eval _ _ = .bool true from (congrArg Value.bool hs8)) ?_
      refine wp_region_X [0, 1, 3] [[], [0]] [] [] (fun ix σ β X => match ix with | 0 => σ 28 = .pointer (some ⟨B4_1, 1, none⟩) | 1 => σ 29 = .int .i64 b | 2 => σ 9 = .int .i64 b | _ => True) [0, 1, 2] [28, 29, 9] hst7 ?_ ?_ ?_
      · exact fun ix _ _ _ _ _ _ hs hb hx h => match ix, h with
        | 0, h | 1, h | 2, h => (hs _ rfl).symm.trans h
        | _ + 3, _ => trivial
      · refine ⟨⟨⟨trivial, ?_⟩, ?_⟩, ?_⟩
        · exact s0 rfl fun cx => run_fieldAddr' (k := 1) (n := 1) rfl (by kernel_rfl) (cx.out 4 rfl) rfl
        · exact s0 rfl fun cx => run_load1 rfl (by kernel_rfl) (cx.anc 0 rfl) ((cx.blk (cx.init 0 _ rfl) rfl).cell 1)
        · exact s0 rfl fun cx => run_assign' rfl (cx.anc 1 rfl)
      intro σ β X W9 hD hX hst9 fr hfr
      simp only [zM, exq 0 (hX 0 _ rfl), exq 1 (hX 1 _ rfl), exq 2 (hX 2 _ rfl)] at hst9
      simp only [zP, ed 28 (hD 0 lq), ed 29 (hD 1 lq), ed 9 (hD 2 lq)] at hfr
      clear hX hD; subst hfr; clear σ β X
      refine then_normal ?_
      refine wp_seq ?_
      refine wp_region_X [0, 0, 1, 7] [] [] [] (fun ix σ β X => match ix with | 0 => σ 30 = .int .i64 a | 1 => σ 31 = .int .i64 b | 2 => σ 8 = .int .i64 a | 3 => σ 9 = .int .i64 b | _ => True) [0, 1, 2] [30, 31, 8, 9] hst9 ?_ ?_ ?_
      · exact fun ix _ _ _ _ _ _ hs hb hx h => match ix, h with
        | 0, h | 1, h | 2, h | 3, h => (hs _ rfl).symm.trans h
        | _ + 4, _ => trivial
      · refine ⟨⟨⟨⟨trivial, ?_⟩, ?_⟩, ?_⟩, ?_⟩
        · exact mo rfl
        · exact mo rfl
        · exact s0 rfl fun cx => run_assign' rfl (cx.anc 0 rfl)
        · exact s0 rfl fun cx => run_assign' rfl (cx.anc 1 rfl)
      intro σ β X W10 hD hX hst10 fr hfr
      simp only [zM, exq 0 (hX 0 _ rfl), exq 1 (hX 1 _ rfl), exq 2 (hX 2 _ rfl)] at hst10
      simp only [zP, ed 30 (hD 0 lq), ed 31 (hD 1 lq), ed 8 (hD 2 lq), ed 9 (hD 3 lq)] at hfr
      clear hX hD; subst hfr; clear σ β X
      refine then_normal ?_
      refine wp_ret ?_
      refine bodyPost_ret (v := .tuple #[.int .i64 a, .int .i64 b]) (by simp [results, Tryd.results23, go_sem]) rfl ?_
      exact Ret.of (by simp_all [bes1F, bes2F]) hst10.ext
    refine wp_cond_false (show Act.eval _ _ = .bool false from (congrArg Value.bool hs8)) ?_
    refine wp_skip ?_
    refine then_normal ?_
    refine wp_seq ?_
    refine wp_region_X [0, 0, 1, 7] [] [] [] (fun ix σ β X => match ix with | 0 => σ 30 = .int .i64 a | 1 => σ 31 = .int .i64 0 | 2 => σ 8 = .int .i64 a | 3 => σ 9 = .int .i64 0 | _ => True) [0, 1, 2] [30, 31, 8, 9] hst7 ?_ ?_ ?_
    · exact fun ix _ _ _ _ _ _ hs hb hx h => match ix, h with
      | 0, h | 1, h | 2, h | 3, h => (hs _ rfl).symm.trans h
      | _ + 4, _ => trivial
    · refine ⟨⟨⟨⟨trivial, ?_⟩, ?_⟩, ?_⟩, ?_⟩
      · exact mo rfl
      · exact mo rfl
      · exact s0 rfl fun cx => run_assign' rfl (cx.anc 0 rfl)
      · exact s0 rfl fun cx => run_assign' rfl (cx.anc 1 rfl)
    intro σ β X W11 hD hX hst11 fr hfr
    simp only [zM, exq 0 (hX 0 _ rfl), exq 1 (hX 1 _ rfl), exq 2 (hX 2 _ rfl)] at hst11
    simp only [zP, ed 30 (hD 0 lq), ed 31 (hD 1 lq), ed 8 (hD 2 lq), ed 9 (hD 3 lq)] at hfr
    clear hX hD; subst hfr; clear σ β X
    refine then_normal ?_
    refine wp_ret ?_
    refine bodyPost_ret (v := .tuple #[.int .i64 a, .int .i64 0]) (by simp [results, Tryd.results23, go_sem]) rfl ?_
    exact Ret.of (by simp_all [bes1F, bes2F]) hst11.ext
  refine wp_cond_false (show Act.eval _ _ = .bool false from (congrArg Value.bool hs5)) ?_
  refine wp_skip ?_
  refine then_normal ?_
  refine wp_seq ?_
  refine wp_seq ?_
  refine wp_region_X [0] [] [] [] (fun ix σ β X => match ix with | 0 => σ 27 = .bool (b != 0 && besF hi ls own g b) | _ => True) [0, 1, 2] [27] hst4 ?_ ?_ ?_
  · exact fun ix _ _ _ _ _ _ hs hb hx h => match ix, h with
    | 0, h => (hs _ rfl).symm.trans h
    | _ + 1, _ => trivial
  · refine ⟨trivial, ?_⟩
    · exact mo rfl
  intro σ β X W12 hD hX hst12 fr hfr
  simp only [zM, exq 0 (hX 0 _ rfl), exq 1 (hX 1 _ rfl), exq 2 (hX 2 _ rfl)] at hst12
  simp only [zP, ed 27 (hD 0 lq)] at hfr
  clear hX hD; subst hfr; clear σ β X
  refine then_normal ?_
  rcases Bool.eq_false_or_eq_true (b != 0 && besF hi ls own g b) with hs13 | hs13
  · skip
    refine wp_cond_true (show Act.eval _ _ = .bool true from (congrArg Value.bool hs13)) ?_
    refine wp_region_X [0, 1, 3] [[], [0]] [] [] (fun ix σ β X => match ix with | 0 => σ 28 = .pointer (some ⟨B4_1, 1, none⟩) | 1 => σ 29 = .int .i64 b | 2 => σ 9 = .int .i64 b | _ => True) [0, 1, 2] [28, 29, 9] hst12 ?_ ?_ ?_
    · exact fun ix _ _ _ _ _ _ hs hb hx h => match ix, h with
      | 0, h | 1, h | 2, h => (hs _ rfl).symm.trans h
      | _ + 3, _ => trivial
    · refine ⟨⟨⟨trivial, ?_⟩, ?_⟩, ?_⟩
      · exact s0 rfl fun cx => run_fieldAddr' (k := 1) (n := 1) rfl (by kernel_rfl) (cx.out 4 rfl) rfl
      · exact s0 rfl fun cx => run_load1 rfl (by kernel_rfl) (cx.anc 0 rfl) ((cx.blk (cx.init 0 _ rfl) rfl).cell 1)
      · exact s0 rfl fun cx => run_assign' rfl (cx.anc 1 rfl)
    intro σ β X W14 hD hX hst14 fr hfr
    simp only [zM, exq 0 (hX 0 _ rfl), exq 1 (hX 1 _ rfl), exq 2 (hX 2 _ rfl)] at hst14
    simp only [zP, ed 28 (hD 0 lq), ed 29 (hD 1 lq), ed 9 (hD 2 lq)] at hfr
    clear hX hD; subst hfr; clear σ β X
    refine then_normal ?_
    refine wp_seq ?_
    refine wp_region_X [0, 0, 1, 7] [] [] [] (fun ix σ β X => match ix with | 0 => σ 30 = .int .i64 0 | 1 => σ 31 = .int .i64 b | 2 => σ 8 = .int .i64 0 | 3 => σ 9 = .int .i64 b | _ => True) [0, 1, 2] [30, 31, 8, 9] hst14 ?_ ?_ ?_
    · exact fun ix _ _ _ _ _ _ hs hb hx h => match ix, h with
      | 0, h | 1, h | 2, h | 3, h => (hs _ rfl).symm.trans h
      | _ + 4, _ => trivial
    · refine ⟨⟨⟨⟨trivial, ?_⟩, ?_⟩, ?_⟩, ?_⟩
      · exact mo rfl
      · exact mo rfl
      · exact s0 rfl fun cx => run_assign' rfl (cx.anc 0 rfl)
      · exact s0 rfl fun cx => run_assign' rfl (cx.anc 1 rfl)
    intro σ β X W15 hD hX hst15 fr hfr
    simp only [zM, exq 0 (hX 0 _ rfl), exq 1 (hX 1 _ rfl), exq 2 (hX 2 _ rfl)] at hst15
    simp only [zP, ed 30 (hD 0 lq), ed 31 (hD 1 lq), ed 8 (hD 2 lq), ed 9 (hD 3 lq)] at hfr
    clear hX hD; subst hfr; clear σ β X
    refine then_normal ?_
    refine wp_ret ?_
    refine bodyPost_ret (v := .tuple #[.int .i64 0, .int .i64 b]) (by simp [results, Tryd.results23, go_sem]) rfl ?_
    exact Ret.of (by simp_all [bes1F, bes2F]) hst15.ext
  refine wp_cond_false (show Act.eval _ _ = .bool false from (congrArg Value.bool hs13)) ?_
  refine wp_skip ?_
  refine then_normal ?_
  refine wp_seq ?_
  refine wp_region_X [0, 0, 1, 7] [] [] [] (fun ix σ β X => match ix with | 0 => σ 30 = .int .i64 0 | 1 => σ 31 = .int .i64 0 | 2 => σ 8 = .int .i64 0 | 3 => σ 9 = .int .i64 0 | _ => True) [0, 1, 2] [30, 31, 8, 9] hst12 ?_ ?_ ?_
  · exact fun ix _ _ _ _ _ _ hs hb hx h => match ix, h with
    | 0, h | 1, h | 2, h | 3, h => (hs _ rfl).symm.trans h
    | _ + 4, _ => trivial
  · refine ⟨⟨⟨⟨trivial, ?_⟩, ?_⟩, ?_⟩, ?_⟩
    · exact mo rfl
    · exact mo rfl
    · exact s0 rfl fun cx => run_assign' rfl (cx.anc 0 rfl)
    · exact s0 rfl fun cx => run_assign' rfl (cx.anc 1 rfl)
  intro σ β X W16 hD hX hst16 fr hfr
  simp only [zM, exq 0 (hX 0 _ rfl), exq 1 (hX 1 _ rfl), exq 2 (hX 2 _ rfl)] at hst16
  simp only [zP, ed 30 (hD 0 lq), ed 31 (hD 1 lq), ed 8 (hD 2 lq), ed 9 (hD 3 lq)] at hfr
  clear hX hD; subst hfr; clear σ β X
  refine then_normal ?_
  refine wp_ret ?_
  refine bodyPost_ret (v := .tuple #[.int .i64 0, .int .i64 0]) (by simp [results, Tryd.results23, go_sem]) rfl ?_
  exact Ret.of (by simp_all [bes1F, bes2F]) hst16.ext

end Go.Proofs.YtfjpglohcppjeaaDoor

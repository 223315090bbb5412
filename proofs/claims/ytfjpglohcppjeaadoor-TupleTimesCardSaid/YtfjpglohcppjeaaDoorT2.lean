/- What a snapshot sees: the program's tuple functions over any states. -/
import Derived.Test.YtfjpglohcppjeaaDoorT1
namespace Go.Proofs.YtfjpglohcppjeaaDoor
open Go.RowKit
set_option linter.unusedVariables false
set_option linter.unusedSimpArgs false

/-- the interface value .iface tt tv answers g -/
structure StOk (w : World) (tt : TypeId) (tv : Value) (g : Int → Int) : Prop where
  ex : ∃ f rv, Meth Tryd.prog tt tv "State" f rv ∧ callP Tryd.prog f = true ∧ ∀ W x, Ext w W → Calls Tryd.prog f #[rv, .int .i64 x] W (Ret (.int .i64 (g x)) W)
theorem StOk.ext {w W : World} {tt : TypeId} {tv : Value} {g : Int → Int} (h : StOk w tt tv g) (hx : Ext w W) : StOk W tt tv g := by
  obtain ⟨f, rv, h1, h2, h3⟩ := h.ex
  exact ⟨f, rv, h1, h2, fun W' x hx' => h3 W' x (hx.trans hx')⟩
section
variable (hi : Int) (ls own : List Int) (g : Int → Int)
def endedF (x : Int) : Bool := if x = 2 then true else onF x && beforeF x hi && !ls.contains x && g x == 2
def mineF (x : Int) : Bool := own.contains x && g x != 3
def didF (x : Int) : Bool := mineF own g x || endedF hi ls g x
def besF (x : Int) : Bool := onF x && !own.contains x && (g x == 1 || g x == 4 || g x == 2) && !endedF hi ls g x
def visF (a b : Int) : Bool := didF hi ls own g a && !(b != 0 && didF hi ls own g b)
def bes1F (a : Int) : Int := if besF hi ls own g a then a else 0
def bes2F (b : Int) : Int := if b != 0 && besF hi ls own g b then b else 0
def busyF (b : Int) : Int := if own.contains b || (g b != 1 && g b != 4) then 0 else b
def oldF (hz x : Int) : Bool := onF x && beforeF x hz && g x == 2
def deadF (hz a b : Int) : Bool := g a == 3 || oldF g hz b
def allF (hz a b : Int) : Bool := (a == 2 || oldF g hz a) && (b == 0 || g b == 3)
end

set_option maxRecDepth 100000 in
set_option maxHeartbeats 2000000 in
theorem ton_any (x : Int) (w : World) :
    Calls Tryd.prog 105 #[.int .i64 x] w (Ret (.bool (onF x)) w) := by
  go_enter Tryd.func105, Tryd.ntmps105
  have hst0 := St.start w
  refine wp_seq ?_
  refine wp_region_P [0] [.k 2 (.bool false)] [(2, 0, 1, 3)] hst0 fun W1 hst1 => ?_
  refine then_normal ?_
  refine wp_seq ?_
  refine wp_region_P [0, 1, 3, 7, 15, 31, 63] [.k 3 (.int .i64 x), .k 4 (.bool (decide (3 ≤ x))), .k 5 (.bool (decide (3 ≤ x))), .z 6 (decide (3 ≤ x)) (.int .i64 x), .z 7 (decide (3 ≤ x)) (.bool (decide (x < 128))), tA 8 (decide (3 ≤ x)) (decide (x < 128)), .k 2 (.bool ((decide (3 ≤ x)) && (decide (x < 128))))] [(2, 6, 1, 3), (0, 0, 6, 6)] hst1 fun W2 hst2 => ?_
  refine then_normal ?_
  refine wp_ret ?_
  refine bodyPost_ret (v := .bool ((decide (3 ≤ x)) && (decide (x < 128)))) (results_tmp Tryd.results105 rfl) rfl ?_
  exact Ret.bool (by simp [onF, *]) hst2.ext

set_option maxRecDepth 100000 in
set_option maxHeartbeats 2000000 in
theorem cended_any (hi : Int) (LA : Option Addr) (lc : Nat) (ls : List Int) (tt : TypeId) (tv : Value) (g : Int → Int) (x : Int) (w : World) (hL : At w LA (ls.map (Value.int .i64))) (hll : ls.length ≤ 100000) (hS : StOk w tt tv g) :
    Calls Tryd.prog 36 #[.agg #[.int .i64 hi, .slice LA ls.length lc], .int .i64 x, .iface tt (tv)] w (Ret (.bool (endedF hi ls g x)) w) := by
  obtain ⟨f0, rv, hM, hC, hG⟩ := hS.ex
  go_enter Tryd.func36, Tryd.ntmps36
  have hst0 := St.start w
  refine wp_seq ?_
  refine wp_region_T [0, 0] [] [[0]] [] [.a 3, .k 6 (.bool false)] (fun ix σ β X => match ix with | 0 => σ 3 = .pointer (some ⟨(pb (β 3)), 0, none⟩) ∧ X 0 = eB (pb (β 3)) 41 #[.int .i64 hi, .slice LA ls.length lc] | _ => True) [0] [0] [(3, 0, 1, 4), (2, 1, 1, 3)] hst0 ?_ ?_ ?_
  · exact fun ix _ _ _ _ _ _ hs hb hx h => match ix, h with
    | 0, h => by dsimp only at h ⊢; rw [← hs 3 rfl, ← hb 3 rfl, ← hx 0 rfl]; exact h
    | _ + 1, _ => trivial
  · refine ⟨?_, trivial⟩
    · refine sv_any rfl rfl fun ρ β W X cx => ?_
      exact dv_box (cs := #[.int .i64 hi, .slice LA ls.length lc]) rfl (cx.out 0 rfl) rfl rfl rfl (fun σ β' X' hs hb hv hx => ⟨hv, hx⟩)
  intro σ β X W1 hD hX hst1 fr hfr
  obtain ⟨B3_1, hu_B3_1⟩ : ∃ z, pb (β 3) = z := ⟨_, rfl⟩
  simp only [zM, exq 0 ((dTn (hD 0 lq)).2), hu_B3_1] at hst1
  dsimp only [mgT, vals, List.take, List.drop, List.cons_append, List.nil_append] at hfr
  simp only [ed 3 ((dTn (hD 0 lq)).1), hu_B3_1] at hfr
  clear hX hD hu_B3_1; subst hfr; clear σ β X
  refine then_normal ?_
  refine wp_seq ?_
  refine wp_seq ?_
  refine wp_region_P [0, 1] [.k 7 (.int .i64 x), .k 8 (.bool (x == 2))] [(7, 0, 2, 9)] hst1 fun W2 hst2 => ?_
  refine then_normal ?_
  rcases Bool.eq_false_or_eq_true (x == 2) with hs3 | hs3
  · skip
    have hs3p : x = 2 := by simpa using hs3
    refine wp_cond_true (show Act.eval _ _ = .bool true from (congrArg Value.bool hs3)) ?_
    refine wp_seq ?_
    refine wp_region_P [0] [.k 6 (.bool true)] [(6, 0, 1, 7)] hst2 fun W4 hst4 => ?_
    refine then_normal ?_
    refine wp_ret ?_
    refine then_ret ?_
    refine bodyPost_ret (v := .bool true) (results_tmp Tryd.results36 rfl) rfl ?_
    exact Ret.bool (by simp_all [endedF]) hst4.ext
  have hs3p : x ≠ 2 := by simpa using hs3
  refine wp_cond_false (show Act.eval _ _ = .bool false from (congrArg Value.bool hs3)) ?_
  refine wp_skip ?_
  refine then_normal ?_
  refine wp_seq ?_
  refine wp_region_T [0, 1, 3, 7, 7, 23, 63, 127, 255, 511, 1023, 511, 4095, 8191, 16383, 32767, 65535, 65535, 262143, 524287, 1048575, 2097151] [[], [], [], [], [], [0], [], [], [], [], [0]] [] [] [.k 9 (.int .i64 x), .c 10 (.bool (onF x)), .k 11 (.bool (onF x)), .z 12 (onF x) (.int .i64 x), .z 13 (onF x) (.pointer (some ⟨B3_1, 0, none⟩)), .y 14 (onF x) (.int .i64 hi), .y 15 (onF x) (.bool (beforeF x hi)), tA 16 (onF x) (beforeF x hi), .k 17 (.bool ((onF x) && (beforeF x hi))), .z 18 ((onF x) && (beforeF x hi)) (.pointer (some ⟨B3_1, 1, none⟩)), .y 19 ((onF x) && (beforeF x hi)) (.slice LA ls.length lc), .z 20 ((onF x) && (beforeF x hi)) (.int .i64 x), .y 21 ((onF x) && (beforeF x hi)) (.bool (ls.contains x)), .z 22 ((onF x) && (beforeF x hi)) (.bool (!(ls.contains x))), tA 23 ((onF x) && (beforeF x hi)) (!(ls.contains x)), .k 24 (.bool (((onF x) && (beforeF x hi)) && (!(ls.contains x)))), .z 25 (((onF x) && (beforeF x hi)) && (!(ls.contains x))) (.iface tt (tv)), .z 26 (((onF x) && (beforeF x hi)) && (!(ls.contains x))) (.int .i64 x), .y 27 (((onF x) && (beforeF x hi)) && (!(ls.contains x))) (.int .i64 (g x)), .z 28 (((onF x) && (beforeF x hi)) && (!(ls.contains x))) (.bool ((g x) == 2)), tA 29 (((onF x) && (beforeF x hi)) && (!(ls.contains x))) ((g x) == 2), .k 6 (.bool ((((onF x) && (beforeF x hi)) && (!(ls.contains x))) && ((g x) == 2)))] (fun _ _ _ _ => True) [0] [1, 5, 6, 10, 12, 18] [(6, 21, 1, 7), (2, 0, 21, 23)] hst2 ?_ ?_ ?_
  · exact fun _ _ _ _ _ _ _ _ _ _ h => h
  · refine ⟨?_, ?_, ?_, ?_, ?_, ?_, trivial⟩
    · exact sv_call rfl rfl rfl rfl rfl (fun _ _ _ h => h) fun ρ β W X cx => ⟨_, _, run_callF (args := #[.int .i64 x]) rfl cx.sees rfl (by kernel_rfl) (map1 (cx.anc 0 rfl)), con_any x _⟩
    · exact m2 rfl (fun _ _ _ h => h) (fun cx => (cx.anc 2 rfl)) fun cx hq => run_load1 rfl (by kernel_rfl) (mbv (cx.anc 4 rfl) hq) ((cx.blk (cx.init 0 _ rfl) rfl).cell 0)
    · exact m3 rfl (fun _ _ _ h => h) (fun cx => (cx.anc 2 rfl)) fun cx hq => ⟨_, _, run_callF (args := #[.int .i64 x, .int .i64 hi]) rfl cx.sees rfl (by kernel_rfl) (map2 (mbv (cx.anc 3 rfl) hq) (mbv (cx.anc 5 rfl) hq)), cbefore_any x hi _⟩
    · exact m2 rfl (fun _ _ _ h => h) (fun cx => (cx.anc 8 rfl)) fun cx hq => run_load1 rfl (by kernel_rfl) (mbv (cx.anc 9 rfl) hq) ((cx.blk (cx.init 0 _ rfl) rfl).cell 1)
    · exact m3 rfl (fun _ _ _ h => h) (fun cx => (cx.anc 8 rfl)) fun cx hq => ⟨_, _, run_callF (args := #[.slice LA ls.length lc, .int .i64 x]) rfl cx.sees rfl (by kernel_rfl) (map2 (mbv (cx.anc 10 rfl) hq) (mbv (cx.anc 11 rfl) hq)), icontains_any _ _ ls x _ (hL.ext cx.upd.to_ext) (by assumption)⟩
    · exact m3 rfl (fun _ _ _ h => h) (fun cx => (cx.anc 15 rfl)) fun cx hq => ⟨_, _, run_invoke (args := #[.int .i64 x]) (args' := #[rv, .int .i64 x]) rfl rfl (mbv (cx.anc 16 rfl) hq) hM hC (map1 (mbv (cx.anc 17 rfl) hq)) rfl, hG _ x cx.upd.to_ext⟩
  intro σ β X W5 hD hX hst5 fr hfr
  simp only [zM, exq 0 (hX 0 _ rfl)] at hst5
  dsimp only [mgT, vals, List.take, List.drop, List.cons_append, List.nil_append] at hfr
  clear hX hD; subst hfr; clear σ β X
  refine then_normal ?_
  refine wp_ret ?_
  refine bodyPost_ret (v := .bool ((((onF x) && (beforeF x hi)) && (!(ls.contains x))) && ((g x) == 2))) (results_tmp Tryd.results36 rfl) rfl ?_
  exact Ret.bool (by simp_all [endedF]) hst5.ext

set_option maxRecDepth 100000 in
set_option maxHeartbeats 2000000 in
theorem mine_any (hi : Int) (LA : Option Addr) (lc : Nat) (ls : List Int) (OA : Option Addr) (oc : Nat) (own : List Int) (tt : TypeId) (tv : Value) (g : Int → Int) (x : Int) (w : World) (hO : At w OA (own.map (Value.int .i64))) (hol : own.length ≤ 100000) (hS : StOk w tt tv g) :
    Calls Tryd.prog 115 #[.agg #[.int .i64 hi, .slice LA ls.length lc, .slice OA own.length oc, .iface tt (tv)], .int .i64 x] w (Ret (.bool (mineF own g x)) w) := by
  obtain ⟨f0, rv, hM, hC, hG⟩ := hS.ex
  go_enter Tryd.func115, Tryd.ntmps115
  have hst0 := St.start w
  refine wp_seq ?_
  refine wp_region_T [0, 0] [] [[0]] [] [.a 2, .k 4 (.bool false)] (fun ix σ β X => match ix with | 0 => σ 2 = .pointer (some ⟨(pb (β 2)), 0, none⟩) ∧ X 0 = eB (pb (β 2)) 120 #[.int .i64 hi, .slice LA ls.length lc, .slice OA own.length oc, .iface tt (tv)] | _ => True) [0] [0] [(2, 0, 1, 3), (1, 1, 1, 2)] hst0 ?_ ?_ ?_
  · exact fun ix _ _ _ _ _ _ hs hb hx h => match ix, h with
    | 0, h => by dsimp only at h ⊢; rw [← hs 2 rfl, ← hb 2 rfl, ← hx 0 rfl]; exact h
    | _ + 1, _ => trivial
  · refine ⟨?_, trivial⟩
    · refine sv_any rfl rfl fun ρ β W X cx => ?_
      exact dv_box (cs := #[.int .i64 hi, .slice LA ls.length lc, .slice OA own.length oc, .iface tt (tv)]) rfl (cx.out 0 rfl) rfl rfl rfl (fun σ β' X' hs hb hv hx => ⟨hv, hx⟩)
  intro σ β X W1 hD hX hst1 fr hfr
  obtain ⟨B2_1, hu_B2_1⟩ : ∃ z, pb (β 2) = z := ⟨_, rfl⟩
  simp only [zM, exq 0 ((dTn (hD 0 lq)).2), hu_B2_1] at hst1
  dsimp only [mgT, vals, List.take, List.drop, List.cons_append, List.nil_append] at hfr
  simp only [ed 2 ((dTn (hD 0 lq)).1), hu_B2_1] at hfr
  clear hX hD hu_B2_1; subst hfr; clear σ β X
  refine then_normal ?_
  refine wp_seq ?_
  refine wp_region_T [0, 1, 0, 7, 15, 31, 63, 31, 255, 511, 1023, 2047] [[], [0], [], [], [], [], [0]] [] [] [.k 5 (.pointer (some ⟨B2_1, 2, none⟩)), .c 6 (.slice OA own.length oc), .k 7 (.int .i64 x), .c 8 (.bool (own.contains x)), .k 9 (.bool (own.contains x)), .z 10 (own.contains x) (.pointer (some ⟨B2_1, 3, none⟩)), .y 11 (own.contains x) (.iface tt (tv)), .z 12 (own.contains x) (.int .i64 x), .y 13 (own.contains x) (.int .i64 (g x)), .z 14 (own.contains x) (.bool ((g x) != 3)), tA 15 (own.contains x) ((g x) != 3), .k 4 (.bool ((own.contains x) && ((g x) != 3)))] (fun _ _ _ _ => True) [0] [1, 3, 6, 8] [(4, 11, 1, 5), (0, 0, 11, 11)] hst1 ?_ ?_ ?_
  · exact fun _ _ _ _ _ _ _ _ _ _ h => h
  · refine ⟨?_, ?_, ?_, ?_, trivial⟩
    · exact s4 rfl (fun _ _ _ h => h) fun cx => run_load1 rfl (by kernel_rfl) (cx.anc 0 rfl) ((cx.blk (cx.init 0 _ rfl) rfl).cell 2)
    · exact sv_call rfl rfl rfl rfl rfl (fun _ _ _ h => h) fun ρ β W X cx => ⟨_, _, run_callF (args := #[.slice OA own.length oc, .int .i64 x]) rfl cx.sees rfl (by kernel_rfl) (map2 (cx.anc 1 rfl) (cx.anc 2 rfl)), icontains_any _ _ own x _ (hO.ext cx.upd.to_ext) (by assumption)⟩
    · exact m2 rfl (fun _ _ _ h => h) (fun cx => (cx.anc 4 rfl)) fun cx hq => run_load1 rfl (by kernel_rfl) (mbv (cx.anc 5 rfl) hq) ((cx.blk (cx.init 0 _ rfl) rfl).cell 3)
    · exact m3 rfl (fun _ _ _ h => h) (fun cx => (cx.anc 4 rfl)) fun cx hq => ⟨_, _, run_invoke (args := #[.int .i64 x]) (args' := #[rv, .int .i64 x]) rfl rfl (mbv (cx.anc 6 rfl) hq) hM hC (map1 (mbv (cx.anc 7 rfl) hq)) rfl, hG _ x cx.upd.to_ext⟩
  intro σ β X W2 hD hX hst2 fr hfr
  simp only [zM, exq 0 (hX 0 _ rfl)] at hst2
  dsimp only [mgT, vals, List.take, List.drop, List.cons_append, List.nil_append] at hfr
  clear hX hD; subst hfr; clear σ β X
  refine then_normal ?_
  refine wp_ret ?_
  refine bodyPost_ret (v := .bool ((own.contains x) && ((g x) != 3))) (results_tmp Tryd.results115 rfl) rfl ?_
  exact Ret.bool (by simp_all [mineF]) hst2.ext

set_option maxRecDepth 100000 in
set_option maxHeartbeats 2000000 in
theorem did_any (hi : Int) (LA : Option Addr) (lc : Nat) (ls : List Int) (OA : Option Addr) (oc : Nat) (own : List Int) (tt : TypeId) (tv : Value) (g : Int → Int) (x : Int) (w : World) (hL : At w LA (ls.map (Value.int .i64))) (hll : ls.length ≤ 100000) (hO : At w OA (own.map (Value.int .i64))) (hol : own.length ≤ 100000) (hS : StOk w tt tv g) :
    Calls Tryd.prog 72 #[.agg #[.int .i64 hi, .slice LA ls.length lc, .slice OA own.length oc, .iface tt (tv)], .int .i64 x] w (Ret (.bool (didF hi ls own g x)) w) := by
  go_enter Tryd.func72, Tryd.ntmps72
  have hst0 := St.start w
  refine wp_seq ?_
  refine wp_region_T [0, 0] [] [[0]] [] [.a 2, .k 4 (.bool false)] (fun ix σ β X => match ix with | 0 => σ 2 = .pointer (some ⟨(pb (β 2)), 0, none⟩) ∧ X 0 = eB (pb (β 2)) 120 #[.int .i64 hi, .slice LA ls.length lc, .slice OA own.length oc, .iface tt (tv)] | _ => True) [0] [0] [(2, 0, 1, 3), (1, 1, 1, 2)] hst0 ?_ ?_ ?_
  · exact fun ix _ _ _ _ _ _ hs hb hx h => match ix, h with
    | 0, h => by dsimp only at h ⊢; rw [← hs 2 rfl, ← hb 2 rfl, ← hx 0 rfl]; exact h
    | _ + 1, _ => trivial
  · refine ⟨?_, trivial⟩
    · refine sv_any rfl rfl fun ρ β W X cx => ?_
      exact dv_box (cs := #[.int .i64 hi, .slice LA ls.length lc, .slice OA own.length oc, .iface tt (tv)]) rfl (cx.out 0 rfl) rfl rfl rfl (fun σ β' X' hs hb hv hx => ⟨hv, hx⟩)
  intro σ β X W1 hD hX hst1 fr hfr
  obtain ⟨B2_1, hu_B2_1⟩ : ∃ z, pb (β 2) = z := ⟨_, rfl⟩
  simp only [zM, exq 0 ((dTn (hD 0 lq)).2), hu_B2_1] at hst1
  dsimp only [mgT, vals, List.take, List.drop, List.cons_append, List.nil_append] at hfr
  simp only [ed 2 ((dTn (hD 0 lq)).1), hu_B2_1] at hfr
  clear hX hD hu_B2_1; subst hfr; clear σ β X
  refine then_normal ?_
  refine wp_seq ?_
  refine wp_region_T [0, 0, 3, 7, 15, 31, 15, 15, 143, 511, 1023, 2047] [[0], [], [], [], [], [0], [], [], [0]] [] [] [.c 5 (.agg #[.int .i64 hi, .slice LA ls.length lc, .slice OA own.length oc, .iface tt (tv)]), .k 6 (.int .i64 x), .c 7 (.bool (mineF own g x)), .k 8 (.bool (mineF own g x)), .z 9 (!(mineF own g x)) (.pointer (some ⟨B2_1, 0, none⟩)), .y 10 (!(mineF own g x)) (.agg #[.int .i64 hi, .slice LA ls.length lc]), .z 11 (!(mineF own g x)) (.int .i64 x), .z 12 (!(mineF own g x)) (.pointer (some ⟨B2_1, 3, none⟩)), .y 13 (!(mineF own g x)) (.iface tt (tv)), .y 14 (!(mineF own g x)) (.bool (endedF hi ls g x)), tO 15 (mineF own g x) (endedF hi ls g x), .k 4 (.bool ((mineF own g x) || (endedF hi ls g x)))] (fun _ _ _ _ => True) [0] [0, 2, 5, 8, 9] [(4, 11, 1, 5), (0, 0, 11, 11)] hst1 ?_ ?_ ?_
  · exact fun _ _ _ _ _ _ _ _ _ _ h => h
  · refine ⟨?_, ?_, ?_, ?_, ?_, trivial⟩
    · exact s4 rfl (fun _ _ _ h => h) fun cx => run_loadB (n := 4) rfl (by kernel_rfl) (by kernel_rfl) (cx.out 2 rfl) (cx.blk (cx.init 0 _ rfl) rfl) (Nat.le_of_ble_eq_true rfl) rfl
    · exact sv_call rfl rfl rfl rfl rfl (fun _ _ _ h => h) fun ρ β W X cx => ⟨_, _, run_callF (args := #[.agg #[.int .i64 hi, .slice LA ls.length lc, .slice OA own.length oc, .iface tt (tv)], .int .i64 x]) rfl cx.sees rfl (by kernel_rfl) (map2 (cx.anc 0 rfl) (cx.anc 1 rfl)), mine_any _ _ _ _ _ _ _ _ _ _ x _ (hO.ext cx.upd.to_ext) (by assumption) (hS.ext cx.upd.to_ext)⟩
    · exact m2 rfl (fun _ _ _ h => h) (fun cx => (cx.anc 3 rfl)) fun cx hq => run_loadB (n := 2) rfl (by kernel_rfl) (by kernel_rfl) (mbv (cx.anc 4 rfl) hq) (cx.blk (cx.init 0 _ rfl) rfl) (Nat.le_of_ble_eq_true rfl) rfl
    · exact m2 rfl (fun _ _ _ h => h) (fun cx => (cx.anc 3 rfl)) fun cx hq => run_load1 rfl (by kernel_rfl) (mbv (cx.anc 7 rfl) hq) ((cx.blk (cx.init 0 _ rfl) rfl).cell 3)
    · exact m3 rfl (fun _ _ _ h => h) (fun cx => (cx.anc 3 rfl)) fun cx hq => ⟨_, _, run_callF (args := #[.agg #[.int .i64 hi, .slice LA ls.length lc], .int .i64 x, .iface tt (tv)]) rfl cx.sees rfl (by kernel_rfl) (map3 (mbv (cx.anc 5 rfl) hq) (mbv (cx.anc 6 rfl) hq) (mbv (cx.anc 8 rfl) hq)), cended_any _ _ _ _ _ _ _ x _ (hL.ext cx.upd.to_ext) (by assumption) (hS.ext cx.upd.to_ext)⟩
  intro σ β X W2 hD hX hst2 fr hfr
  simp only [zM, exq 0 (hX 0 _ rfl)] at hst2
  dsimp only [mgT, vals, List.take, List.drop, List.cons_append, List.nil_append] at hfr
  clear hX hD; subst hfr; clear σ β X
  refine then_normal ?_
  refine wp_ret ?_
  refine bodyPost_ret (v := .bool ((mineF own g x) || (endedF hi ls g x))) (results_tmp Tryd.results72 rfl) rfl ?_
  exact Ret.bool (by simp_all [didF]) hst2.ext

set_option maxRecDepth 100000 in
set_option maxHeartbeats 2000000 in
theorem bes_any (hi : Int) (LA : Option Addr) (lc : Nat) (ls : List Int) (OA : Option Addr) (oc : Nat) (own : List Int) (tt : TypeId) (tv : Value) (g : Int → Int) (x : Int) (w : World) (hL : At w LA (ls.map (Value.int .i64))) (hll : ls.length ≤ 100000) (hO : At w OA (own.map (Value.int .i64))) (hol : own.length ≤ 100000) (hS : StOk w tt tv g) :
    Calls Tryd.prog 66 #[.agg #[.int .i64 hi, .slice LA ls.length lc, .slice OA own.length oc, .iface tt (tv)], .int .i64 x] w (Ret (.bool (besF hi ls own g x)) w) := by
  obtain ⟨f0, rv, hM, hC, hG⟩ := hS.ex
  go_enter Tryd.func66, Tryd.ntmps66
  have hst0 := St.start w
  refine wp_seq ?_
  refine wp_region_T [0, 0] [] [[0]] [] [.a 2, .k 4 (.bool false)] (fun ix σ β X => match ix with | 0 => σ 2 = .pointer (some ⟨(pb (β 2)), 0, none⟩) ∧ X 0 = eB (pb (β 2)) 120 #[.int .i64 hi, .slice LA ls.length lc, .slice OA own.length oc, .iface tt (tv)] | _ => True) [0] [0] [(2, 0, 1, 3), (1, 1, 1, 2)] hst0 ?_ ?_ ?_
  · exact fun ix _ _ _ _ _ _ hs hb hx h => match ix, h with
    | 0, h => by dsimp only at h ⊢; rw [← hs 2 rfl, ← hb 2 rfl, ← hx 0 rfl]; exact h
    | _ + 1, _ => trivial
  · refine ⟨?_, trivial⟩
    · refine sv_any rfl rfl fun ρ β W X cx => ?_
      exact dv_box (cs := #[.int .i64 hi, .slice LA ls.length lc, .slice OA own.length oc, .iface tt (tv)]) rfl (cx.out 0 rfl) rfl rfl rfl (fun σ β' X' hs hb hv hx => ⟨hv, hx⟩)
  intro σ β X W1 hD hX hst1 fr hfr
  obtain ⟨B2_1, hu_B2_1⟩ : ∃ z, pb (β 2) = z := ⟨_, rfl⟩
  simp only [zM, exq 0 ((dTn (hD 0 lq)).2), hu_B2_1] at hst1
  dsimp only [mgT, vals, List.take, List.drop, List.cons_append, List.nil_append] at hfr
  simp only [ed 2 ((dTn (hD 0 lq)).1), hu_B2_1] at hfr
  clear hX hD hu_B2_1; subst hfr; clear σ β X
  refine then_normal ?_
  refine wp_seq ?_
  refine wp_region_T [0, 1, 0, 7, 15] [[], [0]] [] [] [.k 6 (.pointer (some ⟨B2_1, 3, none⟩)), .c 7 (.iface tt (tv)), .k 8 (.int .i64 x), .c 9 (.int .i64 (g x)), .k 5 (.int .i64 (g x))] (fun _ _ _ _ => True) [0] [1, 3] [(5, 4, 1, 6), (0, 0, 4, 4)] hst1 ?_ ?_ ?_
  · exact fun _ _ _ _ _ _ _ _ _ _ h => h
  · refine ⟨?_, ?_, trivial⟩
    · exact s4 rfl (fun _ _ _ h => h) fun cx => run_load1 rfl (by kernel_rfl) (cx.anc 0 rfl) ((cx.blk (cx.init 0 _ rfl) rfl).cell 3)
    · exact sv_call rfl rfl rfl rfl rfl (fun _ _ _ h => h) fun ρ β W X cx => ⟨_, _, run_invoke (args := #[.int .i64 x]) (args' := #[rv, .int .i64 x]) rfl rfl (cx.anc 1 rfl) hM hC (map1 (cx.anc 2 rfl)) rfl, hG _ x cx.upd.to_ext⟩
  intro σ β X W2 hD hX hst2 fr hfr
  simp only [zM, exq 0 (hX 0 _ rfl)] at hst2
  dsimp only [mgT, vals, List.take, List.drop, List.cons_append, List.nil_append] at hfr
  clear hX hD; subst hfr; clear σ β X
  refine then_normal ?_
  refine wp_seq ?_
  refine wp_region_T [0, 1, 3, 7, 15, 7, 63, 127, 255, 511, 1023, 2047, 4095, 8191, 16383, 32767, 65535, 131071, 262143, 524287, 1048575, 2097151, 4194303, 8388607, 4194303, 4194303, 37748735, 134217727, 268435455, 536870911, 1073741823] [[], [], [], [], [0], [], [], [], [], [], [], [], [], [], [], [], [], [], [], [], [], [], [], [0], [], [], [0]] [] [] [.k 10 (.int .i64 x), .c 11 (.bool (onF x)), .k 12 (.bool (onF x)), .z 13 (onF x) (.pointer (some ⟨B2_1, 2, none⟩)), .y 14 (onF x) (.slice OA own.length oc), .z 15 (onF x) (.int .i64 x), .y 16 (onF x) (.bool (own.contains x)), .z 17 (onF x) (.bool (!(own.contains x))), tA 18 (onF x) (!(own.contains x)), .k 19 (.bool ((onF x) && (!(own.contains x)))), .z 20 ((onF x) && (!(own.contains x))) (.int .i64 (g x)), .z 21 ((onF x) && (!(own.contains x))) (.bool ((g x) == 1)), .z 22 ((onF x) && (!(own.contains x))) (.bool ((g x) == 1)), .z 23 (((onF x) && (!(own.contains x))) && (!((g x) == 1))) (.int .i64 (g x)), .z 24 (((onF x) && (!(own.contains x))) && (!((g x) == 1))) (.bool ((g x) == 4)), .y 25 ((onF x) && (!(own.contains x))) (.bool (((g x) == 1) || ((g x) == 4))), .z 26 ((onF x) && (!(own.contains x))) (.bool (((g x) == 1) || ((g x) == 4))), .z 27 (((onF x) && (!(own.contains x))) && (!(((g x) == 1) || ((g x) == 4)))) (.int .i64 (g x)), .z 28 (((onF x) && (!(own.contains x))) && (!(((g x) == 1) || ((g x) == 4)))) (.bool ((g x) == 2)), .y 29 ((onF x) && (!(own.contains x))) (.bool ((((g x) == 1) || ((g x) == 4)) || ((g x) == 2))), tA 30 ((onF x) && (!(own.contains x))) ((((g x) == 1) || ((g x) == 4)) || ((g x) == 2)), .k 31 (.bool (((onF x) && (!(own.contains x))) && ((((g x) == 1) || ((g x) == 4)) || ((g x) == 2)))), .z 32 (((onF x) && (!(own.contains x))) && ((((g x) == 1) || ((g x) == 4)) || ((g x) == 2))) (.pointer (some ⟨B2_1, 0, none⟩)), .y 33 (((onF x) && (!(own.contains x))) && ((((g x) == 1) || ((g x) == 4)) || ((g x) == 2))) (.agg #[.int .i64 hi, .slice LA ls.length lc]), .z 34 (((onF x) && (!(own.contains x))) && ((((g x) == 1) || ((g x) == 4)) || ((g x) == 2))) (.int .i64 x), .z 35 (((onF x) && (!(own.contains x))) && ((((g x) == 1) || ((g x) == 4)) || ((g x) == 2))) (.pointer (some ⟨B2_1, 3, none⟩)), .y 36 (((onF x) && (!(own.contains x))) && ((((g x) == 1) || ((g x) == 4)) || ((g x) == 2))) (.iface tt (tv)), .y 37 (((onF x) && (!(own.contains x))) && ((((g x) == 1) || ((g x) == 4)) || ((g x) == 2))) (.bool (endedF hi ls g x)), .z 38 (((onF x) && (!(own.contains x))) && ((((g x) == 1) || ((g x) == 4)) || ((g x) == 2))) (.bool (!(endedF hi ls g x))), tA 39 (((onF x) && (!(own.contains x))) && ((((g x) == 1) || ((g x) == 4)) || ((g x) == 2))) (!(endedF hi ls g x)), .k 4 (.bool ((((onF x) && (!(own.contains x))) && ((((g x) == 1) || ((g x) == 4)) || ((g x) == 2))) && (!(endedF hi ls g x))))] (fun _ _ _ _ => True) [0] [1, 4, 6, 15, 19, 23, 26, 27] [(4, 30, 1, 5), (5, 0, 30, 35)] hst2 ?_ ?_ ?_
  · exact fun _ _ _ _ _ _ _ _ _ _ h => h
  · refine ⟨?_, ?_, ?_, ?_, ?_, ?_, ?_, ?_, trivial⟩
    · exact sv_call rfl rfl rfl rfl rfl (fun _ _ _ h => h) fun ρ β W X cx => ⟨_, _, run_callF (args := #[.int .i64 x]) rfl cx.sees rfl (by kernel_rfl) (map1 (cx.anc 0 rfl)), ton_any x _⟩
    · exact m2 rfl (fun _ _ _ h => h) (fun cx => (cx.anc 2 rfl)) fun cx hq => run_load1 rfl (by kernel_rfl) (mbv (cx.anc 3 rfl) hq) ((cx.blk (cx.init 0 _ rfl) rfl).cell 2)
    · exact m3 rfl (fun _ _ _ h => h) (fun cx => (cx.anc 2 rfl)) fun cx hq => ⟨_, _, run_callF (args := #[.slice OA own.length oc, .int .i64 x]) rfl cx.sees rfl (by kernel_rfl) (map2 (mbv (cx.anc 4 rfl) hq) (mbv (cx.anc 5 rfl) hq)), icontains_any _ _ own x _ (hO.ext cx.upd.to_ext) (by assumption)⟩
    · exact m2 rfl (fun _ _ _ h => h) (fun cx => (cx.anc 9 rfl)) fun cx hq => run_pick_or rfl (mbv (cx.anc 12 rfl) hq) (cx.sees.const _) (cx.anc 14 rfl) (fun e_ => by rw [hq, e_]; rfl)
    · exact m2 rfl (fun _ _ _ h => h) (fun cx => (cx.anc 9 rfl)) fun cx hq => run_pick_or rfl (mbv (cx.anc 16 rfl) hq) (cx.sees.const _) (cx.anc 18 rfl) (fun e_ => by rw [hq, e_]; rfl)
    · exact m2 rfl (fun _ _ _ h => h) (fun cx => (cx.anc 21 rfl)) fun cx hq => run_loadB (n := 2) rfl (by kernel_rfl) (by kernel_rfl) (mbv (cx.anc 22 rfl) hq) (cx.blk (cx.init 0 _ rfl) rfl) (Nat.le_of_ble_eq_true rfl) rfl
    · exact m2 rfl (fun _ _ _ h => h) (fun cx => (cx.anc 21 rfl)) fun cx hq => run_load1 rfl (by kernel_rfl) (mbv (cx.anc 25 rfl) hq) ((cx.blk (cx.init 0 _ rfl) rfl).cell 3)
    · exact m3 rfl (fun _ _ _ h => h) (fun cx => (cx.anc 21 rfl)) fun cx hq => ⟨_, _, run_callF (args := #[.agg #[.int .i64 hi, .slice LA ls.length lc], .int .i64 x, .iface tt (tv)]) rfl cx.sees rfl (by kernel_rfl) (map3 (mbv (cx.anc 23 rfl) hq) (mbv (cx.anc 24 rfl) hq) (mbv (cx.anc 26 rfl) hq)), cended_any _ _ _ _ _ _ _ x _ (hL.ext cx.upd.to_ext) (by assumption) (hS.ext cx.upd.to_ext)⟩
  intro σ β X W3 hD hX hst3 fr hfr
  simp only [zM, exq 0 (hX 0 _ rfl)] at hst3
  dsimp only [mgT, vals, List.take, List.drop, List.cons_append, List.nil_append] at hfr
  clear hX hD; subst hfr; clear σ β X
  refine then_normal ?_
  refine wp_ret ?_
  refine bodyPost_ret (v := .bool ((((onF x) && (!(own.contains x))) && ((((g x) == 1) || ((g x) == 4)) || ((g x) == 2))) && (!(endedF hi ls g x)))) (results_tmp Tryd.results66 rfl) rfl ?_
  exact Ret.bool (by simp_all [besF]) hst3.ext

set_option maxRecDepth 100000 in
set_option maxHeartbeats 2000000 in
theorem each_did (hi : Int) (LA : Option Addr) (lc : Nat) (ls : List Int) (OA : Option Addr) (oc : Nat) (own : List Int) (tt : TypeId) (tv : Value) (g : Int → Int) (a b n1 n2 : Int) (ho : Bool) (RA : Option Addr) (rn rc : Nat) (w : World) (hL : At w LA (ls.map (Value.int .i64))) (hll : ls.length ≤ 100000) (hO : At w OA (own.map (Value.int .i64))) (hol : own.length ≤ 100000) (hS : StOk w tt tv g) :
    Calls Tryd.prog 65 #[.agg #[.int .i64 a, .int .i64 b, .int .i64 n1, .int .i64 n2, .bool ho, .slice RA rn rc], .func (.func 72) #[.agg #[.int .i64 hi, .slice LA ls.length lc, .slice OA own.length oc, .iface tt (tv)]] #[]] w (Ret (.tuple #[.bool (didF hi ls own g a), .bool (b != 0 && didF hi ls own g b)]) w) := by
  go_enter Tryd.func65, Tryd.ntmps65
  have hst0 := St.start w
  refine wp_seq ?_
  refine wp_region_T [0, 0, 2] [] [[0]] [] [.a 2, .k 4 (.bool false), .k 5 (.bool false)] (fun ix σ β X => match ix with | 0 => σ 2 = .pointer (some ⟨(pb (β 2)), 0, none⟩) ∧ X 0 = eB (pb (β 2)) 27 #[.int .i64 a, .int .i64 b, .int .i64 n1, .int .i64 n2, .bool ho, .slice RA rn rc] | _ => True) [0] [0] [(2, 0, 1, 3), (1, 1, 2, 3)] hst0 ?_ ?_ ?_
  · exact fun ix _ _ _ _ _ _ hs hb hx h => match ix, h with
    | 0, h => by dsimp only at h ⊢; rw [← hs 2 rfl, ← hb 2 rfl, ← hx 0 rfl]; exact h
    | _ + 1, _ => trivial
  · refine ⟨?_, trivial⟩
    · refine sv_any rfl rfl fun ρ β W X cx => ?_
      exact dv_box (cs := #[.int .i64 a, .int .i64 b, .int .i64 n1, .int .i64 n2, .bool ho, .slice RA rn rc]) rfl (cx.out 0 rfl) rfl rfl rfl (fun σ β' X' hs hb hv hx => ⟨hv, hx⟩)
  intro σ β X W1 hD hX hst1 fr hfr
  obtain ⟨B2_1, hu_B2_1⟩ : ∃ z, pb (β 2) = z := ⟨_, rfl⟩
  simp only [zM, exq 0 ((dTn (hD 0 lq)).2), hu_B2_1] at hst1
  dsimp only [mgT, vals, List.take, List.drop, List.cons_append, List.nil_append] at hfr
  simp only [ed 2 ((dTn (hD 0 lq)).1), hu_B2_1] at hfr
  clear hX hD hu_B2_1; subst hfr; clear σ β X
  refine then_normal ?_
  refine wp_seq ?_
  refine wp_region_T [0, 0, 2, 7, 0, 16, 48, 127, 255, 255, 767, 2047, 4095, 4095, 16383] [[], [], [0], [], [], [0], [], [], [], [], [0]] [] [] [.k 6 (.func (.func 72) #[.agg #[.int .i64 hi, .slice LA ls.length lc, .slice OA own.length oc, .iface tt (tv)]] #[]), .k 7 (.pointer (some ⟨B2_1, 0, none⟩)), .c 8 (.int .i64 a), .c 9 (.bool (didF hi ls own g a)), .k 10 (.pointer (some ⟨B2_1, 1, none⟩)), .c 11 (.int .i64 b), .k 12 (.bool (b != 0)), .k 13 (.bool (b != 0)), .z 14 (b != 0) (.func (.func 72) #[.agg #[.int .i64 hi, .slice LA ls.length lc, .slice OA own.length oc, .iface tt (tv)]] #[]), .z 15 (b != 0) (.pointer (some ⟨B2_1, 1, none⟩)), .y 16 (b != 0) (.int .i64 b), .y 17 (b != 0) (.bool (didF hi ls own g b)), tA 18 (b != 0) (didF hi ls own g b), .k 4 (.bool (didF hi ls own g a)), .k 5 (.bool ((b != 0) && (didF hi ls own g b)))] (fun _ _ _ _ => True) [0] [2, 3, 5, 10, 11] [(4, 13, 2, 6), (0, 0, 13, 13)] hst1 ?_ ?_ ?_
  · exact fun _ _ _ _ _ _ _ _ _ _ h => h
  · refine ⟨?_, ?_, ?_, ?_, ?_, trivial⟩
    · exact s4 rfl (fun _ _ _ h => h) fun cx => run_load1 rfl (by kernel_rfl) (cx.anc 1 rfl) ((cx.blk (cx.init 0 _ rfl) rfl).cell 0)
    · exact sv_call rfl rfl rfl rfl rfl (fun _ _ _ h => h) fun ρ β W X cx => ⟨_, _, run_callV (f := 72) (args := #[.int .i64 a]) (args' := #[.agg #[.int .i64 hi, .slice LA ls.length lc, .slice OA own.length oc, .iface tt (tv)], .int .i64 a]) rfl rfl (cx.anc 0 rfl) (by kernel_rfl) (map1 (cx.anc 2 rfl)) rfl, did_any _ _ _ _ _ _ _ _ _ _ a _ (hL.ext cx.upd.to_ext) (by assumption) (hO.ext cx.upd.to_ext) (by assumption) (hS.ext cx.upd.to_ext)⟩
    · exact s4 rfl (fun _ _ _ h => h) fun cx => run_load1 rfl (by kernel_rfl) (cx.anc 4 rfl) ((cx.blk (cx.init 0 _ rfl) rfl).cell 1)
    · exact m2 rfl (fun _ _ _ h => h) (fun cx => (cx.anc 7 rfl)) fun cx hq => run_load1 rfl (by kernel_rfl) (mbv (cx.anc 9 rfl) hq) ((cx.blk (cx.init 0 _ rfl) rfl).cell 1)
    · exact m3 rfl (fun _ _ _ h => h) (fun cx => (cx.anc 7 rfl)) fun cx hq => ⟨_, _, run_callV (f := 72) (args := #[.int .i64 b]) (args' := #[.agg #[.int .i64 hi, .slice LA ls.length lc, .slice OA own.length oc, .iface tt (tv)], .int .i64 b]) rfl rfl (mbv (cx.anc 8 rfl) hq) (by kernel_rfl) (map1 (mbv (cx.anc 10 rfl) hq)) rfl, did_any _ _ _ _ _ _ _ _ _ _ b _ (hL.ext cx.upd.to_ext) (by assumption) (hO.ext cx.upd.to_ext) (by assumption) (hS.ext cx.upd.to_ext)⟩
  intro σ β X W2 hD hX hst2 fr hfr
  simp only [zM, exq 0 (hX 0 _ rfl)] at hst2
  dsimp only [mgT, vals, List.take, List.drop, List.cons_append, List.nil_append] at hfr
  clear hX hD; subst hfr; clear σ β X
  refine then_normal ?_
  refine wp_ret ?_
  refine bodyPost_ret (v := .tuple #[.bool (didF hi ls own g a), .bool ((b != 0) && (didF hi ls own g b))]) (by simp [results, Tryd.results65, go_sem]) rfl ?_
  exact Ret.of (by simp_all) hst2.ext

set_option maxRecDepth 100000 in
set_option maxHeartbeats 2000000 in
theorem each_bes (hi : Int) (LA : Option Addr) (lc : Nat) (ls : List Int) (OA : Option Addr) (oc : Nat) (own : List Int) (tt : TypeId) (tv : Value) (g : Int → Int) (a b n1 n2 : Int) (ho : Bool) (RA : Option Addr) (rn rc : Nat) (w : World) (hL : At w LA (ls.map (Value.int .i64))) (hll : ls.length ≤ 100000) (hO : At w OA (own.map (Value.int .i64))) (hol : own.length ≤ 100000) (hS : StOk w tt tv g) :
    Calls Tryd.prog 65 #[.agg #[.int .i64 a, .int .i64 b, .int .i64 n1, .int .i64 n2, .bool ho, .slice RA rn rc], .func (.func 66) #[.agg #[.int .i64 hi, .slice LA ls.length lc, .slice OA own.length oc, .iface tt (tv)]] #[]] w (Ret (.tuple #[.bool (besF hi ls own g a), .bool (b != 0 && besF hi ls own g b)]) w) := by
  go_enter Tryd.func65, Tryd.ntmps65
  have hst0 := St.start w
  refine wp_seq ?_
  refine wp_region_T [0, 0, 2] [] [[0]] [] [.a 2, .k 4 (.bool false), .k 5 (.bool false)] (fun ix σ β X => match ix with | 0 => σ 2 = .pointer (some ⟨(pb (β 2)), 0, none⟩) ∧ X 0 = eB (pb (β 2)) 27 #[.int .i64 a, .int .i64 b, .int .i64 n1, .int .i64 n2, .bool ho, .slice RA rn rc] | _ => True) [0] [0] [(2, 0, 1, 3), (1, 1, 2, 3)] hst0 ?_ ?_ ?_
  · exact fun ix _ _ _ _ _ _ hs hb hx h => match ix, h with
    | 0, h => by dsimp only at h ⊢; rw [← hs 2 rfl, ← hb 2 rfl, ← hx 0 rfl]; exact h
    | _ + 1, _ => trivial
  · refine ⟨?_, trivial⟩
    · refine sv_any rfl rfl fun ρ β W X cx => ?_
      exact dv_box (cs := #[.int .i64 a, .int .i64 b, .int .i64 n1, .int .i64 n2, .bool ho, .slice RA rn rc]) rfl (cx.out 0 rfl) rfl rfl rfl (fun σ β' X' hs hb hv hx => ⟨hv, hx⟩)
  intro σ β X W1 hD hX hst1 fr hfr
  obtain ⟨B2_1, hu_B2_1⟩ : ∃ z, pb (β 2) = z := ⟨_, rfl⟩
  simp only [zM, exq 0 ((dTn (hD 0 lq)).2), hu_B2_1] at hst1
  dsimp only [mgT, vals, List.take, List.drop, List.cons_append, List.nil_append] at hfr
  simp only [ed 2 ((dTn (hD 0 lq)).1), hu_B2_1] at hfr
  clear hX hD hu_B2_1; subst hfr; clear σ β X
  refine then_normal ?_
  refine wp_seq ?_
  refine wp_region_T [0, 0, 2, 7, 0, 16, 48, 127, 255, 255, 767, 2047, 4095, 4095, 16383] [[], [], [0], [], [], [0], [], [], [], [], [0]] [] [] [.k 6 (.func (.func 66) #[.agg #[.int .i64 hi, .slice LA ls.length lc, .slice OA own.length oc, .iface tt (tv)]] #[]), .k 7 (.pointer (some ⟨B2_1, 0, none⟩)), .c 8 (.int .i64 a), .c 9 (.bool (besF hi ls own g a)), .k 10 (.pointer (some ⟨B2_1, 1, none⟩)), .c 11 (.int .i64 b), .k 12 (.bool (b != 0)), .k 13 (.bool (b != 0)), .z 14 (b != 0) (.func (.func 66) #[.agg #[.int .i64 hi, .slice LA ls.length lc, .slice OA own.length oc, .iface tt (tv)]] #[]), .z 15 (b != 0) (.pointer (some ⟨B2_1, 1, none⟩)), .y 16 (b != 0) (.int .i64 b), .y 17 (b != 0) (.bool (besF hi ls own g b)), tA 18 (b != 0) (besF hi ls own g b), .k 4 (.bool (besF hi ls own g a)), .k 5 (.bool ((b != 0) && (besF hi ls own g b)))] (fun _ _ _ _ => True) [0] [2, 3, 5, 10, 11] [(4, 13, 2, 6), (0, 0, 13, 13)] hst1 ?_ ?_ ?_
  · exact fun _ _ _ _ _ _ _ _ _ _ h => h
  · refine ⟨?_, ?_, ?_, ?_, ?_, trivial⟩
    · exact s4 rfl (fun _ _ _ h => h) fun cx => run_load1 rfl (by kernel_rfl) (cx.anc 1 rfl) ((cx.blk (cx.init 0 _ rfl) rfl).cell 0)
    · exact sv_call rfl rfl rfl rfl rfl (fun _ _ _ h => h) fun ρ β W X cx => ⟨_, _, run_callV (f := 66) (args := #[.int .i64 a]) (args' := #[.agg #[.int .i64 hi, .slice LA ls.length lc, .slice OA own.length oc, .iface tt (tv)], .int .i64 a]) rfl rfl (cx.anc 0 rfl) (by kernel_rfl) (map1 (cx.anc 2 rfl)) rfl, bes_any _ _ _ _ _ _ _ _ _ _ a _ (hL.ext cx.upd.to_ext) (by assumption) (hO.ext cx.upd.to_ext) (by assumption) (hS.ext cx.upd.to_ext)⟩
    · exact s4 rfl (fun _ _ _ h => h) fun cx => run_load1 rfl (by kernel_rfl) (cx.anc 4 rfl) ((cx.blk (cx.init 0 _ rfl) rfl).cell 1)
    · exact m2 rfl (fun _ _ _ h => h) (fun cx => (cx.anc 7 rfl)) fun cx hq => run_load1 rfl (by kernel_rfl) (mbv (cx.anc 9 rfl) hq) ((cx.blk (cx.init 0 _ rfl) rfl).cell 1)
    · exact m3 rfl (fun _ _ _ h => h) (fun cx => (cx.anc 7 rfl)) fun cx hq => ⟨_, _, run_callV (f := 66) (args := #[.int .i64 b]) (args' := #[.agg #[.int .i64 hi, .slice LA ls.length lc, .slice OA own.length oc, .iface tt (tv)], .int .i64 b]) rfl rfl (mbv (cx.anc 8 rfl) hq) (by kernel_rfl) (map1 (mbv (cx.anc 10 rfl) hq)) rfl, bes_any _ _ _ _ _ _ _ _ _ _ b _ (hL.ext cx.upd.to_ext) (by assumption) (hO.ext cx.upd.to_ext) (by assumption) (hS.ext cx.upd.to_ext)⟩
  intro σ β X W2 hD hX hst2 fr hfr
  simp only [zM, exq 0 (hX 0 _ rfl)] at hst2
  dsimp only [mgT, vals, List.take, List.drop, List.cons_append, List.nil_append] at hfr
  clear hX hD; subst hfr; clear σ β X
  refine then_normal ?_
  refine wp_ret ?_
  refine bodyPost_ret (v := .tuple #[.bool (besF hi ls own g a), .bool ((b != 0) && (besF hi ls own g b))]) (by simp [results, Tryd.results65, go_sem]) rfl ?_
  exact Ret.of (by simp_all) hst2.ext

set_option maxRecDepth 100000 in
set_option maxHeartbeats 2000000 in
theorem visible_any (a b n1 n2 : Int) (ho : Bool) (RA : Option Addr) (rn rc : Nat) (hi : Int) (LA : Option Addr) (lc : Nat) (ls : List Int) (OA : Option Addr) (oc : Nat) (own : List Int) (tt : TypeId) (tv : Value) (g : Int → Int) (w : World) (hL : At w LA (ls.map (Value.int .i64))) (hll : ls.length ≤ 100000) (hO : At w OA (own.map (Value.int .i64))) (hol : own.length ≤ 100000) (hS : StOk w tt tv g) :
    Calls Tryd.prog 27 #[.agg #[.int .i64 a, .int .i64 b, .int .i64 n1, .int .i64 n2, .bool ho, .slice RA rn rc], .agg #[.int .i64 hi, .slice LA ls.length lc], .slice OA own.length oc, .iface tt (tv)] w (Ret (.bool (visF hi ls own g a b)) w) := by
  go_enter Tryd.func27, Tryd.ntmps27
  have hst0 := St.start w
  refine wp_seq ?_
  refine wp_region_T [0, 0, 0] [] [[0], [1]] [] [.a 4, .a 5, .k 8 (.bool false)] (fun ix σ β X => match ix with | 0 => σ 4 = .pointer (some ⟨(pb (β 4)), 0, none⟩) ∧ X 0 = eB (pb (β 4)) 27 #[.int .i64 a, .int .i64 b, .int .i64 n1, .int .i64 n2, .bool ho, .slice RA rn rc] | 1 => σ 5 = .pointer (some ⟨(pb (β 5)), 0, none⟩) ∧ X 1 = eB (pb (β 5)) 41 #[.int .i64 hi, .slice LA ls.length lc] | _ => True) [0, 1] [0, 1] [(4, 0, 2, 6), (2, 2, 1, 3)] hst0 ?_ ?_ ?_
  · exact fun ix _ _ _ _ _ _ hs hb hx h => match ix, h with
    | 0, h => by dsimp only at h ⊢; rw [← hs 4 rfl, ← hb 4 rfl, ← hx 0 rfl]; exact h
    | 1, h => by dsimp only at h ⊢; rw [← hs 5 rfl, ← hb 5 rfl, ← hx 1 rfl]; exact h
    | _ + 2, _ => trivial
  · refine ⟨?_, ?_, trivial⟩
    · refine sv_any rfl rfl fun ρ β W X cx => ?_
      exact dv_box (cs := #[.int .i64 a, .int .i64 b, .int .i64 n1, .int .i64 n2, .bool ho, .slice RA rn rc]) rfl (cx.out 0 rfl) rfl rfl rfl (fun σ β' X' hs hb hv hx => ⟨hv, hx⟩)
    · refine sv_any rfl rfl fun ρ β W X cx => ?_
      exact dv_box (cs := #[.int .i64 hi, .slice LA ls.length lc]) rfl (cx.out 1 rfl) rfl rfl rfl (fun σ β' X' hs hb hv hx => ⟨hv, hx⟩)
  intro σ β X W1 hD hX hst1 fr hfr
  obtain ⟨B4_1, hu_B4_1⟩ : ∃ z, pb (β 4) = z := ⟨_, rfl⟩
  obtain ⟨B5_1, hu_B5_1⟩ : ∃ z, pb (β 5) = z := ⟨_, rfl⟩
  simp only [zM, exq 0 ((dTn (hD 0 lq)).2), exq 1 ((dTn (hD 1 lq)).2), hu_B4_1, hu_B5_1] at hst1
  dsimp only [mgT, vals, List.take, List.drop, List.cons_append, List.nil_append] at hfr
  simp only [ed 4 ((dTn (hD 0 lq)).1), ed 5 ((dTn (hD 1 lq)).1), hu_B4_1, hu_B5_1] at hfr
  clear hX hD hu_B4_1 hu_B5_1; subst hfr; clear σ β X
  refine then_normal ?_
  refine wp_seq ?_
  refine wp_region_T [0, 0, 0, 7, 0, 31] [[1], [], [], [], [], [2]] [[], [], [], [], [2], [3]] [[], [], [], [], [], [2]] [.c 12 (.agg #[.int .i64 hi, .slice LA ls.length lc]), .k 13 (.slice OA own.length oc), .k 14 (.iface tt (tv)), .k 15 (.agg #[.int .i64 hi, .slice LA ls.length lc, .slice OA own.length oc, .iface tt (tv)]), .a 9, .n] (fun ix σ β X => match ix with | 0 => True | 1 => True | 2 => True | 3 => True | 4 => σ 9 = .pointer (some ⟨(pb (β 9)), 0, none⟩) ∧ X 2 = eB (pb (β 9)) 120 #[.int .i64 0, .slice none 0 0, .slice none 0 0, .nilIface] | 5 => X 3 = eB (pb (β 9)) 120 #[.int .i64 hi, .slice LA ls.length lc, .slice OA own.length oc, .iface tt (tv)] | _ => True) [0, 1, 3] [0, 4, 5] [(9, 4, 1, 10), (2, 0, 4, 6)] hst1 ?_ ?_ ?_
  · exact fun ix _ _ _ _ _ _ hs hb hx h => match ix, h with
    | 4, h => by dsimp only at h ⊢; rw [← hs 9 rfl, ← hb 9 rfl, ← hx 2 rfl]; exact h
    | 5, h => by dsimp only at h ⊢; rw [← hb 9 rfl, ← hx 3 rfl]; exact h
    | 0, _ | 1, _ | 2, _ | 3, _ | _ + 6, _ => trivial
  · refine ⟨?_, ?_, ?_, trivial⟩
    · exact s4 rfl (fun _ _ _ h => h) fun cx => run_loadB (n := 2) rfl (by kernel_rfl) (by kernel_rfl) (cx.out 5 rfl) (cx.blk (cx.init 1 _ rfl) rfl) (Nat.le_of_ble_eq_true rfl) rfl
    · refine sv_any rfl rfl fun ρ β W X cx => ?_
      exact dv_alloc (cs := #[.int .i64 0, .slice none 0 0, .slice none 0 0, .nilIface]) rfl (by kernel_rfl) rfl rfl (fun σ β' X' hs hb hv hx => ⟨hv, hx⟩)
    · refine sv_any rfl rfl fun ρ β W X cx => ?_
      exact dv_store (n := 4) rfl (dTn (cx.anc 4 rfl)).1 (cx.anc 3 rfl) (by kernel_rfl) (by kernel_rfl) (by kernel_rfl) cx (dTn (cx.anc 4 rfl)).2 rfl (Nat.le_of_ble_eq_true rfl) (by kernel_rfl) rfl rfl rfl (fun σ β' X' hs hb hx => by rw [hb 9]; exact hx)
  intro σ β X W2 hD hX hst2 fr hfr
  obtain ⟨B9_2, hu_B9_2⟩ : ∃ z, pb (β 9) = z := ⟨_, rfl⟩
  simp only [zM, exq 0 (hX 0 _ rfl), exq 1 (hX 1 _ rfl), exq 3 ((dTn (hD 5 lq))), hu_B9_2] at hst2
  dsimp only [mgT, vals, List.take, List.drop, List.cons_append, List.nil_append] at hfr
  simp only [ed 9 ((dTn (hD 4 lq)).1), hu_B9_2] at hfr
  clear hX hD hu_B9_2; subst hfr; clear σ β X
  refine then_normal ?_
  refine wp_seq ?_
  refine wp_region_T [0, 0, 2, 7, 15, 31, 31, 63, 255] [[0], [2]] [] [] [.c 17 (.agg #[.int .i64 a, .int .i64 b, .int .i64 n1, .int .i64 n2, .bool ho, .slice RA rn rc]), .c 18 (.agg #[.int .i64 hi, .slice LA ls.length lc, .slice OA own.length oc, .iface tt (tv)]), .c 19 (.func (.func 72) #[.agg #[.int .i64 hi, .slice LA ls.length lc, .slice OA own.length oc, .iface tt (tv)]] #[]), .c 20 (.tuple #[.bool (didF hi ls own g a), .bool (b != 0 && didF hi ls own g b)]), .k 16 (.tuple #[.bool (didF hi ls own g a), .bool (b != 0 && didF hi ls own g b)]), .k 21 (.bool (didF hi ls own g a)), .k 22 (.bool (b != 0 && didF hi ls own g b)), .k 10 (.bool (didF hi ls own g a)), .k 11 (.bool (b != 0 && didF hi ls own g b))] (fun _ _ _ _ => True) [0, 1, 2] [0, 1, 2, 3] [(10, 7, 2, 12), (4, 4, 1, 5), (0, 0, 4, 4), (0, 5, 2, 2)] hst2 ?_ ?_ ?_
  · exact fun _ _ _ _ _ _ _ _ _ _ h => h
  · refine ⟨?_, ?_, ?_, ?_, trivial⟩
    · exact s4 rfl (fun _ _ _ h => h) fun cx => run_loadB (n := 6) rfl (by kernel_rfl) (by kernel_rfl) (cx.out 4 rfl) (cx.blk (cx.init 0 _ rfl) rfl) (Nat.le_of_ble_eq_true rfl) rfl
    · exact s4 rfl (fun _ _ _ h => h) fun cx => run_loadB (n := 4) rfl (by kernel_rfl) (by kernel_rfl) (cx.out 9 rfl) (cx.blk (cx.init 2 _ rfl) rfl) (Nat.le_of_ble_eq_true rfl) rfl
    · exact sv0 rfl rfl rfl rfl rfl (fun _ _ _ h => h) fun ρ β W X cx => by
        have fF18 : ρ (.tmp 18) = .agg #[.int .i64 hi, .slice LA ls.length lc, .slice OA own.length oc, .iface tt (tv)] := (cx.anc 1 rfl)
        simp [go_sem, Instr.makeFunc, fF18]
    · exact sv_call rfl rfl rfl rfl rfl (fun _ _ _ h => h) fun ρ β W X cx => ⟨_, _, run_callF (args := #[.agg #[.int .i64 a, .int .i64 b, .int .i64 n1, .int .i64 n2, .bool ho, .slice RA rn rc], .func (.func 72) #[.agg #[.int .i64 hi, .slice LA ls.length lc, .slice OA own.length oc, .iface tt (tv)]] #[]]) rfl cx.sees rfl (by kernel_rfl) (map2 (cx.anc 0 rfl) (cx.anc 2 rfl)), each_did hi LA lc ls OA oc own tt tv g a b n1 n2 ho RA rn rc _ (hL.ext cx.upd.to_ext) (by assumption) (hO.ext cx.upd.to_ext) (by assumption) (hS.ext cx.upd.to_ext)⟩
  intro σ β X W3 hD hX hst3 fr hfr
  simp only [zM, exq 0 (hX 0 _ rfl), exq 1 (hX 1 _ rfl), exq 2 (hX 2 _ rfl)] at hst3
  dsimp only [mgT, vals, List.take, List.drop, List.cons_append, List.nil_append] at hfr
  clear hX hD; subst hfr; clear σ β X
  refine then_normal ?_
  refine wp_seq ?_
  refine wp_region_P [0, 1, 3, 7, 15, 31] [.k 23 (.bool (didF hi ls own g a)), .k 24 (.bool (didF hi ls own g a)), .z 25 (didF hi ls own g a) (.bool (b != 0 && didF hi ls own g b)), .z 26 (didF hi ls own g a) (.bool (!(b != 0 && didF hi ls own g b))), tA 27 (didF hi ls own g a) (!(b != 0 && didF hi ls own g b)), .k 8 (.bool ((didF hi ls own g a) && (!(b != 0 && didF hi ls own g b))))] [(8, 5, 1, 9), (14, 0, 5, 19)] hst3 fun W4 hst4 => ?_
  refine then_normal ?_
  refine wp_ret ?_
  refine bodyPost_ret (v := .bool ((didF hi ls own g a) && (!(b != 0 && didF hi ls own g b)))) (results_tmp Tryd.results27 rfl) rfl ?_
  exact Ret.bool (by simp_all [visF]) hst4.ext

set_option maxRecDepth 100000 in
set_option maxHeartbeats 2000000 in
theorem beside_any (a b n1 n2 : Int) (ho : Bool) (RA : Option Addr) (rn rc : Nat) (hi : Int) (LA : Option Addr) (lc : Nat) (ls : List Int) (OA : Option Addr) (oc : Nat) (own : List Int) (tt : TypeId) (tv : Value) (g : Int → Int) (w : World) (hL : At w LA (ls.map (Value.int .i64))) (hll : ls.length ≤ 100000) (hO : At w OA (own.map (Value.int .i64))) (hol : own.length ≤ 100000) (hS : StOk w tt tv g) :
    Calls Tryd.prog 23 #[.agg #[.int .i64 a, .int .i64 b, .int .i64 n1, .int .i64 n2, .bool ho, .slice RA rn rc], .agg #[.int .i64 hi, .slice LA ls.length lc], .slice OA own.length oc, .iface tt (tv)] w (Ret (.tuple #[.int .i64 (bes1F hi ls own g a), .int .i64 (bes2F hi ls own g b)]) w) := by
  go_enter Tryd.func23, Tryd.ntmps23
  have hst0 := St.start w
  refine wp_seq ?_
  refine wp_region_T [0, 0, 0, 4] [] [[0], [1]] [] [.a 4, .a 5, .k 8 (.int .i64 0), .k 9 (.int .i64 0)] (fun ix σ β X => match ix with | 0 => σ 4 = .pointer (some ⟨(pb (β 4)), 0, none⟩) ∧ X 0 = eB (pb (β 4)) 27 #[.int .i64 a, .int .i64 b, .int .i64 n1, .int .i64 n2, .bool ho, .slice RA rn rc] | 1 => σ 5 = .pointer (some ⟨(pb (β 5)), 0, none⟩) ∧ X 1 = eB (pb (β 5)) 41 #[.int .i64 hi, .slice LA ls.length lc] | _ => True) [0, 1] [0, 1] [(4, 0, 2, 6), (2, 2, 2, 4)] hst0 ?_ ?_ ?_
  · exact fun ix _ _ _ _ _ _ hs hb hx h => match ix, h with
    | 0, h => by dsimp only at h ⊢; rw [← hs 4 rfl, ← hb 4 rfl, ← hx 0 rfl]; exact h
    | 1, h => by dsimp only at h ⊢; rw [← hs 5 rfl, ← hb 5 rfl, ← hx 1 rfl]; exact h
    | _ + 2, _ => trivial
  · refine ⟨?_, ?_, trivial⟩
    · refine sv_any rfl rfl fun ρ β W X cx => ?_
      exact dv_box (cs := #[.int .i64 a, .int .i64 b, .int .i64 n1, .int .i64 n2, .bool ho, .slice RA rn rc]) rfl (cx.out 0 rfl) rfl rfl rfl (fun σ β' X' hs hb hv hx => ⟨hv, hx⟩)
    · refine sv_any rfl rfl fun ρ β W X cx => ?_
      exact dv_box (cs := #[.int .i64 hi, .slice LA ls.length lc]) rfl (cx.out 1 rfl) rfl rfl rfl (fun σ β' X' hs hb hv hx => ⟨hv, hx⟩)
  intro σ β X W1 hD hX hst1 fr hfr
  obtain ⟨B4_1, hu_B4_1⟩ : ∃ z, pb (β 4) = z := ⟨_, rfl⟩
  obtain ⟨B5_1, hu_B5_1⟩ : ∃ z, pb (β 5) = z := ⟨_, rfl⟩
  simp only [zM, exq 0 ((dTn (hD 0 lq)).2), exq 1 ((dTn (hD 1 lq)).2), hu_B4_1, hu_B5_1] at hst1
  dsimp only [mgT, vals, List.take, List.drop, List.cons_append, List.nil_append] at hfr
  simp only [ed 4 ((dTn (hD 0 lq)).1), ed 5 ((dTn (hD 1 lq)).1), hu_B4_1, hu_B5_1] at hfr
  clear hX hD hu_B4_1 hu_B5_1; subst hfr; clear σ β X
  refine then_normal ?_
  refine wp_seq ?_
  refine wp_region_T [0, 0, 0, 7, 0, 31] [[1], [], [], [], [], [2]] [[], [], [], [], [2], [3]] [[], [], [], [], [], [2]] [.c 13 (.agg #[.int .i64 hi, .slice LA ls.length lc]), .k 14 (.slice OA own.length oc), .k 15 (.iface tt (tv)), .k 16 (.agg #[.int .i64 hi, .slice LA ls.length lc, .slice OA own.length oc, .iface tt (tv)]), .a 10, .n] (fun ix σ β X => match ix with | 0 => True | 1 => True | 2 => True | 3 => True | 4 => σ 10 = .pointer (some ⟨(pb (β 10)), 0, none⟩) ∧ X 2 = eB (pb (β 10)) 120 #[.int .i64 0, .slice none 0 0, .slice none 0 0, .nilIface] | 5 => X 3 = eB (pb (β 10)) 120 #[.int .i64 hi, .slice LA ls.length lc, .slice OA own.length oc, .iface tt (tv)] | _ => True) [0, 1, 3] [0, 4, 5] [(10, 4, 1, 11), (2, 0, 4, 6)] hst1 ?_ ?_ ?_
  · exact fun ix _ _ _ _ _ _ hs hb hx h => match ix, h with
    | 4, h => by dsimp only at h ⊢; rw [← hs 10 rfl, ← hb 10 rfl, ← hx 2 rfl]; exact h
    | 5, h => by dsimp only at h ⊢; rw [← hb 10 rfl, ← hx 3 rfl]; exact h
    | 0, _ | 1, _ | 2, _ | 3, _ | _ + 6, _ => trivial
  · refine ⟨?_, ?_, ?_, trivial⟩
    · exact s4 rfl (fun _ _ _ h => h) fun cx => run_loadB (n := 2) rfl (by kernel_rfl) (by kernel_rfl) (cx.out 5 rfl) (cx.blk (cx.init 1 _ rfl) rfl) (Nat.le_of_ble_eq_true rfl) rfl
    · refine sv_any rfl rfl fun ρ β W X cx => ?_
      exact dv_alloc (cs := #[.int .i64 0, .slice none 0 0, .slice none 0 0, .nilIface]) rfl (by kernel_rfl) rfl rfl (fun σ β' X' hs hb hv hx => ⟨hv, hx⟩)
    · refine sv_any rfl rfl fun ρ β W X cx => ?_
      exact dv_store (n := 4) rfl (dTn (cx.anc 4 rfl)).1 (cx.anc 3 rfl) (by kernel_rfl) (by kernel_rfl) (by kernel_rfl) cx (dTn (cx.anc 4 rfl)).2 rfl (Nat.le_of_ble_eq_true rfl) (by kernel_rfl) rfl rfl rfl (fun σ β' X' hs hb hx => by rw [hb 10]; exact hx)
  intro σ β X W2 hD hX hst2 fr hfr
  obtain ⟨B10_2, hu_B10_2⟩ : ∃ z, pb (β 10) = z := ⟨_, rfl⟩
  simp only [zM, exq 0 (hX 0 _ rfl), exq 1 (hX 1 _ rfl), exq 3 ((dTn (hD 5 lq))), hu_B10_2] at hst2
  dsimp only [mgT, vals, List.take, List.drop, List.cons_append, List.nil_append] at hfr
  simp only [ed 10 ((dTn (hD 4 lq)).1), hu_B10_2] at hfr
  clear hX hD hu_B10_2; subst hfr; clear σ β X
  refine then_normal ?_
  refine wp_seq ?_
  refine wp_region_T [0, 0, 2, 7, 15, 31, 31, 63, 255] [[0], [2]] [] [] [.c 18 (.agg #[.int .i64 a, .int .i64 b, .int .i64 n1, .int .i64 n2, .bool ho, .slice RA rn rc]), .c 19 (.agg #[.int .i64 hi, .slice LA ls.length lc, .slice OA own.length oc, .iface tt (tv)]), .c 20 (.func (.func 66) #[.agg #[.int .i64 hi, .slice LA ls.length lc, .slice OA own.length oc, .iface tt (tv)]] #[]), .c 21 (.tuple #[.bool (besF hi ls own g a), .bool (b != 0 && besF hi ls own g b)]), .k 17 (.tuple #[.bool (besF hi ls own g a), .bool (b != 0 && besF hi ls own g b)]), .k 22 (.bool (besF hi ls own g a)), .k 23 (.bool (b != 0 && besF hi ls own g b)), .k 11 (.bool (besF hi ls own g a)), .k 12 (.bool (b != 0 && besF hi ls own g b))] (fun _ _ _ _ => True) [0, 1, 2] [0, 1, 2, 3] [(11, 7, 2, 13), (4, 4, 1, 5), (0, 0, 4, 4), (0, 5, 2, 2)] hst2 ?_ ?_ ?_
  · exact fun _ _ _ _ _ _ _ _ _ _ h => h
  · refine ⟨?_, ?_, ?_, ?_, trivial⟩
    · exact s4 rfl (fun _ _ _ h => h) fun cx => run_loadB (n := 6) rfl (by kernel_rfl) (by kernel_rfl) (cx.out 4 rfl) (cx.blk (cx.init 0 _ rfl) rfl) (Nat.le_of_ble_eq_true rfl) rfl
    · exact s4 rfl (fun _ _ _ h => h) fun cx => run_loadB (n := 4) rfl (by kernel_rfl) (by kernel_rfl) (cx.out 10 rfl) (cx.blk (cx.init 2 _ rfl) rfl) (Nat.le_of_ble_eq_true rfl) rfl
    · exact sv0 rfl rfl rfl rfl rfl (fun _ _ _ h => h) fun ρ β W X cx => by
        have fF19 : ρ (.tmp 19) = .agg #[.int .i64 hi, .slice LA ls.length lc, .slice OA own.length oc, .iface tt (tv)] := (cx.anc 1 rfl)
        simp [go_sem, Instr.makeFunc, fF19]
    · exact sv_call rfl rfl rfl rfl rfl (fun _ _ _ h => h) fun ρ β W X cx => ⟨_, _, run_callF (args := #[.agg #[.int .i64 a, .int .i64 b, .int .i64 n1, .int .i64 n2, .bool ho, .slice RA rn rc], .func (.func 66) #[.agg #[.int .i64 hi, .slice LA ls.length lc, .slice OA own.length oc, .iface tt (tv)]] #[]]) rfl cx.sees rfl (by kernel_rfl) (map2 (cx.anc 0 rfl) (cx.anc 2 rfl)), each_bes hi LA lc ls OA oc own tt tv g a b n1 n2 ho RA rn rc _ (hL.ext cx.upd.to_ext) (by assumption) (hO.ext cx.upd.to_ext) (by assumption) (hS.ext cx.upd.to_ext)⟩
  intro σ β X W3 hD hX hst3 fr hfr
  simp only [zM, exq 0 (hX 0 _ rfl), exq 1 (hX 1 _ rfl), exq 2 (hX 2 _ rfl)] at hst3
  dsimp only [mgT, vals, List.take, List.drop, List.cons_append, List.nil_append] at hfr
  clear hX hD; subst hfr; clear σ β X
  refine then_normal ?_
  refine wp_seq ?_
  refine wp_seq ?_
  refine wp_region_P [0] [.k 24 (.bool (besF hi ls own g a))] [(24, 0, 1, 25)] hst3 fun W4 hst4 => ?_
  refine then_normal ?_
  rcases Bool.eq_false_or_eq_true (besF hi ls own g a) with hs5 | hs5
  · skip
    refine wp_cond_true (show Act.eval _ _ = .bool true from (congrArg Value.bool hs5)) ?_
    refine wp_region_T [0, 1, 3] [[], [0]] [] [] [.k 25 (.pointer (some ⟨B4_1, 0, none⟩)), .c 26 (.int .i64 a), .k 8 (.int .i64 a)] (fun _ _ _ _ => True) [0, 1, 2] [1] [(8, 2, 1, 9), (16, 0, 2, 18)] hst4 ?_ ?_ ?_
    · exact fun _ _ _ _ _ _ _ _ _ _ h => h
    · refine ⟨?_, trivial⟩
      · exact s4 rfl (fun _ _ _ h => h) fun cx => run_load1 rfl (by kernel_rfl) (cx.anc 0 rfl) ((cx.blk (cx.init 0 _ rfl) rfl).cell 0)
    intro σ β X W6 hD hX hst6 fr hfr
    simp only [zM, exq 0 (hX 0 _ rfl), exq 1 (hX 1 _ rfl), exq 2 (hX 2 _ rfl)] at hst6
    dsimp only [mgT, vals, List.take, List.drop, List.cons_append, List.nil_append] at hfr
    clear hX hD; subst hfr; clear σ β X
    refine then_normal ?_
    refine wp_seq ?_
    refine wp_seq ?_
    refine wp_region_P [0] [.k 27 (.bool (b != 0 && besF hi ls own g b))] [(27, 0, 1, 28)] hst6 fun W7 hst7 => ?_
    refine then_normal ?_
    rcases Bool.eq_false_or_eq_true (b != 0 && besF hi ls own g b) with hs8 | hs8
    · skip
      have hs8p := hs8
      simp only [zB] at hs8p
      obtain ⟨hs8p1, hs8p2⟩ := hs8p
      refine wp_cond_true (show Act.eval _ _ = .bool true from (congrArg Value.bool hs8)) ?_
      refine wp_region_T [0, 1, 3] [[], [0]] [] [] [.k 28 (.pointer (some ⟨B4_1, 1, none⟩)), .c 29 (.int .i64 b), .k 9 (.int .i64 b)] (fun _ _ _ _ => True) [0, 1, 2] [1] [(9, 2, 1, 10), (18, 0, 2, 20)] hst7 ?_ ?_ ?_
      · exact fun _ _ _ _ _ _ _ _ _ _ h => h
      · refine ⟨?_, trivial⟩
        · exact s4 rfl (fun _ _ _ h => h) fun cx => run_load1 rfl (by kernel_rfl) (cx.anc 0 rfl) ((cx.blk (cx.init 0 _ rfl) rfl).cell 1)
      intro σ β X W9 hD hX hst9 fr hfr
      simp only [zM, exq 0 (hX 0 _ rfl), exq 1 (hX 1 _ rfl), exq 2 (hX 2 _ rfl)] at hst9
      dsimp only [mgT, vals, List.take, List.drop, List.cons_append, List.nil_append] at hfr
      clear hX hD; subst hfr; clear σ β X
      refine then_normal ?_
      refine wp_seq ?_
      refine wp_region_P [0, 0, 1, 7] [.k 30 (.int .i64 a), .k 31 (.int .i64 b), .k 8 (.int .i64 a), .k 9 (.int .i64 b)] [(8, 2, 2, 10), (20, 0, 2, 22)] hst9 fun W10 hst10 => ?_
      refine then_normal ?_
      refine wp_ret ?_
      refine bodyPost_ret (v := .tuple #[.int .i64 a, .int .i64 b]) (by simp [results, Tryd.results23, go_sem]) rfl ?_
      exact Ret.of (by simp_all [bes1F, bes2F]) hst10.ext
    have hs8p := hs8
    simp only [zB] at hs8p
    refine wp_cond_false (show Act.eval _ _ = .bool false from (congrArg Value.bool hs8)) ?_
    refine wp_skip ?_
    refine then_normal ?_
    refine wp_seq ?_
    refine wp_region_P [0, 0, 1, 7] [.k 30 (.int .i64 a), .k 31 (.int .i64 0), .k 8 (.int .i64 a), .k 9 (.int .i64 0)] [(8, 2, 2, 10), (20, 0, 2, 22)] hst7 fun W11 hst11 => ?_
    refine then_normal ?_
    refine wp_ret ?_
    refine bodyPost_ret (v := .tuple #[.int .i64 a, .int .i64 0]) (by simp [results, Tryd.results23, go_sem]) rfl ?_
    exact Ret.of (by simp_all [bes1F, bes2F]) hst11.ext
  refine wp_cond_false (show Act.eval _ _ = .bool false from (congrArg Value.bool hs5)) ?_
  refine wp_skip ?_
  refine then_normal ?_
  refine wp_seq ?_
  refine wp_seq ?_
  refine wp_region_P [0] [.k 27 (.bool (b != 0 && besF hi ls own g b))] [(27, 0, 1, 28)] hst4 fun W12 hst12 => ?_
  refine then_normal ?_
  rcases Bool.eq_false_or_eq_true (b != 0 && besF hi ls own g b) with hs13 | hs13
  · skip
    have hs13p := hs13
    simp only [zB] at hs13p
    obtain ⟨hs13p1, hs13p2⟩ := hs13p
    refine wp_cond_true (show Act.eval _ _ = .bool true from (congrArg Value.bool hs13)) ?_
    refine wp_region_T [0, 1, 3] [[], [0]] [] [] [.k 28 (.pointer (some ⟨B4_1, 1, none⟩)), .c 29 (.int .i64 b), .k 9 (.int .i64 b)] (fun _ _ _ _ => True) [0, 1, 2] [1] [(9, 2, 1, 10), (18, 0, 2, 20)] hst12 ?_ ?_ ?_
    · exact fun _ _ _ _ _ _ _ _ _ _ h => h
    · refine ⟨?_, trivial⟩
      · exact s4 rfl (fun _ _ _ h => h) fun cx => run_load1 rfl (by kernel_rfl) (cx.anc 0 rfl) ((cx.blk (cx.init 0 _ rfl) rfl).cell 1)
    intro σ β X W14 hD hX hst14 fr hfr
    simp only [zM, exq 0 (hX 0 _ rfl), exq 1 (hX 1 _ rfl), exq 2 (hX 2 _ rfl)] at hst14
    dsimp only [mgT, vals, List.take, List.drop, List.cons_append, List.nil_append] at hfr
    clear hX hD; subst hfr; clear σ β X
    refine then_normal ?_
    refine wp_seq ?_
    refine wp_region_P [0, 0, 1, 7] [.k 30 (.int .i64 0), .k 31 (.int .i64 b), .k 8 (.int .i64 0), .k 9 (.int .i64 b)] [(8, 2, 2, 10), (20, 0, 2, 22)] hst14 fun W15 hst15 => ?_
    refine then_normal ?_
    refine wp_ret ?_
    refine bodyPost_ret (v := .tuple #[.int .i64 0, .int .i64 b]) (by simp [results, Tryd.results23, go_sem]) rfl ?_
    exact Ret.of (by simp_all [bes1F, bes2F]) hst15.ext
  have hs13p := hs13
  simp only [zB] at hs13p
  refine wp_cond_false (show Act.eval _ _ = .bool false from (congrArg Value.bool hs13)) ?_
  refine wp_skip ?_
  refine then_normal ?_
  refine wp_seq ?_
  refine wp_region_P [0, 0, 1, 7] [.k 30 (.int .i64 0), .k 31 (.int .i64 0), .k 8 (.int .i64 0), .k 9 (.int .i64 0)] [(8, 2, 2, 10), (20, 0, 2, 22)] hst12 fun W16 hst16 => ?_
  refine then_normal ?_
  refine wp_ret ?_
  refine bodyPost_ret (v := .tuple #[.int .i64 0, .int .i64 0]) (by simp [results, Tryd.results23, go_sem]) rfl ?_
  exact Ret.of (by simp_all [bes1F, bes2F]) hst16.ext

end Go.Proofs.YtfjpglohcppjeaaDoor

/- What a snapshot sees, 2: Busy, Dead, All. -/
import Derived.Test.YtfjpglohcppjeaaDoorT2
namespace Go.Proofs.YtfjpglohcppjeaaDoor
open Go.RowKit
set_option linter.unusedVariables false
set_option linter.unusedSimpArgs false

set_option maxRecDepth 100000 in
set_option maxHeartbeats 2000000 in
theorem busy_any (a b n1 n2 : Int) (ho : Bool) (RA : Option Addr) (rn rc : Nat) (OA : Option Addr) (oc : Nat) (own : List Int) (tt : TypeId) (tv : Value) (g : Int → Int) (w : World) (hO : At w OA (own.map (Value.int .i64))) (hol : own.length ≤ 100000) (hS : StOk w tt tv g) :
    Calls Tryd.prog 29 #[.agg #[.int .i64 a, .int .i64 b, .int .i64 n1, .int .i64 n2, .bool ho, .slice RA rn rc], .slice OA own.length oc, .iface tt (tv)] w (Ret (.int .i64 (busyF own g b)) w) := by
  obtain ⟨f0, rv, hM, hC, hG⟩ := hS.ex
  go_enter Tryd.func29, Tryd.ntmps29
  have hst0 := St.start w
  refine wp_seq ?_
  refine wp_region_T [0, 0] [] [[0]] [] [.a 3, .k 6 (.int .i64 0)] (fun ix σ β X => match ix with | 0 => σ 3 = .pointer (some ⟨(pb (β 3)), 0, none⟩) ∧ X 0 = eB (pb (β 3)) 27 #[.int .i64 a, .int .i64 b, .int .i64 n1, .int .i64 n2, .bool ho, .slice RA rn rc] | _ => True) [0] [0] [(3, 0, 1, 4), (2, 1, 1, 3)] hst0 ?_ ?_ ?_
  · exact fun ix _ _ _ _ _ _ hs hb hx h => match ix, h with
    | 0, h => by dsimp only at h ⊢; rw [← hs 3 rfl, ← hb 3 rfl, ← hx 0 rfl]; exact h
    | _ + 1, _ => trivial
  · refine ⟨?_, trivial⟩
    · refine sv_any rfl rfl fun ρ β W X cx => ?_
      exact dv_box (cs := #[.int .i64 a, .int .i64 b, .int .i64 n1, .int .i64 n2, .bool ho, .slice RA rn rc]) rfl (cx.out 0 rfl) rfl rfl rfl (fun σ β' X' hs hb hv hx => ⟨hv, hx⟩)
  intro σ β X W1 hD hX hst1 fr hfr
  obtain ⟨B3_1, hu_B3_1⟩ : ∃ z, pb (β 3) = z := ⟨_, rfl⟩
  simp only [zM, exq 0 ((dTn (hD 0 lq)).2), hu_B3_1] at hst1
  dsimp only [mgT, vals, List.take, List.drop, List.cons_append, List.nil_append] at hfr
  simp only [ed 3 ((dTn (hD 0 lq)).1), hu_B3_1] at hfr
  clear hX hD hu_B3_1; subst hfr; clear σ β X
  refine then_normal ?_
  refine wp_seq ?_
  refine wp_region_T [0, 0, 2, 7, 15] [[], [], [0]] [] [] [.k 8 (.iface tt (tv)), .k 9 (.pointer (some ⟨B3_1, 1, none⟩)), .c 10 (.int .i64 b), .c 11 (.int .i64 (g b)), .k 7 (.int .i64 (g b))] (fun _ _ _ _ => True) [0] [2, 3] [(7, 4, 1, 8), (0, 0, 4, 4)] hst1 ?_ ?_ ?_
  · exact fun _ _ _ _ _ _ _ _ _ _ h => h
  · refine ⟨?_, ?_, trivial⟩
    · exact s4 rfl (fun _ _ _ h => h) fun cx => run_load1 rfl (by kernel_rfl) (cx.anc 1 rfl) ((cx.blk (cx.init 0 _ rfl) rfl).cell 1)
    · exact sv_call rfl rfl rfl rfl rfl (fun _ _ _ h => h) fun ρ β W X cx => ⟨_, _, run_invoke (args := #[.int .i64 b]) (args' := #[rv, .int .i64 b]) rfl rfl (cx.anc 0 rfl) hM hC (map1 (cx.anc 2 rfl)) rfl, hG _ b cx.upd.to_ext⟩
  intro σ β X W2 hD hX hst2 fr hfr
  simp only [zM, exq 0 (hX 0 _ rfl)] at hst2
  dsimp only [mgT, vals, List.take, List.drop, List.cons_append, List.nil_append] at hfr
  clear hX hD; subst hfr; clear σ β X
  refine then_normal ?_
  refine wp_seq ?_
  refine wp_seq ?_
  refine wp_region_T [0, 0, 2, 7, 15, 31, 63, 127, 255, 511, 1023, 2047] [[], [], [0]] [] [] [.k 12 (.slice OA own.length oc), .k 13 (.pointer (some ⟨B3_1, 1, none⟩)), .c 14 (.int .i64 b), .c 15 (.bool (own.contains b)), .k 16 (.bool (own.contains b)), .z 17 (!(own.contains b)) (.int .i64 (g b)), .z 18 (!(own.contains b)) (.bool ((g b) != 1)), .z 19 (!(own.contains b)) (.bool ((g b) != 1)), .z 20 ((!(own.contains b)) && ((g b) != 1)) (.int .i64 (g b)), .z 21 ((!(own.contains b)) && ((g b) != 1)) (.bool ((g b) != 4)), .y 22 (!(own.contains b)) (.bool (((g b) != 1) && ((g b) != 4))), tO 23 (own.contains b) (((g b) != 1) && ((g b) != 4))] (fun _ _ _ _ => True) [0] [2, 3, 10] [(12, 0, 12, 24)] hst2 ?_ ?_ ?_
  · exact fun _ _ _ _ _ _ _ _ _ _ h => h
  · refine ⟨?_, ?_, ?_, trivial⟩
    · exact s4 rfl (fun _ _ _ h => h) fun cx => run_load1 rfl (by kernel_rfl) (cx.anc 1 rfl) ((cx.blk (cx.init 0 _ rfl) rfl).cell 1)
    · exact sv_call rfl rfl rfl rfl rfl (fun _ _ _ h => h) fun ρ β W X cx => ⟨_, _, run_callF (args := #[.slice OA own.length oc, .int .i64 b]) rfl cx.sees rfl (by kernel_rfl) (map2 (cx.anc 0 rfl) (cx.anc 2 rfl)), icontains_any _ _ own b _ (hO.ext cx.upd.to_ext) (by assumption)⟩
    · exact m2 rfl (fun _ _ _ h => h) (fun cx => (cx.anc 4 rfl)) fun cx hq => run_pick_and rfl (mbv (cx.anc 7 rfl) hq) (cx.anc 9 rfl) (fun e_ => by rw [hq, e_]; rfl) (cx.sees.const _)
  intro σ β X W3 hD hX hst3 fr hfr
  simp only [zM, exq 0 (hX 0 _ rfl)] at hst3
  dsimp only [mgT, vals, List.take, List.drop, List.cons_append, List.nil_append] at hfr
  clear hX hD; subst hfr; clear σ β X
  refine then_normal ?_
  rcases Bool.eq_false_or_eq_true ((own.contains b) || (((g b) != 1) && ((g b) != 4))) with hs4 | hs4
  · skip
    have hs4p := hs4
    simp only [zB] at hs4p
    refine wp_cond_true (show Act.eval _ _ = .bool true from (congrArg Value.bool hs4)) ?_
    refine wp_seq ?_
    refine wp_region_P [0] [.k 6 (.int .i64 0)] [(6, 0, 1, 7)] hst3 fun W5 hst5 => ?_
    refine then_normal ?_
    refine wp_ret ?_
    refine then_ret ?_
    refine bodyPost_ret (v := .int .i64 0) (results_tmp Tryd.results29 rfl) rfl ?_
    exact Ret.int (by simp_all [busyF]) hst5.ext
  have hs4p := hs4
  simp only [zB] at hs4p
  obtain ⟨hs4p1, hs4p2⟩ := hs4p
  refine wp_cond_false (show Act.eval _ _ = .bool false from (congrArg Value.bool hs4)) ?_
  refine wp_skip ?_
  refine then_normal ?_
  refine wp_seq ?_
  refine wp_region_T [0, 1, 3] [[], [0]] [] [] [.k 24 (.pointer (some ⟨B3_1, 1, none⟩)), .c 25 (.int .i64 b), .k 6 (.int .i64 b)] (fun _ _ _ _ => True) [0] [1] [(6, 2, 1, 7), (17, 0, 2, 19)] hst3 ?_ ?_ ?_
  · exact fun _ _ _ _ _ _ _ _ _ _ h => h
  · refine ⟨?_, trivial⟩
    · exact s4 rfl (fun _ _ _ h => h) fun cx => run_load1 rfl (by kernel_rfl) (cx.anc 0 rfl) ((cx.blk (cx.init 0 _ rfl) rfl).cell 1)
  intro σ β X W6 hD hX hst6 fr hfr
  simp only [zM, exq 0 (hX 0 _ rfl)] at hst6
  dsimp only [mgT, vals, List.take, List.drop, List.cons_append, List.nil_append] at hfr
  clear hX hD; subst hfr; clear σ β X
  refine then_normal ?_
  refine wp_ret ?_
  refine bodyPost_ret (v := .int .i64 b) (results_tmp Tryd.results29 rfl) rfl ?_
  exact Ret.int (by simp_all [busyF]) hst6.ext

set_option maxRecDepth 100000 in
set_option maxHeartbeats 2000000 in
theorem old_any (hz x : Int) (tt : TypeId) (tv : Value) (g : Int → Int) (w : World) (hS : StOk w tt tv g) :
    Calls Tryd.prog 69 #[.int .i64 x, .int .i64 hz, .iface tt (tv)] w (Ret (.bool (oldF g hz x)) w) := by
  obtain ⟨f0, rv, hM, hC, hG⟩ := hS.ex
  go_enter Tryd.func69, Tryd.ntmps69
  have hst0 := St.start w
  refine wp_seq ?_
  refine wp_region_P [0] [.k 6 (.bool false)] [(6, 0, 1, 7)] hst0 fun W1 hst1 => ?_
  refine then_normal ?_
  refine wp_seq ?_
  refine wp_region_T [0, 1, 3, 7, 7, 31, 63, 127, 255, 255, 1023, 2047, 4095, 8191] [] [] [] [.k 7 (.int .i64 x), .c 8 (.bool (onF x)), .k 9 (.bool (onF x)), .z 10 (onF x) (.int .i64 x), .z 11 (onF x) (.int .i64 hz), .y 12 (onF x) (.bool (beforeF x hz)), tA 13 (onF x) (beforeF x hz), .k 14 (.bool ((onF x) && (beforeF x hz))), .z 15 ((onF x) && (beforeF x hz)) (.iface tt (tv)), .z 16 ((onF x) && (beforeF x hz)) (.int .i64 x), .y 17 ((onF x) && (beforeF x hz)) (.int .i64 (g x)), .z 18 ((onF x) && (beforeF x hz)) (.bool ((g x) == 2)), tA 19 ((onF x) && (beforeF x hz)) ((g x) == 2), .k 6 (.bool (((onF x) && (beforeF x hz)) && ((g x) == 2)))] (fun _ _ _ _ => True) [] [1, 5, 10] [(6, 13, 1, 7), (0, 0, 13, 13)] hst1 ?_ ?_ ?_
  · exact fun _ _ _ _ _ _ _ _ _ _ h => h
  · refine ⟨?_, ?_, ?_, trivial⟩
    · exact sv_call rfl rfl rfl rfl rfl (fun _ _ _ h => h) fun ρ β W X cx => ⟨_, _, run_callF (args := #[.int .i64 x]) rfl cx.sees rfl (by kernel_rfl) (map1 (cx.anc 0 rfl)), ton_any x _⟩
    · exact m3 rfl (fun _ _ _ h => h) (fun cx => (cx.anc 2 rfl)) fun cx hq => ⟨_, _, run_callF (args := #[.int .i64 x, .int .i64 hz]) rfl cx.sees rfl (by kernel_rfl) (map2 (mbv (cx.anc 3 rfl) hq) (mbv (cx.anc 4 rfl) hq)), cbefore_any x hz _⟩
    · exact m3 rfl (fun _ _ _ h => h) (fun cx => (cx.anc 7 rfl)) fun cx hq => ⟨_, _, run_invoke (args := #[.int .i64 x]) (args' := #[rv, .int .i64 x]) rfl rfl (mbv (cx.anc 8 rfl) hq) hM hC (map1 (mbv (cx.anc 9 rfl) hq)) rfl, hG _ x cx.upd.to_ext⟩
  intro σ β X W2 hD hX hst2 fr hfr
  simp only [zM] at hst2
  dsimp only [mgT, vals, List.take, List.drop, List.cons_append, List.nil_append] at hfr
  clear hX hD; subst hfr; clear σ β X
  refine then_normal ?_
  refine wp_ret ?_
  refine bodyPost_ret (v := .bool (((onF x) && (beforeF x hz)) && ((g x) == 2))) (results_tmp Tryd.results69 rfl) rfl ?_
  exact Ret.bool (by simp_all [oldF]) hst2.ext

set_option maxRecDepth 100000 in
set_option maxHeartbeats 2000000 in
theorem dead_any (a b n1 n2 : Int) (ho : Bool) (RA : Option Addr) (rn rc : Nat) (hz : Int) (tt : TypeId) (tv : Value) (g : Int → Int) (w : World) (hS : StOk w tt tv g) :
    Calls Tryd.prog 31 #[.agg #[.int .i64 a, .int .i64 b, .int .i64 n1, .int .i64 n2, .bool ho, .slice RA rn rc], .int .i64 hz, .iface tt (tv)] w (Ret (.bool (deadF g hz a b)) w) := by
  obtain ⟨f0, rv, hM, hC, hG⟩ := hS.ex
  go_enter Tryd.func31, Tryd.ntmps31
  have hst0 := St.start w
  refine wp_seq ?_
  refine wp_region_T [0, 0] [] [[0]] [] [.a 3, .k 6 (.bool false)] (fun ix σ β X => match ix with | 0 => σ 3 = .pointer (some ⟨(pb (β 3)), 0, none⟩) ∧ X 0 = eB (pb (β 3)) 27 #[.int .i64 a, .int .i64 b, .int .i64 n1, .int .i64 n2, .bool ho, .slice RA rn rc] | _ => True) [0] [0] [(3, 0, 1, 4), (2, 1, 1, 3)] hst0 ?_ ?_ ?_
  · exact fun ix _ _ _ _ _ _ hs hb hx h => match ix, h with
    | 0, h => by dsimp only at h ⊢; rw [← hs 3 rfl, ← hb 3 rfl, ← hx 0 rfl]; exact h
    | _ + 1, _ => trivial
  · refine ⟨?_, trivial⟩
    · refine sv_any rfl rfl fun ρ β W X cx => ?_
      exact dv_box (cs := #[.int .i64 a, .int .i64 b, .int .i64 n1, .int .i64 n2, .bool ho, .slice RA rn rc]) rfl (cx.out 0 rfl) rfl rfl rfl (fun σ β' X' hs hb hv hx => ⟨hv, hx⟩)
  intro σ β X W1 hD hX hst1 fr hfr
  obtain ⟨B3_1, hu_B3_1⟩ : ∃ z, pb (β 3) = z := ⟨_, rfl⟩
  simp only [zM, exq 0 ((dTn (hD 0 lq)).2), hu_B3_1] at hst1
  dsimp only [mgT, vals, List.take, List.drop, List.cons_append, List.nil_append] at hfr
  simp only [ed 3 ((dTn (hD 0 lq)).1), hu_B3_1] at hfr
  clear hX hD hu_B3_1; subst hfr; clear σ β X
  refine then_normal ?_
  refine wp_seq ?_
  refine wp_region_T [0, 0, 2, 7, 15, 31, 63, 127, 63, 63, 1023, 2047, 4095] [[], [], [0], [], [], [], [], [0]] [] [] [.k 7 (.iface tt (tv)), .k 8 (.pointer (some ⟨B3_1, 0, none⟩)), .c 9 (.int .i64 a), .c 10 (.int .i64 (g a)), .k 11 (.bool ((g a) == 3)), .k 12 (.bool ((g a) == 3)), .z 13 (!((g a) == 3)) (.pointer (some ⟨B3_1, 1, none⟩)), .y 14 (!((g a) == 3)) (.int .i64 b), .z 15 (!((g a) == 3)) (.int .i64 hz), .z 16 (!((g a) == 3)) (.iface tt (tv)), .y 17 (!((g a) == 3)) (.bool (oldF g hz b)), tO 18 ((g a) == 3) (oldF g hz b), .k 6 (.bool (((g a) == 3) || (oldF g hz b)))] (fun _ _ _ _ => True) [0] [2, 3, 7, 10] [(6, 12, 1, 7), (0, 0, 12, 12)] hst1 ?_ ?_ ?_
  · exact fun _ _ _ _ _ _ _ _ _ _ h => h
  · refine ⟨?_, ?_, ?_, ?_, trivial⟩
    · exact s4 rfl (fun _ _ _ h => h) fun cx => run_load1 rfl (by kernel_rfl) (cx.anc 1 rfl) ((cx.blk (cx.init 0 _ rfl) rfl).cell 0)
    · exact sv_call rfl rfl rfl rfl rfl (fun _ _ _ h => h) fun ρ β W X cx => ⟨_, _, run_invoke (args := #[.int .i64 a]) (args' := #[rv, .int .i64 a]) rfl rfl (cx.anc 0 rfl) hM hC (map1 (cx.anc 2 rfl)) rfl, hG _ a cx.upd.to_ext⟩
    · exact m2 rfl (fun _ _ _ h => h) (fun cx => (cx.anc 5 rfl)) fun cx hq => run_load1 rfl (by kernel_rfl) (mbv (cx.anc 6 rfl) hq) ((cx.blk (cx.init 0 _ rfl) rfl).cell 1)
    · exact m3 rfl (fun _ _ _ h => h) (fun cx => (cx.anc 5 rfl)) fun cx hq => ⟨_, _, run_callF (args := #[.int .i64 b, .int .i64 hz, .iface tt (tv)]) rfl cx.sees rfl (by kernel_rfl) (map3 (mbv (cx.anc 7 rfl) hq) (mbv (cx.anc 8 rfl) hq) (mbv (cx.anc 9 rfl) hq)), old_any hz b _ _ _ _ (hS.ext cx.upd.to_ext)⟩
  intro σ β X W2 hD hX hst2 fr hfr
  simp only [zM, exq 0 (hX 0 _ rfl)] at hst2
  dsimp only [mgT, vals, List.take, List.drop, List.cons_append, List.nil_append] at hfr
  clear hX hD; subst hfr; clear σ β X
  refine then_normal ?_
  refine wp_ret ?_
  refine bodyPost_ret (v := .bool (((g a) == 3) || (oldF g hz b))) (results_tmp Tryd.results31 rfl) rfl ?_
  exact Ret.bool (by simp_all [deadF]) hst2.ext

set_option maxRecDepth 100000 in
set_option maxHeartbeats 2000000 in
theorem all_any (a b n1 n2 : Int) (ho : Bool) (RA : Option Addr) (rn rc : Nat) (hz : Int) (tt : TypeId) (tv : Value) (g : Int → Int) (w : World) (hS : StOk w tt tv g) :
    Calls Tryd.prog 33 #[.agg #[.int .i64 a, .int .i64 b, .int .i64 n1, .int .i64 n2, .bool ho, .slice RA rn rc], .int .i64 hz, .iface tt (tv)] w (Ret (.bool (allF g hz a b)) w) := by
  obtain ⟨f0, rv, hM, hC, hG⟩ := hS.ex
  go_enter Tryd.func33, Tryd.ntmps33
  have hst0 := St.start w
  refine wp_seq ?_
  refine wp_region_T [0, 0] [] [[0]] [] [.a 3, .k 6 (.bool false)] (fun ix σ β X => match ix with | 0 => σ 3 = .pointer (some ⟨(pb (β 3)), 0, none⟩) ∧ X 0 = eB (pb (β 3)) 27 #[.int .i64 a, .int .i64 b, .int .i64 n1, .int .i64 n2, .bool ho, .slice RA rn rc] | _ => True) [0] [0] [(3, 0, 1, 4), (2, 1, 1, 3)] hst0 ?_ ?_ ?_
  · exact fun ix _ _ _ _ _ _ hs hb hx h => match ix, h with
    | 0, h => by dsimp only at h ⊢; rw [← hs 3 rfl, ← hb 3 rfl, ← hx 0 rfl]; exact h
    | _ + 1, _ => trivial
  · refine ⟨?_, trivial⟩
    · refine sv_any rfl rfl fun ρ β W X cx => ?_
      exact dv_box (cs := #[.int .i64 a, .int .i64 b, .int .i64 n1, .int .i64 n2, .bool ho, .slice RA rn rc]) rfl (cx.out 0 rfl) rfl rfl rfl (fun σ β' X' hs hb hv hx => ⟨hv, hx⟩)
  intro σ β X W1 hD hX hst1 fr hfr
  obtain ⟨B3_1, hu_B3_1⟩ : ∃ z, pb (β 3) = z := ⟨_, rfl⟩
  simp only [zM, exq 0 ((dTn (hD 0 lq)).2), hu_B3_1] at hst1
  dsimp only [mgT, vals, List.take, List.drop, List.cons_append, List.nil_append] at hfr
  simp only [ed 3 ((dTn (hD 0 lq)).1), hu_B3_1] at hfr
  clear hX hD hu_B3_1; subst hfr; clear σ β X
  refine then_normal ?_
  refine wp_seq ?_
  refine wp_region_T [0, 1, 3, 7, 15, 31, 15, 15, 255, 511, 1023, 2047, 4095, 8191, 16383, 32767, 32767, 98303, 262143, 524287, 1048575, 2097151, 4194303] [[], [0], [], [], [], [0], [], [], [], [], [], [], [0], [], [], [], [], [0]] [] [] [.k 7 (.pointer (some ⟨B3_1, 0, none⟩)), .c 8 (.int .i64 a), .k 9 (.bool (a == 2)), .k 10 (.bool (a == 2)), .z 11 (!(a == 2)) (.pointer (some ⟨B3_1, 0, none⟩)), .y 12 (!(a == 2)) (.int .i64 a), .z 13 (!(a == 2)) (.int .i64 hz), .z 14 (!(a == 2)) (.iface tt (tv)), .y 15 (!(a == 2)) (.bool (oldF g hz a)), tO 16 (a == 2) (oldF g hz a), .k 17 (.bool ((a == 2) || (oldF g hz a))), .z 18 ((a == 2) || (oldF g hz a)) (.pointer (some ⟨B3_1, 1, none⟩)), .y 19 ((a == 2) || (oldF g hz a)) (.int .i64 b), .z 20 ((a == 2) || (oldF g hz a)) (.bool (b == 0)), .z 21 ((a == 2) || (oldF g hz a)) (.bool (b == 0)), .z 22 (((a == 2) || (oldF g hz a)) && (!(b == 0))) (.iface tt (tv)), .z 23 (((a == 2) || (oldF g hz a)) && (!(b == 0))) (.pointer (some ⟨B3_1, 1, none⟩)), .y 24 (((a == 2) || (oldF g hz a)) && (!(b == 0))) (.int .i64 b), .y 25 (((a == 2) || (oldF g hz a)) && (!(b == 0))) (.int .i64 (g b)), .z 26 (((a == 2) || (oldF g hz a)) && (!(b == 0))) (.bool ((g b) == 3)), .y 27 ((a == 2) || (oldF g hz a)) (.bool ((b == 0) || ((g b) == 3))), tA 28 ((a == 2) || (oldF g hz a)) ((b == 0) || ((g b) == 3)), .k 6 (.bool (((a == 2) || (oldF g hz a)) && ((b == 0) || ((g b) == 3))))] (fun _ _ _ _ => True) [0] [1, 5, 8, 12, 17, 18, 20] [(6, 22, 1, 7), (0, 0, 22, 22)] hst1 ?_ ?_ ?_
  · exact fun _ _ _ _ _ _ _ _ _ _ h => h
  · refine ⟨?_, ?_, ?_, ?_, ?_, ?_, ?_, trivial⟩
    · exact s4 rfl (fun _ _ _ h => h) fun cx => run_load1 rfl (by kernel_rfl) (cx.anc 0 rfl) ((cx.blk (cx.init 0 _ rfl) rfl).cell 0)
    · exact m2 rfl (fun _ _ _ h => h) (fun cx => (cx.anc 3 rfl)) fun cx hq => run_load1 rfl (by kernel_rfl) (mbv (cx.anc 4 rfl) hq) ((cx.blk (cx.init 0 _ rfl) rfl).cell 0)
    · exact m3 rfl (fun _ _ _ h => h) (fun cx => (cx.anc 3 rfl)) fun cx hq => ⟨_, _, run_callF (args := #[.int .i64 a, .int .i64 hz, .iface tt (tv)]) rfl cx.sees rfl (by kernel_rfl) (map3 (mbv (cx.anc 5 rfl) hq) (mbv (cx.anc 6 rfl) hq) (mbv (cx.anc 7 rfl) hq)), old_any hz a _ _ _ _ (hS.ext cx.upd.to_ext)⟩
    · exact m2 rfl (fun _ _ _ h => h) (fun cx => (cx.anc 10 rfl)) fun cx hq => run_load1 rfl (by kernel_rfl) (mbv (cx.anc 11 rfl) hq) ((cx.blk (cx.init 0 _ rfl) rfl).cell 1)
    · exact m0 rfl (fun _ _ _ h => h) (fun cx => (cx.anc 14 rfl)) fun cx hq => run_load1 rfl (by kernel_rfl) (mbv (cx.anc 16 rfl) hq) ((cx.blk (cx.init 0 _ rfl) rfl).cell 1)
    · exact m1 rfl (fun _ _ _ h => h) (fun cx => (cx.anc 14 rfl)) fun cx hq => ⟨_, _, run_invoke (args := #[.int .i64 b]) (args' := #[rv, .int .i64 b]) rfl rfl (mbv (cx.anc 15 rfl) hq) hM hC (map1 (mbv (cx.anc 17 rfl) hq)) rfl, hG _ b cx.upd.to_ext⟩
    · exact m2 rfl (fun _ _ _ h => h) (fun cx => (cx.anc 10 rfl)) fun cx hq => run_pick_or rfl (mbv (cx.anc 14 rfl) hq) (cx.sees.const _) (cx.anc 19 rfl) (fun e_ => by rw [hq, e_]; rfl)
  intro σ β X W2 hD hX hst2 fr hfr
  simp only [zM, exq 0 (hX 0 _ rfl)] at hst2
  dsimp only [mgT, vals, List.take, List.drop, List.cons_append, List.nil_append] at hfr
  clear hX hD; subst hfr; clear σ β X
  refine then_normal ?_
  refine wp_ret ?_
  refine bodyPost_ret (v := .bool (((a == 2) || (oldF g hz a)) && ((b == 0) || ((g b) == 3)))) (results_tmp Tryd.results33 rfl) rfl ?_
  exact Ret.bool (by simp_all [allF]) hst2.ext

end Go.Proofs.YtfjpglohcppjeaaDoor

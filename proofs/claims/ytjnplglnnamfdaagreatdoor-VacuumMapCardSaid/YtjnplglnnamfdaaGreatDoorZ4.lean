/- VacuumMapRow9: part 4 of the proof. -/
import Derived.Test.YtjnplglnnamfdaaGreatDoorZ3
import Derived.Maps.OwnSet
import Derived.Maps.Views
import Derived.Carry
import Derived.Deep.RegionHeld3
set_option linter.unusedVariables false
set_option linter.unusedSimpArgs false
namespace Go.Proofs.YtjnplglnnamfdaaGreatDoor
section
open Go.RowKit
set_option linter.unusedVariables false
set_option linter.unusedSimpArgs false
def it0 : Itm := (ByteArray.empty, none)
theorem getD_strs {its : List Itm} {m : Nat} (h : m < its.length) : (strs its)[m]? = some (.string (its.getD m it0).1) := by
  rw [strs, List.getElem?_map, List.getElem?_eq_getElem h, List.getD_eq_getElem?_getD, List.getElem?_eq_getElem h]; rfl
def hdF (v : PV) : Bool := !((((!(v.ok)) || ((v.k) != 1)) || ((v.its.length : Int) == 0)) || ((((v.its.getD 0 it0).1).size : Int) != 2))
def ofF (v : PV) : Int := if hdF v then (numS (v.its.getD 0 it0).1 0 2 : Int) else 0
def tbF (v : PV) : Int := if hdF v then (numS (v.its.getD 0 it0).1 0 2 : Int) else -1
set_option maxRecDepth 100000 in
set_option maxHeartbeats 2000000 in
theorem of_any (tt : TypeId) (tv : Value) (pv : Int → PV) (n : Int) (w : World) (hS : PgsOk w tt tv pv) :
    Calls Tryz.prog 59 #[.iface tt (tv), .int .i64 n] w (Ret (.tuple #[.int .i64 (ofF (pv n)), .bool (hdF (pv n))]) w) := by
  obtain ⟨f0, rv, hM, hC, hG⟩ := hS.ex
  have hwl := (hS.wf n).1
  go_enter Tryz.func59, Tryz.ntmps59
  have hst0 := St.start w
  refine wp_seq (wp_region_P [0, 1] [.k 4 (vi 0), .k 5 (.bool false)] [(4, 0, 2, 6)] hst0 fun W1 hst1 => ?_)
  refine then_normal (wp_seq (wp_region_Y [0, 0, 3, 7, 15, 15, 0, 95, 255] [[], [], [], [], [], [], [], [1]] [[], [], [0], [], [], [], [1], [2]] [[], [], [], [], [], [], [], [1]] [.k 8 (.iface tt (tv)), .k 9 (vi n), .a 10, .a 7, .a 11, .c 12 (.bool ((pv n).ok)), .a 6, .n, .k 5 (.bool ((pv n).ok))] (fun ix σ β X => match ix with | 0 => True | 1 => True | 2 => σ 10 = .tuple #[.agg #[vi ((pv n).k), vi ((pv n).l), .slice (sA (tg (tg (β 10) 0) 2)) ((pv n).its.length) (sC (tg (tg (β 10) 0) 2))], .bool ((pv n).ok)] ∧ X 0 = eO 9 1 (.slice (sA (tg (tg (β 10) 0) 2)) ((pv n).its.length) (sC (tg (tg (β 10) 0) 2))) ((pv n).its.length) (strs (pv n).its) | 3 => σ 7 = .tuple #[.agg #[vi ((pv n).k), vi ((pv n).l), .slice (sA (tg (tg (β 10) 0) 2)) ((pv n).its.length) (sC (tg (tg (β 10) 0) 2))], .bool ((pv n).ok)] | 4 => σ 11 = .agg #[vi ((pv n).k), vi ((pv n).l), .slice (sA (tg (tg (β 10) 0) 2)) ((pv n).its.length) (sC (tg (tg (β 10) 0) 2))] | 5 => True | 6 => σ 6 = vp (pb (β 6)) ∧ X 1 = eB (pb (β 6)) 64 #[vi 0, vi 0, .slice none 0 0] | 7 => X 2 = eB (pb (β 6)) 64 #[vi ((pv n).k), vi ((pv n).l), .slice (sA (tg (tg (β 10) 0) 2)) ((pv n).its.length) (sC (tg (tg (β 10) 0) 2))] | _ => True) [0, 2] [2, 3, 4, 5, 6, 7] [(5, 8, 1, 6), (0, 6, 1, 1), (0, 3, 1, 1), (0, 0, 3, 3), (0, 4, 2, 2)] hst1 ?_ ?_ ?_))
  · exact fun ix _ _ _ _ _ _ hs hb hx h => match ix, h with
    | 2, h => by dsimp only at h ⊢; rw [← hs 10 rfl, ← hb 10 rfl, ← hx 0 rfl]; exact h
    | 3, h => by dsimp only at h ⊢; rw [← hs 7 rfl, ← hb 10 rfl]; exact h
    | 4, h => by dsimp only at h ⊢; rw [← hs 11 rfl, ← hb 10 rfl]; exact h
    | 6, h => by dsimp only at h ⊢; rw [← hs 6 rfl, ← hb 6 rfl, ← hx 1 rfl]; exact h
    | 7, h => by dsimp only at h ⊢; rw [← hb 6 rfl, ← hb 10 rfl, ← hx 2 rfl]; exact h
    | 0, _ | 1, _ | 5, _ | _ + 8, _ => trivial
  · refine ⟨?_, ?_, ?_, ?_, ?_, ?_, trivial⟩
    · refine sv_any rfl rfl fun ρ β W X cx => ?_
      refine DoesU.call (run_invoke (args := #[vi n]) (args' := #[rv, vi n]) rfl rfl (cx.an 0) hM hC (map1 (cx.an 1)) rfl) ?_
      refine (hG _ n cx.upd.to_ext).mono ?_
      rintro e W1 ⟨A4, c4, rfl, ho, hx⟩
      refine ⟨_, rfl, post_call [eO 9 1 (.slice A4 (pv n).its.length c4) (pv n).its.length (strs (pv n).its)] rfl rfl hx (one_new (eO_new ho)) (List.pairwise_singleton _ _) (fun σ β' X' hs hb hv hN => ?_)⟩
      have hv1 := (hv 10 rfl).1; have hv2 := (hv 10 rfl).2
      exact ⟨hv1.trans (by rw [hv2]; rfl), (by rw [hv2]; exact (List.cons.inj hN).1)⟩
    · exact sv rfl rfl rfl rfl rfl _ (fun _ _ _ h => h) (fun β β' h => by rw [h 10 (by decide)]) fun ρ β W X cx => run_move' rfl (dTn (cx.an 2)).1
    · exact sv rfl rfl rfl rfl rfl _ (fun _ _ _ h => h) (fun β β' h => by rw [h 10 (by decide)]) fun ρ β W X cx => run_extract' rfl (dTn (cx.an 3)) rfl
    · exact xs4 rfl id fun cx => run_extract' rfl (dTn (cx.an 3)) rfl
    · refine sv_any rfl rfl fun ρ β W X cx => ?_
      exact dv_alloc (cs := #[vi 0, vi 0, .slice none 0 0]) rfl (by kernel_rfl) rfl rfl (fun σ β' X' hs hb hv hx => ⟨hv, hx⟩)
    · refine sv_any rfl rfl fun ρ β W X cx => ?_
      exact dv_store (n := 3) rfl (dTn (cx.an 6)).1 (dTn (cx.an 4)) (by kernel_rfl) (by kernel_rfl) (by kernel_rfl) cx (dTn (cx.an 6)).2 rfl (nle rfl) (by kernel_rfl) rfl rfl rfl (fun σ β' X' hs hb hx => by rw [hb 6, hb 10]; exact hx)
  intro σ β X W2 hD hst2 fr hfr
  obtain ⟨A10_2, hu_A10_2⟩ : ∃ z, sA (tg (tg (β 10) 0) 2) = z := ⟨_, rfl⟩
  obtain ⟨c10_2, hu_c10_2⟩ : ∃ z, sC (tg (tg (β 10) 0) 2) = z := ⟨_, rfl⟩
  obtain ⟨B6_2, hu_B6_2⟩ : ∃ z, pb (β 6) = z := ⟨_, rfl⟩
  simp only [exq 0 ((dTn (hD 2 lq)).2), exq 2 ((dTn (hD 7 lq))), hu_A10_2, hu_c10_2, hu_B6_2] at hst2
  simp only [ed 10 ((dTn (hD 2 lq)).1), ed 7 ((dTn (hD 3 lq))), ed 11 ((dTn (hD 4 lq))), ed 6 ((dTn (hD 6 lq)).1), hu_A10_2, hu_c10_2, hu_B6_2] at hfr
  clear hD hu_A10_2 hu_c10_2 hu_B6_2; subst hfr; clear σ β X
  refine then_normal (wp_seq (wp_seq (wp_region_Z [0, 1, 3, 7, 15, 31, 63, 127, 255, 511, 1023, 2047, 4095, 8191, 16383, 32767, 65535, 131071, 262143, 524287, 1048575] [[], [], [], [], [1], [], [], [], [], [1], [], [], [], [], [], [1], [0], [0]] [.k 13 (.bool ((pv n).ok)), .k 14 (.bool (!((pv n).ok))), .k 15 (.bool (!((pv n).ok))), .z 16 (!(!((pv n).ok))) (vp B6_2), .y 17 (!(!((pv n).ok))) (vi ((pv n).k)), .z 18 (!(!((pv n).ok))) (.bool (((pv n).k) != 1)), tO 19 (!((pv n).ok)) (((pv n).k) != 1), .k 20 (.bool ((!((pv n).ok)) || (((pv n).k) != 1))), .z 21 (!((!((pv n).ok)) || (((pv n).k) != 1))) (.pointer (some ⟨B6_2, 2, none⟩)), .y 22 (!((!((pv n).ok)) || (((pv n).k) != 1))) (.slice A10_2 ((pv n).its.length) c10_2), .z 23 (!((!((pv n).ok)) || (((pv n).k) != 1))) (vi (((pv n).its.length : Int))), .z 24 (!((!((pv n).ok)) || (((pv n).k) != 1))) (.bool (((pv n).its.length : Int) == 0)), tO 25 ((!((pv n).ok)) || (((pv n).k) != 1)) (((pv n).its.length : Int) == 0), .k 26 (.bool (((!((pv n).ok)) || (((pv n).k) != 1)) || (((pv n).its.length : Int) == 0))), .z 27 (!(((!((pv n).ok)) || (((pv n).k) != 1)) || (((pv n).its.length : Int) == 0))) (.pointer (some ⟨B6_2, 2, none⟩)), .y 28 (!(((!((pv n).ok)) || (((pv n).k) != 1)) || (((pv n).its.length : Int) == 0))) (.slice A10_2 ((pv n).its.length) c10_2), .y 29 (!(((!((pv n).ok)) || (((pv n).k) != 1)) || (((pv n).its.length : Int) == 0))) (.pointer (some ((ad A10_2).add 0))), .y 30 (!(((!((pv n).ok)) || (((pv n).k) != 1)) || (((pv n).its.length : Int) == 0))) (.string (((pv n).its.getD 0 it0).1)), .z 31 (!(((!((pv n).ok)) || (((pv n).k) != 1)) || (((pv n).its.length : Int) == 0))) (vi (((((pv n).its.getD 0 it0).1).size : Int))), .z 32 (!(((!((pv n).ok)) || (((pv n).k) != 1)) || (((pv n).its.length : Int) == 0))) (.bool (((((pv n).its.getD 0 it0).1).size : Int) != 2)), tO 33 (((!((pv n).ok)) || (((pv n).k) != 1)) || (((pv n).its.length : Int) == 0)) (((((pv n).its.getD 0 it0).1).size : Int) != 2)] [0, 1] [4, 9, 15, 16, 17] [(13, 0, 21, 34)] hst2 ?_ fun W3 hst3 => ?_)))
  · refine ⟨?_, ?_, ?_, ?_, ?_, trivial⟩
    · exact m2 rfl (fun _ _ _ h => h) (fun cx => (cx.an 2)) fun cx hq => run_load1 rfl (by kernel_rfl) (mbv (cx.an 3) hq) ((cx.bi 1 rfl).cell 0)
    · exact m2 rfl (fun _ _ _ h => h) (fun cx => (cx.an 7)) fun cx hq => run_load1 rfl (by kernel_rfl) (mbv (cx.an 8) hq) ((cx.bi 1 rfl).cell 2)
    · exact m2 rfl (fun _ _ _ h => h) (fun cx => (cx.an 13)) fun cx hq => run_load1 rfl (by kernel_rfl) (mbv (cx.an 14) hq) ((cx.bi 1 rfl).cell 2)
    · exact m2 rfl (fun _ _ _ h => h) (fun cx => (cx.an 13)) fun cx hq => run_indexSl (e := 9) (m := 0) rfl (by kernel_rfl) (by kernel_rfl) (mbv (cx.an 15) hq) (cx.co _) (by have hq_ := hq; simp only [zB] at hq_; omega) (by have hq_ := hq; simp only [zB] at hq_; omega) (At.of_own (cx.ri 0 rfl)) (strs_len _)
    · exact m2 rfl (fun _ _ _ h => h) (fun cx => (cx.an 13)) fun cx hq => run_load1 rfl (by kernel_rfl) (mbv (cx.an 16) hq) (At.cellAd (At.of_own (cx.ri 0 rfl)) (getD_strs (by have hq_ := hq; simp only [zB] at hq_; omega)))
  refine then_normal ?_
  rcases Bool.eq_false_or_eq_true ((((!((pv n).ok)) || (((pv n).k) != 1)) || (((pv n).its.length : Int) == 0)) || (((((pv n).its.getD 0 it0).1).size : Int) != 2)) with hs4 | hs4
  · skip
    have hs4p := hs4
    simp only [zB] at hs4p
    refine wp_cond_true (show Act.eval _ _ = .bool true from (congrArg Value.bool hs4)) (wp_seq (wp_region_P [0, 1] [.k 4 (vi 0), .k 5 (.bool false)] [(4, 0, 2, 6)] hst3 fun W5 hst5 => ?_))
    refine then_normal (wp_ret (then_ret ?_))
    refine bodyPost_ret (v := .tuple #[vi 0, .bool false]) (by simp [results, Tryz.results59, go_sem]) rfl ?_
    exact Ret.of (by rw [ofF, hdF, hs4]; rfl) hst5.ext
  have hs4p := hs4
  simp only [zB] at hs4p
  obtain ⟨⟨⟨hs4p1, hs4p2⟩, hs4p3⟩, hs4p4⟩ := hs4p
  refine wp_cond_false (show Act.eval _ _ = .bool false from (congrArg Value.bool hs4)) (wp_skip (then_normal (wp_seq (wp_region_Y [0, 1, 3, 7, 15, 31, 63, 127] [[], [1], [0], [0], [], [2]] [[], [], [], [], [2], [3]] [[], [], [], [], [], [2]] [.k 34 (.pointer (some ⟨B6_2, 2, none⟩)), .c 35 (.slice A10_2 ((pv n).its.length) c10_2), .c 36 (.pointer (some ((ad A10_2).add 0))), .c 37 (.string (((pv n).its.getD 0 it0).1)), .a 38, .a 39, .c 4 (vi ((numS (((pv n).its.getD 0 it0).1) 0 2 : Int))), .k 5 (.bool true)] (fun ix σ β X => match ix with | 0 => True | 1 => True | 2 => True | 3 => True | 4 => σ 38 = vp (pb (β 38)) ∧ X 2 = eB (pb (β 38)) 304 #[.string (((pv n).its.getD 0 it0).1), vi 0, .bool false] | 5 => σ 39 = vi ((numS (((pv n).its.getD 0 it0).1) 0 2 : Int)) ∧ X 3 = eB (pb (β 38)) 304 #[.string (((pv n).its.getD 0 it0).1), vi 2, .bool false] | _ => True) [0, 1, 3] [1, 2, 3, 4, 5, 6] [(4, 6, 2, 6), (28, 0, 6, 34)] hst3 ?_ ?_ ?_))))
  · exact fun ix _ _ _ _ _ _ hs hb hx h => match ix, h with
    | 4, h => by dsimp only at h ⊢; rw [← hs 38 rfl, ← hb 38 rfl, ← hx 2 rfl]; exact h
    | 5, h => by dsimp only at h ⊢; rw [← hs 39 rfl, ← hb 38 rfl, ← hx 3 rfl]; exact h
    | 0, _ | 1, _ | 2, _ | 3, _ | _ + 6, _ => trivial
  · refine ⟨?_, ?_, ?_, ?_, ?_, ?_, trivial⟩
    · exact xs4 rfl id fun cx => run_load1 rfl (by kernel_rfl) (cx.an 0) ((cx.bi 1 rfl).cell 2)
    · exact xs4 rfl id fun cx => run_indexSl (e := 9) (m := 0) rfl (by kernel_rfl) (by kernel_rfl) (cx.an 1) (cx.co _) (by omega) (by omega) (At.of_own (cx.ri 0 rfl)) (strs_len _)
    · exact xs4 rfl id fun cx => run_load1 rfl (by kernel_rfl) (cx.an 2) (At.cellAd (At.of_own (cx.ri 0 rfl)) (getD_strs (by omega)))
    · refine sv_any rfl rfl fun ρ β W X cx => ?_
      refine DoesU.call (run_callF (args := #[.string (((pv n).its.getD 0 it0).1)]) rfl cx.sees rfl (by kernel_rfl) (map1 (cx.an 3))) ?_
      refine (oread_b (((pv n).its.getD 0 it0).1) _).mono ?_
      rintro e W1 ⟨B4, rfl, ⟨hb4, hw4⟩, hx⟩
      refine ⟨_, rfl, post_call [eB B4 304 #[.string (((pv n).its.getD 0 it0).1), vi 0, .bool false]] rfl rfl hx (one_new ⟨hb4, eB_loc _ _ _, fun k hk => by simp [eB] at hk; subst hk; exact ⟨hw4, hb4.lt⟩⟩) (List.pairwise_singleton _ _) (fun σ β' X' hs hb hv hN => ?_)⟩
      have hv1 := (hv 38 rfl).1; have hv2 := (hv 38 rfl).2
      exact ⟨hv1.trans (by rw [hv2]; rfl), (by rw [hv2]; exact (List.cons.inj hN).1)⟩
    · refine sv_any rfl rfl fun ρ β W X cx => ?_
      refine DoesU.call (run_callF (args := #[vp (pb (β 38)), vi 2]) rfl cx.sees rfl (by kernel_rfl) (map2 (dTn (cx.an 4)).1 (cx.co _))) ?_
      refine (num_ok _ (((pv n).its.getD 0 it0).1) 0 2 _ ⟨(cx.blk (dTn (cx.an 4)).2 rfl), by omega, by omega⟩ (by omega) (by omega)).mono ?_
      rintro e W1 ⟨rfl, hrd, hu⟩
      refine ⟨_, rfl, post_mut (dTn (cx.an 4)).2 rfl rfl hu hrd.1 (fun σ β' X' hs hb hv hx => ?_)⟩
      rw [hb 38 (by decide)]
      exact ⟨(hv 39 rfl).1.trans rfl, hx⟩
    · exact xs4 rfl id fun cx => run_assign' rfl (dTn (cx.an 5)).1
  intro σ β X W6 hD hst6 fr hfr
  obtain ⟨B38_6, hu_B38_6⟩ : ∃ z, pb (β 38) = z := ⟨_, rfl⟩
  simp only [exq 3 ((dTn (hD 5 lq)).2), hu_B38_6] at hst6
  simp only [ed 38 ((dTn (hD 4 lq)).1), ed 39 ((dTn (hD 5 lq)).1), hu_B38_6] at hfr
  clear hD hu_B38_6; subst hfr; clear σ β X
  refine then_normal (wp_ret ?_)
  refine bodyPost_ret (v := .tuple #[vi ((numS (((pv n).its.getD 0 it0).1) 0 2 : Int)), .bool true]) (by simp [results, Tryz.results59, go_sem]) rfl ?_
  exact Ret.of (by rw [ofF, hdF, hs4]; rfl) hst6.ext
set_option maxRecDepth 100000 in
set_option maxHeartbeats 2000000 in
theorem rtable_any (PA : Option Addr) (pc : Nat) (Ps : List PgD) (n : Int) (w : World) (hP : PgsAt w PA Ps) :
    Calls Tryz.prog 92 #[.agg #[.slice PA Ps.length pc], .int .i64 n] w (Ret (.int .i64 (tbF (pvF Ps n))) w) := by
  have hwl := (hP.wf n).1
  go_enter Tryz.func92, Tryz.ntmps92
  have hst0 := St.start w
  refine wp_seq (wp_region_Y [0, 0] [] [[0]] [] [.a 2, .k 4 (vi 0)] (fun ix σ β X => match ix with | 0 => σ 2 = vp (pb (β 2)) ∧ X 0 = eB (pb (β 2)) 30 #[.slice PA Ps.length pc] | _ => True) [0] [0] [(2, 0, 1, 3), (1, 1, 1, 2)] hst0 ?_ ?_ ?_)
  · exact fun ix _ _ _ _ _ _ hs hb hx h => match ix, h with
    | 0, h => by dsimp only at h ⊢; rw [← hs 2 rfl, ← hb 2 rfl, ← hx 0 rfl]; exact h
    | _ + 1, _ => trivial
  · refine ⟨?_, trivial⟩
    · refine sv_any rfl rfl fun ρ β W X cx => ?_
      exact dv_box (cs := #[.slice PA Ps.length pc]) rfl (cx.ou 0) rfl rfl rfl (fun σ β' X' hs hb hv hx => ⟨hv, hx⟩)
  intro σ β X W1 hD hst1 fr hfr
  obtain ⟨B2_1, hu_B2_1⟩ : ∃ z, pb (β 2) = z := ⟨_, rfl⟩
  simp only [exq 0 ((dTn (hD 0 lq)).2), hu_B2_1] at hst1
  simp only [ed 2 ((dTn (hD 0 lq)).1), hu_B2_1] at hfr
  clear hD hu_B2_1; subst hfr; clear σ β X
  refine then_normal (wp_seq (wp_region_Y [0, 0, 3, 7, 15, 15, 0, 95, 255] [[0], [], [], [], [], [], [], [2]] [[], [], [1], [], [], [], [2], [3]] [[], [], [], [], [], [], [], [2]] [.c 9 (.agg #[.slice PA Ps.length pc]), .k 10 (vi n), .a 11, .a 8, .a 12, .c 13 (.bool ((pvF Ps n).ok)), .a 5, .n, .k 6 (.bool ((pvF Ps n).ok))] (fun ix σ β X => match ix with | 0 => True | 1 => True | 2 => σ 11 = .tuple #[.agg #[vi ((pvF Ps n).k), vi ((pvF Ps n).l), .slice (sA (tg (tg (β 11) 0) 2)) ((pvF Ps n).its.length) (sC (tg (tg (β 11) 0) 2))], .bool ((pvF Ps n).ok)] ∧ X 1 = eO 9 1 (.slice (sA (tg (tg (β 11) 0) 2)) ((pvF Ps n).its.length) (sC (tg (tg (β 11) 0) 2))) ((pvF Ps n).its.length) (strs (pvF Ps n).its) | 3 => σ 8 = .tuple #[.agg #[vi ((pvF Ps n).k), vi ((pvF Ps n).l), .slice (sA (tg (tg (β 11) 0) 2)) ((pvF Ps n).its.length) (sC (tg (tg (β 11) 0) 2))], .bool ((pvF Ps n).ok)] | 4 => σ 12 = .agg #[vi ((pvF Ps n).k), vi ((pvF Ps n).l), .slice (sA (tg (tg (β 11) 0) 2)) ((pvF Ps n).its.length) (sC (tg (tg (β 11) 0) 2))] | 5 => True | 6 => σ 5 = vp (pb (β 5)) ∧ X 2 = eB (pb (β 5)) 64 #[vi 0, vi 0, .slice none 0 0] | 7 => X 3 = eB (pb (β 5)) 64 #[vi ((pvF Ps n).k), vi ((pvF Ps n).l), .slice (sA (tg (tg (β 11) 0) 2)) ((pvF Ps n).its.length) (sC (tg (tg (β 11) 0) 2))] | _ => True) [0, 1, 3] [0, 2, 3, 4, 5, 6, 7] [(5, 6, 3, 7), (1, 3, 1, 2), (0, 0, 3, 3), (0, 4, 2, 2)] hst1 ?_ ?_ ?_))
  · exact fun ix _ _ _ _ _ _ hs hb hx h => match ix, h with
    | 2, h => by dsimp only at h ⊢; rw [← hs 11 rfl, ← hb 11 rfl, ← hx 1 rfl]; exact h
    | 3, h => by dsimp only at h ⊢; rw [← hs 8 rfl, ← hb 11 rfl]; exact h
    | 4, h => by dsimp only at h ⊢; rw [← hs 12 rfl, ← hb 11 rfl]; exact h
    | 6, h => by dsimp only at h ⊢; rw [← hs 5 rfl, ← hb 5 rfl, ← hx 2 rfl]; exact h
    | 7, h => by dsimp only at h ⊢; rw [← hb 5 rfl, ← hb 11 rfl, ← hx 3 rfl]; exact h
    | 0, _ | 1, _ | 5, _ | _ + 8, _ => trivial
  · refine ⟨?_, ?_, ?_, ?_, ?_, ?_, ?_, trivial⟩
    · exact xs4 rfl id fun cx => run_loadB (n := 1) rfl (by kernel_rfl) (by kernel_rfl) (cx.ou 2) (cx.bi 0 rfl) (nle rfl) rfl
    · refine sv_any rfl rfl fun ρ β W X cx => ?_
      refine DoesU.call (run_callF (args := #[.agg #[.slice PA Ps.length pc], vi n]) rfl cx.sees rfl (by kernel_rfl) (map2 (cx.an 0) (cx.an 1))) ?_
      refine (rpage_any _ _ Ps n _ (hP.ext cx.upd.to_ext)).mono ?_
      rintro e W1 ⟨A4, c4, rfl, ho, hx⟩
      refine ⟨_, rfl, post_call [eO 9 1 (.slice A4 (pvF Ps n).its.length c4) (pvF Ps n).its.length (strs (pvF Ps n).its)] rfl rfl hx (one_new (eO_new ho)) (List.pairwise_singleton _ _) (fun σ β' X' hs hb hv hN => ?_)⟩
      have hv1 := (hv 11 rfl).1; have hv2 := (hv 11 rfl).2
      exact ⟨hv1.trans (by rw [hv2]; rfl), (by rw [hv2]; exact (List.cons.inj hN).1)⟩
    · exact sv rfl rfl rfl rfl rfl _ (fun _ _ _ h => h) (fun β β' h => by rw [h 11 (by decide)]) fun ρ β W X cx => run_move' rfl (dTn (cx.an 2)).1
    · exact sv rfl rfl rfl rfl rfl _ (fun _ _ _ h => h) (fun β β' h => by rw [h 11 (by decide)]) fun ρ β W X cx => run_extract' rfl (dTn (cx.an 3)) rfl
    · exact xs4 rfl id fun cx => run_extract' rfl (dTn (cx.an 3)) rfl
    · refine sv_any rfl rfl fun ρ β W X cx => ?_
      exact dv_alloc (cs := #[vi 0, vi 0, .slice none 0 0]) rfl (by kernel_rfl) rfl rfl (fun σ β' X' hs hb hv hx => ⟨hv, hx⟩)
    · refine sv_any rfl rfl fun ρ β W X cx => ?_
      exact dv_store (n := 3) rfl (dTn (cx.an 6)).1 (dTn (cx.an 4)) (by kernel_rfl) (by kernel_rfl) (by kernel_rfl) cx (dTn (cx.an 6)).2 rfl (nle rfl) (by kernel_rfl) rfl rfl rfl (fun σ β' X' hs hb hx => by rw [hb 5, hb 11]; exact hx)
  intro σ β X W2 hD hst2 fr hfr
  obtain ⟨A11_2, hu_A11_2⟩ : ∃ z, sA (tg (tg (β 11) 0) 2) = z := ⟨_, rfl⟩
  obtain ⟨c11_2, hu_c11_2⟩ : ∃ z, sC (tg (tg (β 11) 0) 2) = z := ⟨_, rfl⟩
  obtain ⟨B5_2, hu_B5_2⟩ : ∃ z, pb (β 5) = z := ⟨_, rfl⟩
  simp only [exq 1 ((dTn (hD 2 lq)).2), exq 3 ((dTn (hD 7 lq))), hu_A11_2, hu_c11_2, hu_B5_2] at hst2
  simp only [ed 11 ((dTn (hD 2 lq)).1), ed 8 ((dTn (hD 3 lq))), ed 12 ((dTn (hD 4 lq))), ed 5 ((dTn (hD 6 lq)).1), hu_A11_2, hu_c11_2, hu_B5_2] at hfr
  clear hD hu_A11_2 hu_c11_2 hu_B5_2; subst hfr; clear σ β X
  refine then_normal (wp_seq (wp_seq (wp_region_Z [0, 1, 3, 7, 15, 31, 63, 127, 255, 511, 1023, 2047, 4095, 8191, 16383, 32767, 65535, 131071, 262143, 524287, 1048575] [[], [], [], [], [2], [], [], [], [], [2], [], [], [], [], [], [2], [1], [1]] [.k 14 (.bool ((pvF Ps n).ok)), .k 15 (.bool (!((pvF Ps n).ok))), .k 16 (.bool (!((pvF Ps n).ok))), .z 17 (!(!((pvF Ps n).ok))) (vp B5_2), .y 18 (!(!((pvF Ps n).ok))) (vi ((pvF Ps n).k)), .z 19 (!(!((pvF Ps n).ok))) (.bool (((pvF Ps n).k) != 1)), tO 20 (!((pvF Ps n).ok)) (((pvF Ps n).k) != 1), .k 21 (.bool ((!((pvF Ps n).ok)) || (((pvF Ps n).k) != 1))), .z 22 (!((!((pvF Ps n).ok)) || (((pvF Ps n).k) != 1))) (.pointer (some ⟨B5_2, 2, none⟩)), .y 23 (!((!((pvF Ps n).ok)) || (((pvF Ps n).k) != 1))) (.slice A11_2 ((pvF Ps n).its.length) c11_2), .z 24 (!((!((pvF Ps n).ok)) || (((pvF Ps n).k) != 1))) (vi (((pvF Ps n).its.length : Int))), .z 25 (!((!((pvF Ps n).ok)) || (((pvF Ps n).k) != 1))) (.bool (((pvF Ps n).its.length : Int) == 0)), tO 26 ((!((pvF Ps n).ok)) || (((pvF Ps n).k) != 1)) (((pvF Ps n).its.length : Int) == 0), .k 27 (.bool (((!((pvF Ps n).ok)) || (((pvF Ps n).k) != 1)) || (((pvF Ps n).its.length : Int) == 0))), .z 28 (!(((!((pvF Ps n).ok)) || (((pvF Ps n).k) != 1)) || (((pvF Ps n).its.length : Int) == 0))) (.pointer (some ⟨B5_2, 2, none⟩)), .y 29 (!(((!((pvF Ps n).ok)) || (((pvF Ps n).k) != 1)) || (((pvF Ps n).its.length : Int) == 0))) (.slice A11_2 ((pvF Ps n).its.length) c11_2), .y 30 (!(((!((pvF Ps n).ok)) || (((pvF Ps n).k) != 1)) || (((pvF Ps n).its.length : Int) == 0))) (.pointer (some ((ad A11_2).add 0))), .y 31 (!(((!((pvF Ps n).ok)) || (((pvF Ps n).k) != 1)) || (((pvF Ps n).its.length : Int) == 0))) (.string (((pvF Ps n).its.getD 0 it0).1)), .z 32 (!(((!((pvF Ps n).ok)) || (((pvF Ps n).k) != 1)) || (((pvF Ps n).its.length : Int) == 0))) (vi (((((pvF Ps n).its.getD 0 it0).1).size : Int))), .z 33 (!(((!((pvF Ps n).ok)) || (((pvF Ps n).k) != 1)) || (((pvF Ps n).its.length : Int) == 0))) (.bool (((((pvF Ps n).its.getD 0 it0).1).size : Int) != 2)), tO 34 (((!((pvF Ps n).ok)) || (((pvF Ps n).k) != 1)) || (((pvF Ps n).its.length : Int) == 0)) (((((pvF Ps n).its.getD 0 it0).1).size : Int) != 2)] [0, 1, 2] [4, 9, 15, 16, 17] [(14, 0, 21, 35)] hst2 ?_ fun W3 hst3 => ?_)))
  · refine ⟨?_, ?_, ?_, ?_, ?_, trivial⟩
    · exact m2 rfl (fun _ _ _ h => h) (fun cx => (cx.an 2)) fun cx hq => run_load1 rfl (by kernel_rfl) (mbv (cx.an 3) hq) ((cx.bi 2 rfl).cell 0)
    · exact m2 rfl (fun _ _ _ h => h) (fun cx => (cx.an 7)) fun cx hq => run_load1 rfl (by kernel_rfl) (mbv (cx.an 8) hq) ((cx.bi 2 rfl).cell 2)
    · exact m2 rfl (fun _ _ _ h => h) (fun cx => (cx.an 13)) fun cx hq => run_load1 rfl (by kernel_rfl) (mbv (cx.an 14) hq) ((cx.bi 2 rfl).cell 2)
    · exact m2 rfl (fun _ _ _ h => h) (fun cx => (cx.an 13)) fun cx hq => run_indexSl (e := 9) (m := 0) rfl (by kernel_rfl) (by kernel_rfl) (mbv (cx.an 15) hq) (cx.co _) (by have hq_ := hq; simp only [zB] at hq_; omega) (by have hq_ := hq; simp only [zB] at hq_; omega) (At.of_own (cx.ri 1 rfl)) (strs_len _)
    · exact m2 rfl (fun _ _ _ h => h) (fun cx => (cx.an 13)) fun cx hq => run_load1 rfl (by kernel_rfl) (mbv (cx.an 16) hq) (At.cellAd (At.of_own (cx.ri 1 rfl)) (getD_strs (by have hq_ := hq; simp only [zB] at hq_; omega)))
  refine then_normal ?_
  rcases Bool.eq_false_or_eq_true ((((!((pvF Ps n).ok)) || (((pvF Ps n).k) != 1)) || (((pvF Ps n).its.length : Int) == 0)) || (((((pvF Ps n).its.getD 0 it0).1).size : Int) != 2)) with hs4 | hs4
  · skip
    have hs4p := hs4
    simp only [zB] at hs4p
    refine wp_cond_true (show Act.eval _ _ = .bool true from (congrArg Value.bool hs4)) (wp_seq (wp_region_P [0] [.k 4 (vi (-1))] [(4, 0, 1, 5)] hst3 fun W5 hst5 => ?_))
    refine then_normal (wp_ret (then_ret ?_))
    refine bodyPost_ret (v := vi (-1)) (results_tmp Tryz.results92 rfl) rfl ?_
    exact Ret.of (by rw [tbF, hdF, hs4]; rfl) hst5.ext
  have hs4p := hs4
  simp only [zB] at hs4p
  obtain ⟨⟨⟨hs4p1, hs4p2⟩, hs4p3⟩, hs4p4⟩ := hs4p
  refine wp_cond_false (show Act.eval _ _ = .bool false from (congrArg Value.bool hs4)) (wp_skip (then_normal (wp_seq (wp_region_Y [0, 1, 3, 7, 15, 31, 63] [[], [2], [1], [1]] [[], [], [], [], [], [3]] [] [.k 35 (.pointer (some ⟨B5_2, 2, none⟩)), .c 36 (.slice A11_2 ((pvF Ps n).its.length) c11_2), .c 37 (.pointer (some ((ad A11_2).add 0))), .c 38 (.string (((pvF Ps n).its.getD 0 it0).1)), .k 39 (.agg #[.string (((pvF Ps n).its.getD 0 it0).1), vi 0, .bool false]), .a 40, .a 7] (fun ix σ β X => match ix with | 0 => True | 1 => True | 2 => True | 3 => True | 4 => True | 5 => σ 40 = vp (pb (β 40)) ∧ X 3 = eB (pb (β 40)) 260 #[.string (((pvF Ps n).its.getD 0 it0).1), vi 0, .bool false] | 6 => σ 7 = vp (pb (β 40)) | _ => True) [0, 1, 2, 3] [1, 2, 3, 5, 6] [(7, 6, 1, 8), (27, 0, 6, 33)] hst3 ?_ ?_ ?_))))
  · exact fun ix _ _ _ _ _ _ hs hb hx h => match ix, h with
    | 5, h => by dsimp only at h ⊢; rw [← hs 40 rfl, ← hb 40 rfl, ← hx 3 rfl]; exact h
    | 6, h => by dsimp only at h ⊢; rw [← hs 7 rfl, ← hb 40 rfl]; exact h
    | 0, _ | 1, _ | 2, _ | 3, _ | 4, _ | _ + 7, _ => trivial
  · refine ⟨?_, ?_, ?_, ?_, ?_, trivial⟩
    · exact xs4 rfl id fun cx => run_load1 rfl (by kernel_rfl) (cx.an 0) ((cx.bi 2 rfl).cell 2)
    · exact xs4 rfl id fun cx => run_indexSl (e := 9) (m := 0) rfl (by kernel_rfl) (by kernel_rfl) (cx.an 1) (cx.co _) (by omega) (by omega) (At.of_own (cx.ri 1 rfl)) (strs_len _)
    · exact xs4 rfl id fun cx => run_load1 rfl (by kernel_rfl) (cx.an 2) (At.cellAd (At.of_own (cx.ri 1 rfl)) (getD_strs (by omega)))
    · refine sv_any rfl rfl fun ρ β W X cx => ?_
      exact dv_box (cs := #[.string (((pvF Ps n).its.getD 0 it0).1), vi 0, .bool false]) rfl (cx.an 4) rfl rfl rfl (fun σ β' X' hs hb hv hx => ⟨hv, hx⟩)
    · exact sv rfl rfl rfl rfl rfl _ (fun _ _ _ h => h) (fun β β' h => by rw [h 40 (by decide)]) fun ρ β W X cx => run_assign' rfl (dTn (cx.an 5)).1
  intro σ β X W6 hD hst6 fr hfr
  obtain ⟨B40_6, hu_B40_6⟩ : ∃ z, pb (β 40) = z := ⟨_, rfl⟩
  simp only [exq 3 ((dTn (hD 5 lq)).2), hu_B40_6] at hst6
  simp only [ed 40 ((dTn (hD 5 lq)).1), ed 7 ((dTn (hD 6 lq))), hu_B40_6] at hfr
  clear hD hu_B40_6; subst hfr; clear σ β X
  refine then_normal (wp_seq (wp_region_Y [0, 1, 3] [[], [3]] [[], [4]] [[], [3]] [.k 41 (vp B40_6), .a 42, .c 4 (vi ((numS (((pvF Ps n).its.getD 0 it0).1) 0 2 : Int)))] (fun ix σ β X => match ix with | 0 => True | 1 => σ 42 = vi ((numS (((pvF Ps n).its.getD 0 it0).1) 0 2 : Int)) ∧ X 4 = eB B40_6 260 #[.string (((pvF Ps n).its.getD 0 it0).1), vi 2, .bool false] | _ => True) [0, 1, 2, 4] [1, 2] [(4, 2, 1, 5), (36, 0, 2, 38)] hst6 ?_ ?_ ?_))
  · exact fun ix _ _ _ _ _ _ hs hb hx h => match ix, h with
    | 1, h => by dsimp only at h ⊢; rw [← hs 42 rfl, ← hx 4 rfl]; exact h
    | 0, _ | _ + 2, _ => trivial
  · refine ⟨?_, ?_, trivial⟩
    · refine sv_any rfl rfl fun ρ β W X cx => ?_
      refine DoesU.call (run_callF (args := #[vp B40_6, vi 2]) rfl cx.sees rfl (by kernel_rfl) (map2 (cx.an 0) (cx.co _))) ?_
      refine (rnum_ok _ (((pvF Ps n).its.getD 0 it0).1) 0 2 _ ⟨(cx.bi 3 rfl), by omega, by omega⟩ (by omega) (by omega)).mono ?_
      rintro e W1 ⟨rfl, hrd, hu⟩
      refine ⟨_, rfl, post_mut (cx.init 3 _ rfl) rfl rfl hu hrd.1 (fun σ β' X' hs hb hv hx => ?_)⟩
      exact ⟨(hv 42 rfl).1.trans rfl, hx⟩
    · exact xs4 rfl id fun cx => run_assign' rfl (dTn (cx.an 1)).1
  intro σ β X W7 hD hst7 fr hfr
  simp only [exq 4 ((dTn (hD 1 lq)).2)] at hst7
  simp only [ed 42 ((dTn (hD 1 lq)).1)] at hfr
  clear hD; subst hfr; clear σ β X
  refine then_normal (wp_ret ?_)
  refine bodyPost_ret (v := vi ((numS (((pvF Ps n).its.getD 0 it0).1) 0 2 : Int))) (results_tmp Tryz.results92 rfl) rfl ?_
  exact Ret.of (by rw [tbF, hdF, hs4]; rfl) hst7.ext
end
end Go.Proofs.YtjnplglnnamfdaaGreatDoor
namespace Go.Proofs.YtjnplglnnamfdaaGreatDoor
section
open Go.RowKit
set_option linter.unusedVariables false
set_option linter.unusedSimpArgs false
def atF (v : PV) (j : Int) : Option VerD := if 0 ≤ tbF v ∧ 1 ≤ j ∧ j < v.its.length then (v.its.getD j.toNat it0).2 else none
theorem eD_some (o : Option VerD) : (eD o == 0) = o.isSome := by cases o <;> rfl
def VerAt (o : Option VerD) (w : World) (e : Ending) (w' : World) : Prop := ∃ A c, e = .returned (.tuple #[.agg #[.int .i64 (vD o).1, .int .i64 (vD o).2.1, .int .i64 (vD o).2.2.1, .int .i64 (vD o).2.2.2.1, .bool (vD o).2.2.2.2.1, .slice A (vD o).2.2.2.2.2.length c], .bool o.isSome]) ∧
  w'.ownsRow w.heap.size 45 3 (.slice A (vD o).2.2.2.2.2.length c) (vD o).2.2.2.2.2.length (flatR (vD o).2.2.2.2.2) ∧ Ext w w'
theorem PV.desc {v : PV} (h : v.wf) {j : Nat} (hj : j < v.its.length) : Desc (v.its.getD j it0).1 (v.its.getD j it0).2 := by
  refine h.2 _ ?_
  rw [List.getD_eq_getElem?_getD, List.getElem?_eq_getElem hj, Option.getD_some]
  exact List.getElem_mem _
/-- the versions in the first k slots -/
def fndF (its : List Itm) (k : Nat) : List (Nat × VerD) := (List.range k).filterMap fun j => if 0 < j then (its.getD j it0).2.map (fun v => (j, v)) else none
theorem fnd_yes {its : List Itm} {j : Nat} (h : 0 < j) (h2 : (its.getD j it0).2.isSome = true) : fndF its (j + 1) = fndF its j ++ [(j, vD (its.getD j it0).2)] := by
  obtain ⟨v, hv⟩ := Option.isSome_iff_exists.1 h2
  rw [fndF, List.range_succ, List.filterMap_append, fndF, hv]
  congr 1
  simp only [List.filterMap_cons, List.filterMap_nil]
  rw [if_pos h, hv]; rfl
theorem fnd_no {its : List Itm} {j : Nat} (h : ¬ (0 < j ∧ (its.getD j it0).2.isSome = true)) : fndF its (j + 1) = fndF its j := by
  rw [fndF, List.range_succ, List.filterMap_append, ← fndF]
  have e : (if 0 < j then (its.getD j it0).2.map (fun v => (j, v)) else none) = none := by
    by_cases h1 : 0 < j
    · rw [if_pos h1]
      cases h2 : (its.getD j it0).2 with
      | none => rfl
      | some v => exact absurd ⟨h1, by rw [h2]; rfl⟩ h
    · rw [if_neg h1]
  simp only [List.filterMap_cons, List.filterMap_nil, e, List.append_nil]
theorem fnd_ge (its : List Itm) (d : Nat) : fndF its (its.length + d) = fndF its its.length := by
  induction d with
  | zero => rfl
  | succ d ih =>
    rw [← Nat.add_assoc, fnd_no, ih]
    rintro ⟨_, h⟩
    rw [List.getD_eq_getElem?_getD, List.getElem?_eq_none (by omega)] at h
    exact absurd h (by decide)
def allF' (v : PV) : List (Nat × VerD) := if hdF v then fndF v.its v.its.length else []
abbrev FK := (Nat × VerD) × Option Addr × Nat
def fk0 : FK := ((0, zD), none, 0)
def cellsF (n : Int) (k : FK) : List Value := [.int .i64 n, .int .i64 (k.1.1 : Int), .int .i64 k.1.2.1, .int .i64 k.1.2.2.1, .int .i64 k.1.2.2.2.1, .int .i64 k.1.2.2.2.2.1, .bool k.1.2.2.2.2.2.1, .slice k.2.1 k.1.2.2.2.2.2.2.length k.2.2]
theorem cellsF_len (n : Int) (k : FK) : (cellsF n k).length = 8 := rfl
theorem found_snoc (n : Int) (ks : List FK) (k : FK) : ks.flatMap (cellsF n) ++ cellsF n k = (ks ++ [k]).flatMap (cellsF n) := by simp
def AllPost (t : TypeId) (v : PV) (n : Int) (w : World) (e : Ending) (w' : World) : Prop := ∃ A c, ∃ ks : List FK, ks.map Prod.fst = allF' v ∧ e = .returned (.slice A (allF' v).length c) ∧ w'.ownsRow w.heap.size t 8 (.slice A (allF' v).length c) (allF' v).length (ks.flatMap (cellsF n)) ∧ Ext w w'
theorem Tryz.infoFnd : (Tryz.prog.info? 43).map (fun i => (i.zero, i.size, i.bytes)) = some (some (.agg #[.int .i64 0, .int .i64 0, .int .i64 0, .int .i64 0, .int .i64 0, .int .i64 0, .bool false, .slice none 0 0]), 8, 80) := by kernel_rfl
theorem Tryz.infoRFnd : (Tryz.prog.info? 147).map (fun i => (i.zero, i.size, i.bytes)) = some (some (.agg #[.int .i64 0, .int .i64 0, .int .i64 0, .int .i64 0, .int .i64 0, .int .i64 0, .bool false, .slice none 0 0]), 8, 80) := by kernel_rfl
theorem ks_len {ks : List FK} {l : List (Nat × VerD)} (h : ks.map Prod.fst = l) : ks.length = l.length := by rw [← h, List.length_map]
theorem ks_snoc {ks : List FK} {its : List Itm} {j : Nat} (h : ks.map Prod.fst = fndF its j) (h0 : 0 < j) (h2 : (its.getD j it0).2.isSome = true) (A : Option Addr) (c : Nat) : (ks ++ [((j, vD (its.getD j it0).2), A, c)]).map Prod.fst = fndF its (j + 1) := by
  rw [fnd_yes h0 h2, List.map_append, h]; rfl
theorem ks_keep {ks : List FK} {its : List Itm} {j : Nat} (h : ks.map Prod.fst = fndF its j) (h2 : ¬ (0 < j ∧ (its.getD j it0).2.isSome = true)) : ks.map Prod.fst = fndF its (j + 1) := by rw [fnd_no h2, h]
theorem fnd_le (its : List Itm) (k : Nat) : (fndF its k).length ≤ k := by
  have := List.length_filterMap_le (fun j => if 0 < j then (its.getD j it0).2.map (fun v => (j, v)) else none) (List.range k)
  rw [List.length_range] at this
  exact this
set_option maxRecDepth 100000 in
set_option maxHeartbeats 2000000 in
theorem rat_any (PA : Option Addr) (pc : Nat) (Ps : List PgD) (n j : Int) (w : World) (hP : PgsAt w PA Ps) :
    Calls Tryz.prog 69 #[.agg #[.slice PA Ps.length pc], .agg #[.int .i64 n, .int .i64 j]] w (VerAt (atF (pvF Ps n) j) w) := by
  have hwf := hP.wf n
  have hwl := hwf.1
  go_enter Tryz.func69, Tryz.ntmps69
  have hst0 := St.start w
  refine wp_seq (wp_region_Y [0, 0, 0, 0] [] [[0], [1], [2]] [] [.a 2, .a 3, .a 4, .k 5 (.bool false)] (fun ix σ β X => match ix with | 0 => σ 2 = vp (pb (β 2)) ∧ X 0 = eB (pb (β 2)) 30 #[.slice PA Ps.length pc] | 1 => σ 3 = vp (pb (β 3)) ∧ X 1 = eB (pb (β 3)) 24 #[vi n, vi j] | 2 => σ 4 = vp (pb (β 4)) ∧ X 2 = eB (pb (β 4)) 41 #[vi 0, vi 0, vi 0, vi 0, .bool false, .slice none 0 0] | _ => True) [0, 1, 2] [0, 1, 2] [(2, 0, 4, 6)] hst0 ?_ ?_ ?_)
  · exact fun ix _ _ _ _ _ _ hs hb hx h => match ix, h with
    | 0, h => by dsimp only at h ⊢; rw [← hs 2 rfl, ← hb 2 rfl, ← hx 0 rfl]; exact h
    | 1, h => by dsimp only at h ⊢; rw [← hs 3 rfl, ← hb 3 rfl, ← hx 1 rfl]; exact h
    | 2, h => by dsimp only at h ⊢; rw [← hs 4 rfl, ← hb 4 rfl, ← hx 2 rfl]; exact h
    | _ + 3, _ => trivial
  · refine ⟨?_, ?_, ?_, trivial⟩
    · refine sv_any rfl rfl fun ρ β W X cx => ?_
      exact dv_box (cs := #[.slice PA Ps.length pc]) rfl (cx.ou 0) rfl rfl rfl (fun σ β' X' hs hb hv hx => ⟨hv, hx⟩)
    · refine sv_any rfl rfl fun ρ β W X cx => ?_
      exact dv_box (cs := #[vi n, vi j]) rfl (cx.ou 1) rfl rfl rfl (fun σ β' X' hs hb hv hx => ⟨hv, hx⟩)
    · refine sv_any rfl rfl fun ρ β W X cx => ?_
      exact dv_alloc (cs := #[vi 0, vi 0, vi 0, vi 0, .bool false, .slice none 0 0]) rfl (by kernel_rfl) rfl rfl (fun σ β' X' hs hb hv hx => ⟨hv, hx⟩)
  intro σ β X W1 hD hst1 fr hfr
  obtain ⟨B2_1, hu_B2_1⟩ : ∃ z, pb (β 2) = z := ⟨_, rfl⟩
  obtain ⟨B3_1, hu_B3_1⟩ : ∃ z, pb (β 3) = z := ⟨_, rfl⟩
  obtain ⟨B4_1, hu_B4_1⟩ : ∃ z, pb (β 4) = z := ⟨_, rfl⟩
  simp only [exq 0 ((dTn (hD 0 lq)).2), exq 1 ((dTn (hD 1 lq)).2), exq 2 ((dTn (hD 2 lq)).2), hu_B2_1, hu_B3_1, hu_B4_1] at hst1
  simp only [ed 2 ((dTn (hD 0 lq)).1), ed 3 ((dTn (hD 1 lq)).1), ed 4 ((dTn (hD 2 lq)).1), hu_B2_1, hu_B3_1, hu_B4_1] at hfr
  clear hD hu_B2_1 hu_B3_1 hu_B4_1; subst hfr; clear σ β X
  refine then_normal (wp_seq (wp_seq (wp_region_Z [0, 0, 2, 7, 15, 31, 63, 127, 255, 511] [[0], [], [1], [], [], [], [], [1]] [.c 9 (.agg #[.slice PA Ps.length pc]), .k 10 (vp B3_1), .c 11 (vi n), .c 12 (vi ((tbF (pvF Ps n)))), .k 13 (.bool (decide ((tbF (pvF Ps n)) < 0))), .k 14 (.bool (decide ((tbF (pvF Ps n)) < 0))), .z 15 (!(decide ((tbF (pvF Ps n)) < 0))) (.pointer (some ⟨B3_1, 1, none⟩)), .y 16 (!(decide ((tbF (pvF Ps n)) < 0))) (vi j), .z 17 (!(decide ((tbF (pvF Ps n)) < 0))) (.bool (decide (j < 1))), tO 18 (decide ((tbF (pvF Ps n)) < 0)) (decide (j < 1))] [0, 1, 2] [0, 2, 3, 7] [(9, 0, 10, 19)] hst1 ?_ fun W2 hst2 => ?_)))
  · refine ⟨?_, ?_, ?_, ?_, trivial⟩
    · exact xs4 rfl id fun cx => run_loadB (n := 1) rfl (by kernel_rfl) (by kernel_rfl) (cx.ou 2) (cx.bi 0 rfl) (nle rfl) rfl
    · exact xs4 rfl id fun cx => run_load1 rfl (by kernel_rfl) (cx.an 1) ((cx.bi 1 rfl).cell 0)
    · exact xsc rfl id rfl rfl fun cx => ⟨_, rtable_any _ _ Ps n _ (hP.ext cx.upd.to_ext), (map2 (cx.an 0) (cx.an 2))⟩
    · exact m2 rfl (fun _ _ _ h => h) (fun cx => (cx.an 5)) fun cx hq => run_load1 rfl (by kernel_rfl) (mbv (cx.an 6) hq) ((cx.bi 1 rfl).cell 1)
  refine then_normal ?_
  rcases Bool.eq_false_or_eq_true ((decide ((tbF (pvF Ps n)) < 0)) || (decide (j < 1))) with hs3 | hs3
  · skip
    have hs3p := hs3
    simp only [zB] at hs3p
    refine wp_cond_true (show Act.eval _ _ = .bool true from (congrArg Value.bool hs3)) (wp_seq (wp_region_Y [0, 1, 3] [[], [2]] [[], [3]] [[], [2]] [.k 19 (.agg #[vi 0, vi 0, vi 0, vi 0, .bool false, .slice none 0 0]), .n, .k 5 (.bool false)] (fun ix σ β X => match ix with | 0 => True | 1 => X 3 = eB B4_1 41 #[vi 0, vi 0, vi 0, vi 0, .bool false, .slice none 0 0] | _ => True) [0, 1, 3] [1] [(5, 2, 1, 6), (13, 0, 1, 14)] hst2 ?_ ?_ ?_))
    · exact fun ix _ _ _ _ _ _ hs hb hx h => match ix, h with
      | 1, h => by dsimp only at h ⊢; rw [← hx 3 rfl]; exact h
      | 0, _ | _ + 2, _ => trivial
    · refine ⟨?_, trivial⟩
      · refine sv_any rfl rfl fun ρ β W X cx => ?_
        exact dv_store (n := 6) rfl (cx.ou 4) (cx.an 0) (by kernel_rfl) (by kernel_rfl) (by kernel_rfl) cx (cx.init 2 _ rfl) rfl (nle rfl) (by kernel_rfl) rfl rfl rfl (fun σ β' X' hs hb hx => hx)
    intro σ β X W4 hD hst4 fr hfr
    simp only [exq 3 ((dTn (hD 1 lq)))] at hst4
    clear hD; subst hfr; clear σ β X
    refine then_normal (wp_ret (then_ret ?_))
    have hr5 : W4.cell? ⟨B4_1, 0, none⟩ = some (vi 0) := (hst4.blk 2 rfl).cell 0
    have hr6 : W4.cell? ⟨B4_1, 1, none⟩ = some (vi 0) := (hst4.blk 2 rfl).cell 1
    have hr7 : W4.cell? ⟨B4_1, 2, none⟩ = some (vi 0) := (hst4.blk 2 rfl).cell 2
    have hr8 : W4.cell? ⟨B4_1, 3, none⟩ = some (vi 0) := (hst4.blk 2 rfl).cell 3
    have hr9 : W4.cell? ⟨B4_1, 4, none⟩ = some (.bool false) := (hst4.blk 2 rfl).cell 4
    have hr10 : W4.cell? ⟨B4_1, 5, none⟩ = some (.slice none 0 0) := (hst4.blk 2 rfl).cell 5
    refine bodyPost_ret (v := .tuple #[.agg #[vi 0, vi 0, vi 0, vi 0, .bool false, .slice none 0 0], .bool false]) (by simp [results, Tryz.results69, go_sem, hr5, hr6, hr7, hr8, hr9, hr10]) rfl ?_
    have hat : atF (pvF Ps n) j = none := by rw [atF, if_neg (by omega)]
    rw [hat]
    exact ⟨none, 0, rfl, World.ownsRow_nil _ _ _ _, hst4.ext⟩
  have hs3p := hs3
  simp only [zB] at hs3p
  obtain ⟨hs3p1, hs3p2⟩ := hs3p
  refine wp_cond_false (show Act.eval _ _ = .bool false from (congrArg Value.bool hs3)) (wp_skip (then_normal (wp_seq (wp_region_Y [0, 0, 2, 7, 15, 31, 31, 0, 191, 511] [[0], [], [1], [], [], [], [], [], [4]] [[], [], [], [3], [], [], [], [4], [5]] [[], [], [], [], [], [], [], [], [4]] [.c 21 (.agg #[.slice PA Ps.length pc]), .k 22 (vp B3_1), .c 23 (vi n), .a 24, .a 20, .a 25, .c 26 (.bool ((pvF Ps n).ok)), .a 6, .n, .k 7 (.bool ((pvF Ps n).ok))] (fun ix σ β X => match ix with | 0 => True | 1 => True | 2 => True | 3 => σ 24 = .tuple #[.agg #[vi ((pvF Ps n).k), vi ((pvF Ps n).l), .slice (sA (tg (tg (β 24) 0) 2)) ((pvF Ps n).its.length) (sC (tg (tg (β 24) 0) 2))], .bool ((pvF Ps n).ok)] ∧ X 3 = eO 9 1 (.slice (sA (tg (tg (β 24) 0) 2)) ((pvF Ps n).its.length) (sC (tg (tg (β 24) 0) 2))) ((pvF Ps n).its.length) (strs (pvF Ps n).its) | 4 => σ 20 = .tuple #[.agg #[vi ((pvF Ps n).k), vi ((pvF Ps n).l), .slice (sA (tg (tg (β 24) 0) 2)) ((pvF Ps n).its.length) (sC (tg (tg (β 24) 0) 2))], .bool ((pvF Ps n).ok)] | 5 => σ 25 = .agg #[vi ((pvF Ps n).k), vi ((pvF Ps n).l), .slice (sA (tg (tg (β 24) 0) 2)) ((pvF Ps n).its.length) (sC (tg (tg (β 24) 0) 2))] | 6 => True | 7 => σ 6 = vp (pb (β 6)) ∧ X 4 = eB (pb (β 6)) 64 #[vi 0, vi 0, .slice none 0 0] | 8 => X 5 = eB (pb (β 6)) 64 #[vi ((pvF Ps n).k), vi ((pvF Ps n).l), .slice (sA (tg (tg (β 24) 0) 2)) ((pvF Ps n).its.length) (sC (tg (tg (β 24) 0) 2))] | _ => True) [0, 1, 2, 3, 5] [0, 2, 3, 4, 5, 6, 7, 8] [(6, 7, 3, 8), (12, 4, 1, 13), (0, 0, 4, 4), (0, 5, 2, 2)] hst2 ?_ ?_ ?_))))
  · exact fun ix _ _ _ _ _ _ hs hb hx h => match ix, h with
    | 3, h => by dsimp only at h ⊢; rw [← hs 24 rfl, ← hb 24 rfl, ← hx 3 rfl]; exact h
    | 4, h => by dsimp only at h ⊢; rw [← hs 20 rfl, ← hb 24 rfl]; exact h
    | 5, h => by dsimp only at h ⊢; rw [← hs 25 rfl, ← hb 24 rfl]; exact h
    | 7, h => by dsimp only at h ⊢; rw [← hs 6 rfl, ← hb 6 rfl, ← hx 4 rfl]; exact h
    | 8, h => by dsimp only at h ⊢; rw [← hb 6 rfl, ← hb 24 rfl, ← hx 5 rfl]; exact h
    | 0, _ | 1, _ | 2, _ | 6, _ | _ + 9, _ => trivial
  · refine ⟨?_, ?_, ?_, ?_, ?_, ?_, ?_, ?_, trivial⟩
    · exact xs4 rfl id fun cx => run_loadB (n := 1) rfl (by kernel_rfl) (by kernel_rfl) (cx.ou 2) (cx.bi 0 rfl) (nle rfl) rfl
    · exact xs4 rfl id fun cx => run_load1 rfl (by kernel_rfl) (cx.an 1) ((cx.bi 1 rfl).cell 0)
    · refine sv_any rfl rfl fun ρ β W X cx => ?_
      refine DoesU.call (run_callF (args := #[.agg #[.slice PA Ps.length pc], vi n]) rfl cx.sees rfl (by kernel_rfl) (map2 (cx.an 0) (cx.an 2))) ?_
      refine (rpage_any _ _ Ps n _ (hP.ext cx.upd.to_ext)).mono ?_
      rintro e W1 ⟨A4, c4, rfl, ho, hx⟩
      refine ⟨_, rfl, post_call [eO 9 1 (.slice A4 (pvF Ps n).its.length c4) (pvF Ps n).its.length (strs (pvF Ps n).its)] rfl rfl hx (one_new (eO_new ho)) (List.pairwise_singleton _ _) (fun σ β' X' hs hb hv hN => ?_)⟩
      have hv1 := (hv 24 rfl).1; have hv2 := (hv 24 rfl).2
      exact ⟨hv1.trans (by rw [hv2]; rfl), (by rw [hv2]; exact (List.cons.inj hN).1)⟩
    · exact sv rfl rfl rfl rfl rfl _ (fun _ _ _ h => h) (fun β β' h => by rw [h 24 (by decide)]) fun ρ β W X cx => run_move' rfl (dTn (cx.an 3)).1
    · exact sv rfl rfl rfl rfl rfl _ (fun _ _ _ h => h) (fun β β' h => by rw [h 24 (by decide)]) fun ρ β W X cx => run_extract' rfl (dTn (cx.an 4)) rfl
    · exact xs4 rfl id fun cx => run_extract' rfl (dTn (cx.an 4)) rfl
    · refine sv_any rfl rfl fun ρ β W X cx => ?_
      exact dv_alloc (cs := #[vi 0, vi 0, .slice none 0 0]) rfl (by kernel_rfl) rfl rfl (fun σ β' X' hs hb hv hx => ⟨hv, hx⟩)
    · refine sv_any rfl rfl fun ρ β W X cx => ?_
      exact dv_store (n := 3) rfl (dTn (cx.an 7)).1 (dTn (cx.an 5)) (by kernel_rfl) (by kernel_rfl) (by kernel_rfl) cx (dTn (cx.an 7)).2 rfl (nle rfl) (by kernel_rfl) rfl rfl rfl (fun σ β' X' hs hb hx => by rw [hb 6, hb 24]; exact hx)
  intro σ β X W11 hD hst11 fr hfr
  obtain ⟨A24_11, hu_A24_11⟩ : ∃ z, sA (tg (tg (β 24) 0) 2) = z := ⟨_, rfl⟩
  obtain ⟨c24_11, hu_c24_11⟩ : ∃ z, sC (tg (tg (β 24) 0) 2) = z := ⟨_, rfl⟩
  obtain ⟨B6_11, hu_B6_11⟩ : ∃ z, pb (β 6) = z := ⟨_, rfl⟩
  simp only [exq 3 ((dTn (hD 3 lq)).2), exq 5 ((dTn (hD 8 lq))), hu_A24_11, hu_c24_11, hu_B6_11] at hst11
  simp only [ed 24 ((dTn (hD 3 lq)).1), ed 20 ((dTn (hD 4 lq))), ed 25 ((dTn (hD 5 lq))), ed 6 ((dTn (hD 7 lq)).1), hu_A24_11, hu_c24_11, hu_B6_11] at hfr
  clear hD hu_A24_11 hu_c24_11 hu_B6_11; subst hfr; clear σ β X
  refine then_normal (wp_seq (wp_seq (wp_region_Z [0, 1, 0, 4, 12, 31] [[], [1], [], [4]] [.k 27 (.pointer (some ⟨B3_1, 1, none⟩)), .c 28 (vi j), .k 29 (.pointer (some ⟨B6_11, 2, none⟩)), .c 30 (.slice A24_11 ((pvF Ps n).its.length) c24_11), .k 31 (vi (((pvF Ps n).its.length : Int))), .k 32 (.bool (decide (((pvF Ps n).its.length : Int) ≤ j)))] [0, 1, 2, 3, 4] [1, 3] [(27, 0, 6, 33)] hst11 ?_ fun W12 hst12 => ?_)))
  · refine ⟨?_, ?_, trivial⟩
    · exact xs4 rfl id fun cx => run_load1 rfl (by kernel_rfl) (cx.an 0) ((cx.bi 1 rfl).cell 1)
    · exact xs4 rfl id fun cx => run_load1 rfl (by kernel_rfl) (cx.an 2) ((cx.bi 4 rfl).cell 2)
  refine then_normal ?_
  rcases Bool.eq_false_or_eq_true (decide (((pvF Ps n).its.length : Int) ≤ j)) with hs13 | hs13
  · skip
    have hs13p : ((pvF Ps n).its.length : Int) ≤ j := by simpa using hs13
    refine wp_cond_true (show Act.eval _ _ = .bool true from (congrArg Value.bool hs13)) (wp_seq (wp_region_Y [0, 1, 3] [[], [2]] [[], [5]] [[], [2]] [.k 33 (.agg #[vi 0, vi 0, vi 0, vi 0, .bool false, .slice none 0 0]), .n, .k 5 (.bool false)] (fun ix σ β X => match ix with | 0 => True | 1 => X 5 = eB B4_1 41 #[vi 0, vi 0, vi 0, vi 0, .bool false, .slice none 0 0] | _ => True) [0, 1, 3, 4, 5] [1] [(5, 2, 1, 6), (27, 0, 1, 28)] hst12 ?_ ?_ ?_))
    · exact fun ix _ _ _ _ _ _ hs hb hx h => match ix, h with
      | 1, h => by dsimp only at h ⊢; rw [← hx 5 rfl]; exact h
      | 0, _ | _ + 2, _ => trivial
    · refine ⟨?_, trivial⟩
      · refine sv_any rfl rfl fun ρ β W X cx => ?_
        exact dv_store (n := 6) rfl (cx.ou 4) (cx.an 0) (by kernel_rfl) (by kernel_rfl) (by kernel_rfl) cx (cx.init 2 _ rfl) rfl (nle rfl) (by kernel_rfl) rfl rfl rfl (fun σ β' X' hs hb hx => hx)
    intro σ β X W14 hD hst14 fr hfr
    simp only [exq 5 ((dTn (hD 1 lq)))] at hst14
    clear hD; subst hfr; clear σ β X
    refine then_normal (wp_ret (then_ret ?_))
    have hr15 : W14.cell? ⟨B4_1, 0, none⟩ = some (vi 0) := (hst14.blk 4 rfl).cell 0
    have hr16 : W14.cell? ⟨B4_1, 1, none⟩ = some (vi 0) := (hst14.blk 4 rfl).cell 1
    have hr17 : W14.cell? ⟨B4_1, 2, none⟩ = some (vi 0) := (hst14.blk 4 rfl).cell 2
    have hr18 : W14.cell? ⟨B4_1, 3, none⟩ = some (vi 0) := (hst14.blk 4 rfl).cell 3
    have hr19 : W14.cell? ⟨B4_1, 4, none⟩ = some (.bool false) := (hst14.blk 4 rfl).cell 4
    have hr20 : W14.cell? ⟨B4_1, 5, none⟩ = some (.slice none 0 0) := (hst14.blk 4 rfl).cell 5
    refine bodyPost_ret (v := .tuple #[.agg #[vi 0, vi 0, vi 0, vi 0, .bool false, .slice none 0 0], .bool false]) (by simp [results, Tryz.results69, go_sem, hr15, hr16, hr17, hr18, hr19, hr20]) rfl ?_
    have hat : atF (pvF Ps n) j = none := by rw [atF, if_neg (by omega)]
    rw [hat]
    exact ⟨none, 0, rfl, World.ownsRow_nil _ _ _ _, hst14.ext⟩
  have hs13p : ¬ (((pvF Ps n).its.length : Int) ≤ j) := by simpa using hs13
  refine wp_cond_false (show Act.eval _ _ = .bool false from (congrArg Value.bool hs13)) (wp_skip (then_normal (wp_seq ?_)))
  obtain ⟨J, rfl⟩ : ∃ J : Nat, j = (J : Int) := ⟨j.toNat, by omega⟩
  have hdj := PV.desc hwf (j := J) (by omega)
  refine wp_region_Y [0, 1, 0, 4, 15, 31, 63, 0, 255] [[], [4], [], [1], [3], [3], [], [], [6]] [[], [], [], [], [], [], [5], [6], [7]] [[], [], [], [], [], [], [], [], [6]] [.k 34 (.pointer (some ⟨B6_11, 2, none⟩)), .c 35 (.slice A24_11 ((pvF Ps n).its.length) c24_11), .k 36 (.pointer (some ⟨B3_1, 1, none⟩)), .c 37 (vi (J : Int)), .c 38 (.pointer (some ((ad A24_11).add J))), .c 39 (.string (((pvF Ps n).its.getD J it0).1)), .a 40, .a 8, .n] (fun ix σ β X => match ix with | 0 => True | 1 => True | 2 => True | 3 => True | 4 => True | 5 => True | 6 => σ 40 = .agg #[vi ((vD ((pvF Ps n).its.getD J it0).2).1), vi ((vD ((pvF Ps n).its.getD J it0).2).2.1), vi ((vD ((pvF Ps n).its.getD J it0).2).2.2.1), vi ((vD ((pvF Ps n).its.getD J it0).2).2.2.2.1), .bool ((vD ((pvF Ps n).its.getD J it0).2).2.2.2.2.1), .slice (sA (tg (β 40) 5)) ((vD ((pvF Ps n).its.getD J it0).2).2.2.2.2.2.length) (sC (tg (β 40) 5)), vi ((eD ((pvF Ps n).its.getD J it0).2))] ∧ X 5 = eO 45 3 (.slice (sA (tg (β 40) 5)) ((vD ((pvF Ps n).its.getD J it0).2).2.2.2.2.2.length) (sC (tg (β 40) 5))) ((vD ((pvF Ps n).its.getD J it0).2).2.2.2.2.2.length) (flatR (vD ((pvF Ps n).its.getD J it0).2).2.2.2.2.2) | 7 => σ 8 = vp (pb (β 8)) ∧ X 6 = eB (pb (β 8)) 247 #[vi 0, vi 0, vi 0, vi 0, .bool false, .slice none 0 0, vi 0] | 8 => X 7 = eB (pb (β 8)) 247 #[vi ((vD ((pvF Ps n).its.getD J it0).2).1), vi ((vD ((pvF Ps n).its.getD J it0).2).2.1), vi ((vD ((pvF Ps n).its.getD J it0).2).2.2.1), vi ((vD ((pvF Ps n).its.getD J it0).2).2.2.2.1), .bool ((vD ((pvF Ps n).its.getD J it0).2).2.2.2.2.1), .slice (sA (tg (β 40) 5)) ((vD ((pvF Ps n).its.getD J it0).2).2.2.2.2.2.length) (sC (tg (β 40) 5)), vi ((eD ((pvF Ps n).its.getD J it0).2))] | _ => True) [0, 1, 2, 3, 4, 5, 7] [1, 3, 4, 5, 6, 7, 8] [(8, 7, 1, 9), (25, 0, 7, 32)] hst12 ?_ ?_ ?_
  · exact fun ix _ _ _ _ _ _ hs hb hx h => match ix, h with
    | 6, h => by dsimp only at h ⊢; rw [← hs 40 rfl, ← hb 40 rfl, ← hx 5 rfl]; exact h
    | 7, h => by dsimp only at h ⊢; rw [← hs 8 rfl, ← hb 8 rfl, ← hx 6 rfl]; exact h
    | 8, h => by dsimp only at h ⊢; rw [← hb 8 rfl, ← hb 40 rfl, ← hx 7 rfl]; exact h
    | 0, _ | 1, _ | 2, _ | 3, _ | 4, _ | 5, _ | _ + 9, _ => trivial
  · refine ⟨?_, ?_, ?_, ?_, ?_, ?_, ?_, trivial⟩
    · exact xs4 rfl id fun cx => run_load1 rfl (by kernel_rfl) (cx.an 0) ((cx.bi 4 rfl).cell 2)
    · exact xs4 rfl id fun cx => run_load1 rfl (by kernel_rfl) (cx.an 2) ((cx.bi 1 rfl).cell 1)
    · exact xs4 rfl id fun cx => run_indexSl (e := 9) (m := J) rfl (by kernel_rfl) (by kernel_rfl) (cx.an 1) (cx.an 3) (by omega) (by omega) (At.of_own (cx.ri 3 rfl)) (strs_len _)
    · exact xs4 rfl id fun cx => run_load1 rfl (by kernel_rfl) (cx.an 4) (At.cellAd (At.of_own (cx.ri 3 rfl)) (getD_strs (by omega)))
    · refine sv_any rfl rfl fun ρ β W X cx => ?_
      refine DoesU.call (run_callF (args := #[.string (((pvF Ps n).its.getD J it0).1)]) rfl cx.sees rfl (by kernel_rfl) (map1 (cx.an 5))) ?_
      refine (r08read_desc _ hdj).mono ?_
      rintro e W1 ⟨A4, c4, rfl, ho, hx⟩
      refine ⟨_, rfl, post_call [eO 45 3 (.slice A4 (vD ((pvF Ps n).its.getD J it0).2).2.2.2.2.2.length c4) (vD ((pvF Ps n).its.getD J it0).2).2.2.2.2.2.length (flatR (vD ((pvF Ps n).its.getD J it0).2).2.2.2.2.2)] rfl rfl hx (one_new (eO_new ho)) (List.pairwise_singleton _ _) (fun σ β' X' hs hb hv hN => ?_)⟩
      have hv1 := (hv 40 rfl).1; have hv2 := (hv 40 rfl).2
      exact ⟨hv1.trans (by rw [hv2]; rfl), (by rw [hv2]; exact (List.cons.inj hN).1)⟩
    · refine sv_any rfl rfl fun ρ β W X cx => ?_
      exact dv_alloc (cs := #[vi 0, vi 0, vi 0, vi 0, .bool false, .slice none 0 0, vi 0]) rfl (by kernel_rfl) rfl rfl (fun σ β' X' hs hb hv hx => ⟨hv, hx⟩)
    · refine sv_any rfl rfl fun ρ β W X cx => ?_
      exact dv_store (n := 7) rfl (dTn (cx.an 7)).1 (dTn (cx.an 6)).1 (by kernel_rfl) (by kernel_rfl) (by kernel_rfl) cx (dTn (cx.an 7)).2 rfl (nle rfl) (by kernel_rfl) rfl rfl rfl (fun σ β' X' hs hb hx => by rw [hb 8, hb 40]; exact hx)
  intro σ β X W21 hD hst21 fr hfr
  obtain ⟨A40_21, hu_A40_21⟩ : ∃ z, sA (tg (β 40) 5) = z := ⟨_, rfl⟩
  obtain ⟨c40_21, hu_c40_21⟩ : ∃ z, sC (tg (β 40) 5) = z := ⟨_, rfl⟩
  obtain ⟨B8_21, hu_B8_21⟩ : ∃ z, pb (β 8) = z := ⟨_, rfl⟩
  simp only [exq 5 ((dTn (hD 6 lq)).2), exq 7 ((dTn (hD 8 lq))), hu_A40_21, hu_c40_21, hu_B8_21] at hst21
  simp only [ed 40 ((dTn (hD 6 lq)).1), ed 8 ((dTn (hD 7 lq)).1), hu_A40_21, hu_c40_21, hu_B8_21] at hfr
  clear hD hu_A40_21 hu_c40_21 hu_B8_21; subst hfr; clear σ β X
  refine then_normal (wp_seq (wp_region_Y [0, 1, 0, 4, 12, 3, 63] [[], [6], [], [6], [], [2]] [[], [], [], [], [], [7]] [[], [], [], [], [], [2]] [.k 41 (vp B8_21), .c 42 (.agg #[vi ((vD ((pvF Ps n).its.getD J it0).2).1), vi ((vD ((pvF Ps n).its.getD J it0).2).2.1), vi ((vD ((pvF Ps n).its.getD J it0).2).2.2.1), vi ((vD ((pvF Ps n).its.getD J it0).2).2.2.2.1), .bool ((vD ((pvF Ps n).its.getD J it0).2).2.2.2.2.1), .slice A40_21 ((vD ((pvF Ps n).its.getD J it0).2).2.2.2.2.2.length) c40_21]), .k 43 (.pointer (some ⟨B8_21, 6, none⟩)), .c 44 (vi ((eD ((pvF Ps n).its.getD J it0).2))), .k 45 (.bool ((eD ((pvF Ps n).its.getD J it0).2) == 0)), .n, .k 5 (.bool ((eD ((pvF Ps n).its.getD J it0).2) == 0))] (fun ix σ β X => match ix with | 0 => True | 1 => True | 2 => True | 3 => True | 4 => True | 5 => X 7 = eB B4_1 41 #[vi ((vD ((pvF Ps n).its.getD J it0).2).1), vi ((vD ((pvF Ps n).its.getD J it0).2).2.1), vi ((vD ((pvF Ps n).its.getD J it0).2).2.2.1), vi ((vD ((pvF Ps n).its.getD J it0).2).2.2.2.1), .bool ((vD ((pvF Ps n).its.getD J it0).2).2.2.2.2.1), .slice A40_21 ((vD ((pvF Ps n).its.getD J it0).2).2.2.2.2.2.length) c40_21] | _ => True) [0, 1, 3, 4, 5, 6, 7] [1, 3, 5] [(5, 6, 1, 6), (35, 0, 5, 40)] hst21 ?_ ?_ ?_))
  · exact fun ix _ _ _ _ _ _ hs hb hx h => match ix, h with
    | 5, h => by dsimp only at h ⊢; rw [← hx 7 rfl]; exact h
    | 0, _ | 1, _ | 2, _ | 3, _ | 4, _ | _ + 6, _ => trivial
  · refine ⟨?_, ?_, ?_, trivial⟩
    · exact xs4 rfl id fun cx => run_loadB (n := 6) rfl (by kernel_rfl) (by kernel_rfl) (cx.an 0) (cx.bi 6 rfl) (nle rfl) rfl
    · exact xs4 rfl id fun cx => run_load1 rfl (by kernel_rfl) (cx.an 2) ((cx.bi 6 rfl).cell 6)
    · refine sv_any rfl rfl fun ρ β W X cx => ?_
      exact dv_store (n := 6) rfl (cx.ou 4) (cx.an 1) (by kernel_rfl) (by kernel_rfl) (by kernel_rfl) cx (cx.init 2 _ rfl) rfl (nle rfl) (by kernel_rfl) rfl rfl rfl (fun σ β' X' hs hb hx => hx)
  intro σ β X W22 hD hst22 fr hfr
  simp only [exq 7 ((dTn (hD 5 lq)))] at hst22
  clear hD; subst hfr; clear σ β X
  refine then_normal (wp_ret ?_)
  have hr23 : W22.cell? ⟨B4_1, 0, none⟩ = some (vi ((vD ((pvF Ps n).its.getD J it0).2).1)) := (hst22.blk 6 rfl).cell 0
  have hr24 : W22.cell? ⟨B4_1, 1, none⟩ = some (vi ((vD ((pvF Ps n).its.getD J it0).2).2.1)) := (hst22.blk 6 rfl).cell 1
  have hr25 : W22.cell? ⟨B4_1, 2, none⟩ = some (vi ((vD ((pvF Ps n).its.getD J it0).2).2.2.1)) := (hst22.blk 6 rfl).cell 2
  have hr26 : W22.cell? ⟨B4_1, 3, none⟩ = some (vi ((vD ((pvF Ps n).its.getD J it0).2).2.2.2.1)) := (hst22.blk 6 rfl).cell 3
  have hr27 : W22.cell? ⟨B4_1, 4, none⟩ = some (.bool ((vD ((pvF Ps n).its.getD J it0).2).2.2.2.2.1)) := (hst22.blk 6 rfl).cell 4
  have hr28 : W22.cell? ⟨B4_1, 5, none⟩ = some (.slice A40_21 ((vD ((pvF Ps n).its.getD J it0).2).2.2.2.2.2.length) c40_21) := (hst22.blk 6 rfl).cell 5
  refine bodyPost_ret (v := .tuple #[.agg #[vi ((vD ((pvF Ps n).its.getD J it0).2).1), vi ((vD ((pvF Ps n).its.getD J it0).2).2.1), vi ((vD ((pvF Ps n).its.getD J it0).2).2.2.1), vi ((vD ((pvF Ps n).its.getD J it0).2).2.2.2.1), .bool ((vD ((pvF Ps n).its.getD J it0).2).2.2.2.2.1), .slice A40_21 ((vD ((pvF Ps n).its.getD J it0).2).2.2.2.2.2.length) c40_21], .bool ((eD ((pvF Ps n).its.getD J it0).2) == 0)]) (by simp [results, Tryz.results69, go_sem, hr23, hr24, hr25, hr26, hr27, hr28]) rfl ?_
  have hat : atF (pvF Ps n) (J : Int) = ((pvF Ps n).its.getD J it0).2 := by rw [atF, if_pos (by omega)]; rfl
  rw [hat]
  exact ⟨_, _, by rw [eD_some], hst22.own' 4 rfl, hst22.ext⟩
set_option maxRecDepth 100000 in
set_option maxHeartbeats 4000000 in
theorem hall_any (tt : TypeId) (tv : Value) (pv : Int → PV) (n : Int) (w : World) (hS : PgsOk w tt tv pv) (hN : NoneAt w) :
    Calls Tryz.prog 12 #[.iface tt (tv), .int .i64 n] w (AllPost 43 (pv n) n w) := by
  obtain ⟨f0, rv, hM, hC, hG⟩ := hS.ex
  have hwf := hS.wf n
  have hwl := hwf.1
  go_enter Tryz.func12, Tryz.ntmps12
  have hst0 := St.start w
  refine wp_seq (wp_region_P [0] [.k 4 (.slice none 0 0)] [(4, 0, 1, 5)] hst0 fun W1 hst1 => ?_)
  refine then_normal (wp_seq (wp_seq (wp_region_Z [0, 0, 3, 7, 15, 15, 31, 127] [] [.k 14 (.iface tt (tv)), .k 15 (vi n), .c 16 (.tuple #[vi ((ofF (pv n))), .bool ((hdF (pv n)))]), .k 13 (.tuple #[vi ((ofF (pv n))), .bool ((hdF (pv n)))]), .k 17 (vi ((ofF (pv n)))), .k 18 (.bool ((hdF (pv n)))), .k 5 (vi ((ofF (pv n)))), .k 6 (.bool ((hdF (pv n))))] [] [2] [(5, 6, 2, 7), (6, 3, 1, 7), (0, 0, 3, 3), (0, 4, 2, 2)] hst1 ?_ fun W2 hst2 => ?_)))
  · refine ⟨?_, trivial⟩
    · exact xsc rfl id rfl rfl fun cx => ⟨_, of_any _ _ pv n _ (hS.ext cx.upd.to_ext), (map2 (cx.an 0) (cx.an 1))⟩
  refine then_normal (wp_seq (wp_region_P [0, 1] [.k 19 (.bool ((hdF (pv n)))), .k 20 (.bool (!((hdF (pv n)))))] [(19, 0, 2, 21)] hst2 fun W3 hst3 => ?_))
  refine then_normal ?_
  rcases Bool.eq_false_or_eq_true ((hdF (pv n))) with hs4 | hs4
  · skip
    refine wp_cond_false (show Act.eval _ _ = .bool false from (congrArg Value.bool (by rw [hs4]; rfl))) (wp_skip (then_normal (wp_seq (wp_region_Y [0, 0, 3, 7, 15, 15, 0, 95, 255] [[], [], [], [], [], [], [], [1]] [[], [], [0], [], [], [], [1], [2]] [[], [], [], [], [], [], [], [1]] [.k 22 (.iface tt (tv)), .k 23 (vi n), .a 24, .a 21, .a 25, .c 26 (.bool ((pv n).ok)), .a 7, .n, .k 8 (.bool ((pv n).ok))] (fun ix σ β X => match ix with | 0 => True | 1 => True | 2 => σ 24 = .tuple #[.agg #[vi ((pv n).k), vi ((pv n).l), .slice (sA (tg (tg (β 24) 0) 2)) ((pv n).its.length) (sC (tg (tg (β 24) 0) 2))], .bool ((pv n).ok)] ∧ X 0 = eO 9 1 (.slice (sA (tg (tg (β 24) 0) 2)) ((pv n).its.length) (sC (tg (tg (β 24) 0) 2))) ((pv n).its.length) (strs (pv n).its) | 3 => σ 21 = .tuple #[.agg #[vi ((pv n).k), vi ((pv n).l), .slice (sA (tg (tg (β 24) 0) 2)) ((pv n).its.length) (sC (tg (tg (β 24) 0) 2))], .bool ((pv n).ok)] | 4 => σ 25 = .agg #[vi ((pv n).k), vi ((pv n).l), .slice (sA (tg (tg (β 24) 0) 2)) ((pv n).its.length) (sC (tg (tg (β 24) 0) 2))] | 5 => True | 6 => σ 7 = vp (pb (β 7)) ∧ X 1 = eB (pb (β 7)) 64 #[vi 0, vi 0, .slice none 0 0] | 7 => X 2 = eB (pb (β 7)) 64 #[vi ((pv n).k), vi ((pv n).l), .slice (sA (tg (tg (β 24) 0) 2)) ((pv n).its.length) (sC (tg (tg (β 24) 0) 2))] | _ => True) [0, 2] [2, 3, 4, 5, 6, 7] [(7, 6, 3, 9), (12, 3, 1, 13), (0, 0, 3, 3), (0, 4, 2, 2)] hst3 ?_ ?_ ?_))))
    · exact fun ix _ _ _ _ _ _ hs hb hx h => match ix, h with
      | 2, h => by dsimp only at h ⊢; rw [← hs 24 rfl, ← hb 24 rfl, ← hx 0 rfl]; exact h
      | 3, h => by dsimp only at h ⊢; rw [← hs 21 rfl, ← hb 24 rfl]; exact h
      | 4, h => by dsimp only at h ⊢; rw [← hs 25 rfl, ← hb 24 rfl]; exact h
      | 6, h => by dsimp only at h ⊢; rw [← hs 7 rfl, ← hb 7 rfl, ← hx 1 rfl]; exact h
      | 7, h => by dsimp only at h ⊢; rw [← hb 7 rfl, ← hb 24 rfl, ← hx 2 rfl]; exact h
      | 0, _ | 1, _ | 5, _ | _ + 8, _ => trivial
    · refine ⟨?_, ?_, ?_, ?_, ?_, ?_, trivial⟩
      · refine sv_any rfl rfl fun ρ β W X cx => ?_
        refine DoesU.call (run_invoke (args := #[vi n]) (args' := #[rv, vi n]) rfl rfl (cx.an 0) hM hC (map1 (cx.an 1)) rfl) ?_
        refine (hG _ n cx.upd.to_ext).mono ?_
        rintro e W1 ⟨A4, c4, rfl, ho, hx⟩
        refine ⟨_, rfl, post_call [eO 9 1 (.slice A4 (pv n).its.length c4) (pv n).its.length (strs (pv n).its)] rfl rfl hx (one_new (eO_new ho)) (List.pairwise_singleton _ _) (fun σ β' X' hs hb hv hN => ?_)⟩
        have hv1 := (hv 24 rfl).1; have hv2 := (hv 24 rfl).2
        exact ⟨hv1.trans (by rw [hv2]; rfl), (by rw [hv2]; exact (List.cons.inj hN).1)⟩
      · exact sv rfl rfl rfl rfl rfl _ (fun _ _ _ h => h) (fun β β' h => by rw [h 24 (by decide)]) fun ρ β W X cx => run_move' rfl (dTn (cx.an 2)).1
      · exact sv rfl rfl rfl rfl rfl _ (fun _ _ _ h => h) (fun β β' h => by rw [h 24 (by decide)]) fun ρ β W X cx => run_extract' rfl (dTn (cx.an 3)) rfl
      · exact xs4 rfl id fun cx => run_extract' rfl (dTn (cx.an 3)) rfl
      · refine sv_any rfl rfl fun ρ β W X cx => ?_
        exact dv_alloc (cs := #[vi 0, vi 0, .slice none 0 0]) rfl (by kernel_rfl) rfl rfl (fun σ β' X' hs hb hv hx => ⟨hv, hx⟩)
      · refine sv_any rfl rfl fun ρ β W X cx => ?_
        exact dv_store (n := 3) rfl (dTn (cx.an 6)).1 (dTn (cx.an 4)) (by kernel_rfl) (by kernel_rfl) (by kernel_rfl) cx (dTn (cx.an 6)).2 rfl (nle rfl) (by kernel_rfl) rfl rfl rfl (fun σ β' X' hs hb hx => by rw [hb 7, hb 24]; exact hx)
    intro σ β X W5 hD hst5 fr hfr
    obtain ⟨A24_5, hu_A24_5⟩ : ∃ z, sA (tg (tg (β 24) 0) 2) = z := ⟨_, rfl⟩
    obtain ⟨c24_5, hu_c24_5⟩ : ∃ z, sC (tg (tg (β 24) 0) 2) = z := ⟨_, rfl⟩
    obtain ⟨B7_5, hu_B7_5⟩ : ∃ z, pb (β 7) = z := ⟨_, rfl⟩
    simp only [exq 0 ((dTn (hD 2 lq)).2), exq 2 ((dTn (hD 7 lq))), hu_A24_5, hu_c24_5, hu_B7_5] at hst5
    simp only [ed 24 ((dTn (hD 2 lq)).1), ed 21 ((dTn (hD 3 lq))), ed 25 ((dTn (hD 4 lq))), ed 7 ((dTn (hD 6 lq)).1), hu_A24_5, hu_c24_5, hu_B7_5] at hfr
    clear hD hu_A24_5 hu_c24_5 hu_B7_5; subst hfr; clear σ β X
    refine then_normal (wp_seq (wp_seq (wp_region_Z [0, 1, 3, 0] [[], [1]] [.k 27 (.pointer (some ⟨B7_5, 2, none⟩)), .c 28 (.slice A24_5 ((pv n).its.length) c24_5), .k 29 (vi (((pv n).its.length : Int))), .k 30 (vi 0)] [0, 1] [1] [(27, 0, 4, 31)] hst5 ?_ fun W6 hst6 => ?_)))
    · refine ⟨?_, trivial⟩
      · exact xs4 rfl id fun cx => run_load1 rfl (by kernel_rfl) (cx.an 0) ((cx.bi 1 rfl).cell 2)
    refine then_normal (wp_block ?_)
    have hn_7 := nilrowN hst6 43 8
    refine wp_loopN (fun mz az W => ∃ j : Nat, ∃ m : Nat, ∃ FA : Option Addr, ∃ FC : Nat, ∃ ks : List FK, ∃ u8_ : List Value, j ≤ (pv n).its.length ∧ ks.length = m ∧ ks.map Prod.fst = fndF (pv n).its j ∧ m ≤ j ∧ mz = (pv n).its.length - j ∧ az = ⟨#[.iface tt (tv), vi n, undef, undef, .slice FA m FC, vi ((ofF (pv n))), .bool ((hdF (pv n))), vp B7_5, .bool ((pv n).ok), (gu u8_ 0), (gu u8_ 1), (gu u8_ 2), (gu u8_ 3), .tuple #[vi ((ofF (pv n))), .bool ((hdF (pv n)))], .iface tt (tv), vi n, .tuple #[vi ((ofF (pv n))), .bool ((hdF (pv n)))], vi ((ofF (pv n))), .bool ((hdF (pv n))), .bool ((hdF (pv n))), .bool (!((hdF (pv n)))), .tuple #[.agg #[vi ((pv n).k), vi ((pv n).l), .slice A24_5 ((pv n).its.length) c24_5], .bool ((pv n).ok)], .iface tt (tv), vi n, .tuple #[.agg #[vi ((pv n).k), vi ((pv n).l), .slice A24_5 ((pv n).its.length) c24_5], .bool ((pv n).ok)], .agg #[vi ((pv n).k), vi ((pv n).l), .slice A24_5 ((pv n).its.length) c24_5], .bool ((pv n).ok), .pointer (some ⟨B7_5, 2, none⟩), .slice A24_5 ((pv n).its.length) c24_5, vi (((pv n).its.length : Int)), vi ((j : Int)), (gu u8_ 4), (gu u8_ 5), (gu u8_ 6), (gu u8_ 7), (gu u8_ 8), (gu u8_ 9), (gu u8_ 10), (gu u8_ 11), (gu u8_ 12), (gu u8_ 13), (gu u8_ 14), (gu u8_ 15), (gu u8_ 16), (gu u8_ 17), (gu u8_ 18), (gu u8_ 19), (gu u8_ 20), (gu u8_ 21), (gu u8_ 22), (gu u8_ 23), (gu u8_ 24), (gu u8_ 25), (gu u8_ 26), (gu u8_ 27), undef], []⟩ ∧ St w [] [eO 43 8 (.slice FA m FC) m (ks.flatMap (cellsF n)), eO 9 1 (.slice A24_5 ((pv n).its.length) c24_5) ((pv n).its.length) (strs (pv n).its)] W) ((pv n).its.length - 0) ?_ ?_
    · -- the loop begins
      have hp9 := hn_7.pick [2, 0] (by decide) rfl
      exact ⟨0, 0, none, 0, [], [undef, undef, undef, undef, undef, undef, undef, undef, undef, undef, undef, undef, undef, undef, undef, undef, undef, undef, undef, undef, undef, undef, undef, undef, undef, undef, undef, undef], by omega, rfl, rfl, by omega, rfl, rfl, hp9⟩
    rintro n8 a8 W8 ⟨j, m, FA, FC, ks, u8_, hj, hkm, hkl, hmj, rfl, rfl, hst8⟩
    refine wp_seq (wp_region_P [0] [.k 31 (.bool (decide ((j : Int) < ((pv n).its.length : Int))))] [(31, 0, 1, 32)] hst8 fun W10 hst10 => ?_)
    refine then_normal (wp_seq ?_)
    rcases Bool.eq_false_or_eq_true (decide ((j : Int) < ((pv n).its.length : Int))) with hs11 | hs11
    · skip
      have hs11p : (j : Int) < ((pv n).its.length : Int) := by simpa using hs11
      refine wp_cond_true (show Act.eval _ _ = .bool true from (congrArg Value.bool hs11)) (wp_skip (then_normal (wp_seq (wp_block (wp_seq (wp_region_Z [0, 0, 2, 7, 15] [[], [1], [1]] [.k 32 (vi ((j : Int))), .c 33 (.pointer (some ((ad A24_5).add j))), .c 34 (.string (((pv n).its.getD j it0).1)), .k 9 (vi ((j : Int))), .k 10 (.string (((pv n).its.getD j it0).1))] [0, 1] [1, 2] [(9, 3, 2, 11), (21, 0, 3, 24)] hst10 ?_ fun W12 hst12 => ?_))))))
      · refine ⟨?_, ?_, trivial⟩
        · exact xs4 rfl id fun cx => run_indexSl (e := 9) (m := j) rfl (by kernel_rfl) (by kernel_rfl) (cx.ou 28) (cx.ou 30) (by omega) (by omega) (At.of_own (cx.ri 1 rfl)) (strs_len _)
        · exact xs4 rfl id fun cx => run_load1 rfl (by kernel_rfl) (cx.an 1) (At.cellAd (At.of_own (cx.ri 1 rfl)) (getD_strs (by omega)))
      refine then_normal (wp_seq ?_)
      have hdj := PV.desc hwf (j := j) (by omega)
      have hbd := hdj.bd
      refine wp_region_Y [0, 1, 3, 7, 7, 0, 47, 127] [[], [], [], [], [], [], [3]] [[], [2], [], [], [], [3], [4]] [[], [], [], [], [], [], [3]] [.k 36 (.string (((pv n).its.getD j it0).1)), .a 37, .a 35, .a 38, .c 39 (vi ((eD ((pv n).its.getD j it0).2))), .a 11, .n, .k 12 (vi ((eD ((pv n).its.getD j it0).2)))] (fun ix σ β X => match ix with | 0 => True | 1 => σ 37 = .tuple #[.agg #[vi ((vD ((pv n).its.getD j it0).2).1), vi ((vD ((pv n).its.getD j it0).2).2.1), vi ((vD ((pv n).its.getD j it0).2).2.2.1), vi ((vD ((pv n).its.getD j it0).2).2.2.2.1), .bool ((vD ((pv n).its.getD j it0).2).2.2.2.2.1), .slice (sA (tg (tg (β 37) 0) 5)) ((vD ((pv n).its.getD j it0).2).2.2.2.2.2.length) (sC (tg (tg (β 37) 0) 5))], vi ((eD ((pv n).its.getD j it0).2))] ∧ X 2 = eO 45 3 (.slice (sA (tg (tg (β 37) 0) 5)) ((vD ((pv n).its.getD j it0).2).2.2.2.2.2.length) (sC (tg (tg (β 37) 0) 5))) ((vD ((pv n).its.getD j it0).2).2.2.2.2.2.length) (flatR (vD ((pv n).its.getD j it0).2).2.2.2.2.2) | 2 => σ 35 = .tuple #[.agg #[vi ((vD ((pv n).its.getD j it0).2).1), vi ((vD ((pv n).its.getD j it0).2).2.1), vi ((vD ((pv n).its.getD j it0).2).2.2.1), vi ((vD ((pv n).its.getD j it0).2).2.2.2.1), .bool ((vD ((pv n).its.getD j it0).2).2.2.2.2.1), .slice (sA (tg (tg (β 37) 0) 5)) ((vD ((pv n).its.getD j it0).2).2.2.2.2.2.length) (sC (tg (tg (β 37) 0) 5))], vi ((eD ((pv n).its.getD j it0).2))] | 3 => σ 38 = .agg #[vi ((vD ((pv n).its.getD j it0).2).1), vi ((vD ((pv n).its.getD j it0).2).2.1), vi ((vD ((pv n).its.getD j it0).2).2.2.1), vi ((vD ((pv n).its.getD j it0).2).2.2.2.1), .bool ((vD ((pv n).its.getD j it0).2).2.2.2.2.1), .slice (sA (tg (tg (β 37) 0) 5)) ((vD ((pv n).its.getD j it0).2).2.2.2.2.2.length) (sC (tg (tg (β 37) 0) 5))] | 4 => True | 5 => σ 11 = vp (pb (β 11)) ∧ X 3 = eB (pb (β 11)) 41 #[vi 0, vi 0, vi 0, vi 0, .bool false, .slice none 0 0] | 6 => X 4 = eB (pb (β 11)) 41 #[vi ((vD ((pv n).its.getD j it0).2).1), vi ((vD ((pv n).its.getD j it0).2).2.1), vi ((vD ((pv n).its.getD j it0).2).2.2.1), vi ((vD ((pv n).its.getD j it0).2).2.2.2.1), .bool ((vD ((pv n).its.getD j it0).2).2.2.2.2.1), .slice (sA (tg (tg (β 37) 0) 5)) ((vD ((pv n).its.getD j it0).2).2.2.2.2.2.length) (sC (tg (tg (β 37) 0) 5))] | _ => True) [0, 1, 2, 4] [1, 2, 3, 4, 5, 6] [(11, 5, 3, 13), (22, 2, 1, 23), (0, 0, 2, 2), (0, 3, 2, 2)] hst12 ?_ ?_ ?_
      · exact fun ix _ _ _ _ _ _ hs hb hx h => match ix, h with
        | 1, h => by dsimp only at h ⊢; rw [← hs 37 rfl, ← hb 37 rfl, ← hx 2 rfl]; exact h
        | 2, h => by dsimp only at h ⊢; rw [← hs 35 rfl, ← hb 37 rfl]; exact h
        | 3, h => by dsimp only at h ⊢; rw [← hs 38 rfl, ← hb 37 rfl]; exact h
        | 5, h => by dsimp only at h ⊢; rw [← hs 11 rfl, ← hb 11 rfl, ← hx 3 rfl]; exact h
        | 6, h => by dsimp only at h ⊢; rw [← hb 11 rfl, ← hb 37 rfl, ← hx 4 rfl]; exact h
        | 0, _ | 4, _ | _ + 7, _ => trivial
      · refine ⟨?_, ?_, ?_, ?_, ?_, ?_, trivial⟩
        · refine sv_any rfl rfl fun ρ β W X cx => ?_
          refine DoesU.call (run_callF (args := #[.string (((pv n).its.getD j it0).1)]) rfl cx.sees rfl (by kernel_rfl) (map1 (cx.an 0))) ?_
          refine (tread_desc _ hdj (hN.ext cx.upd.to_ext)).mono ?_
          rintro e W1 ⟨A4, c4, rfl, ho, hx⟩
          refine ⟨_, rfl, post_call [eO 45 3 (.slice A4 (vD ((pv n).its.getD j it0).2).2.2.2.2.2.length c4) (vD ((pv n).its.getD j it0).2).2.2.2.2.2.length (flatR (vD ((pv n).its.getD j it0).2).2.2.2.2.2)] rfl rfl hx (one_new (eO_new ho)) (List.pairwise_singleton _ _) (fun σ β' X' hs hb hv hN => ?_)⟩
          have hv1 := (hv 37 rfl).1; have hv2 := (hv 37 rfl).2
          exact ⟨hv1.trans (by rw [hv2]; rfl), (by rw [hv2]; exact (List.cons.inj hN).1)⟩
        · exact sv rfl rfl rfl rfl rfl _ (fun _ _ _ h => h) (fun β β' h => by rw [h 37 (by decide)]) fun ρ β W X cx => run_move' rfl (dTn (cx.an 1)).1
        · exact sv rfl rfl rfl rfl rfl _ (fun _ _ _ h => h) (fun β β' h => by rw [h 37 (by decide)]) fun ρ β W X cx => run_extract' rfl (dTn (cx.an 2)) rfl
        · exact xs4 rfl id fun cx => run_extract' rfl (dTn (cx.an 2)) rfl
        · refine sv_any rfl rfl fun ρ β W X cx => ?_
          exact dv_alloc (cs := #[vi 0, vi 0, vi 0, vi 0, .bool false, .slice none 0 0]) rfl (by kernel_rfl) rfl rfl (fun σ β' X' hs hb hv hx => ⟨hv, hx⟩)
        · refine sv_any rfl rfl fun ρ β W X cx => ?_
          exact dv_store (n := 6) rfl (dTn (cx.an 5)).1 (dTn (cx.an 3)) (by kernel_rfl) (by kernel_rfl) (by kernel_rfl) cx (dTn (cx.an 5)).2 rfl (nle rfl) (by kernel_rfl) rfl rfl rfl (fun σ β' X' hs hb hx => by rw [hb 11, hb 37]; exact hx)
      intro σ β X W13 hD hst13 fr hfr
      obtain ⟨A37_13, hu_A37_13⟩ : ∃ z, sA (tg (tg (β 37) 0) 5) = z := ⟨_, rfl⟩
      obtain ⟨c37_13, hu_c37_13⟩ : ∃ z, sC (tg (tg (β 37) 0) 5) = z := ⟨_, rfl⟩
      obtain ⟨B11_13, hu_B11_13⟩ : ∃ z, pb (β 11) = z := ⟨_, rfl⟩
      simp only [exq 2 ((dTn (hD 1 lq)).2), exq 4 ((dTn (hD 6 lq))), hu_A37_13, hu_c37_13, hu_B11_13] at hst13
      simp only [ed 37 ((dTn (hD 1 lq)).1), ed 35 ((dTn (hD 2 lq))), ed 38 ((dTn (hD 3 lq))), ed 11 ((dTn (hD 5 lq)).1), hu_A37_13, hu_c37_13, hu_B11_13] at hfr
      clear hD hu_A37_13 hu_c37_13 hu_B11_13; subst hfr; clear σ β X
      refine then_normal (wp_seq (wp_region_P [0, 1, 3, 7, 15, 31] [.k 40 (vi ((j : Int))), .k 41 (.bool (decide (0 < (j : Int)))), .k 42 (.bool (decide (0 < (j : Int)))), .z 43 (decide (0 < (j : Int))) (vi ((eD ((pv n).its.getD j it0).2))), .z 44 (decide (0 < (j : Int))) (.bool ((eD ((pv n).its.getD j it0).2) == 0)), tA 45 (decide (0 < (j : Int))) ((eD ((pv n).its.getD j it0).2) == 0)] [(40, 0, 6, 46)] hst13 fun W14 hst14 => ?_))
      refine then_normal ?_
      rcases Bool.eq_false_or_eq_true ((decide (0 < (j : Int))) && ((eD ((pv n).its.getD j it0).2) == 0)) with hs15 | hs15
      · skip
        have hs15p := hs15
        simp only [zB] at hs15p
        obtain ⟨hs15p1, hs15p2⟩ := hs15p
        refine wp_cond_true (show Act.eval _ _ = .bool true from (congrArg Value.bool hs15)) (wp_region_Y [0, 0, 0, 6, 0, 30, 62, 127, 255] [[], [], [], [], [3], [], [], [4, 0]] [[], [], [], [], [], [], [4], [5]] [[], [], [], [], [], [], [], [0]] [.k 46 (.slice FA m FC), .k 47 (vi n), .k 48 (vi ((j : Int))), .k 49 (.agg #[vi n, vi ((j : Int))]), .c 50 (.agg #[vi ((vD ((pv n).its.getD j it0).2).1), vi ((vD ((pv n).its.getD j it0).2).2.1), vi ((vD ((pv n).its.getD j it0).2).2.2.1), vi ((vD ((pv n).its.getD j it0).2).2.2.2.1), .bool ((vD ((pv n).its.getD j it0).2).2.2.2.2.1), .slice A37_13 ((vD ((pv n).its.getD j it0).2).2.2.2.2.2.length) c37_13]), .k 51 (.agg #[vi n, vi ((j : Int)), vi ((vD ((pv n).its.getD j it0).2).1), vi ((vD ((pv n).its.getD j it0).2).2.1), vi ((vD ((pv n).its.getD j it0).2).2.2.1), vi ((vD ((pv n).its.getD j it0).2).2.2.2.1), .bool ((vD ((pv n).its.getD j it0).2).2.2.2.2.1), .slice A37_13 ((vD ((pv n).its.getD j it0).2).2.2.2.2.2.length) c37_13]), .a 52, .a 53, .a 4] (fun ix σ β X => match ix with | 0 => True | 1 => True | 2 => True | 3 => True | 4 => True | 5 => True | 6 => σ 52 = .slice ((some ⟨(pb' (β 52)), 0, none⟩)) 1 1 ∧ X 4 = eO 43 8 (.slice ((some ⟨(pb' (β 52)), 0, none⟩)) 1 1) 1 (cellsF n ((j, vD ((pv n).its.getD j it0).2), A37_13, c37_13)) | 7 => σ 53 = .slice (sA (β 53)) (m + 1) (sC (β 53)) ∧ X 5 = eO 43 8 (.slice (sA (β 53)) (m + 1) (sC (β 53))) (m + 1) ((ks ++ [((j, vD ((pv n).its.getD j it0).2), A37_13, c37_13)]).flatMap (cellsF n)) | 8 => σ 4 = .slice (sA (β 53)) (m + 1) (sC (β 53)) | _ => True) [1, 2, 3, 4, 5] [4, 6, 7, 8] [(4, 8, 1, 5), (41, 0, 8, 49)] hst14 ?_ ?_ ?_)
        · exact fun ix _ _ _ _ _ _ hs hb hx h => match ix, h with
          | 6, h => by dsimp only at h ⊢; rw [← hs 52 rfl, ← hb 52 rfl, ← hx 4 rfl]; exact h
          | 7, h => by dsimp only at h ⊢; rw [← hs 53 rfl, ← hb 53 rfl, ← hx 5 rfl]; exact h
          | 8, h => by dsimp only at h ⊢; rw [← hs 4 rfl, ← hb 53 rfl]; exact h
          | 0, _ | 1, _ | 2, _ | 3, _ | 4, _ | 5, _ | _ + 9, _ => trivial
        · refine ⟨?_, ?_, ?_, ?_, trivial⟩
          · exact xs4 rfl id fun cx => run_loadB (n := 6) rfl (by kernel_rfl) (by kernel_rfl) (cx.ou 11) (cx.bi 3 rfl) (nle rfl) rfl
          · refine sv_any rfl rfl fun ρ β W X cx => ?_
            have fF51 : ρ (.tmp 51) = .agg #[vi n, vi ((j : Int)), vi ((vD ((pv n).its.getD j it0).2).1), vi ((vD ((pv n).its.getD j it0).2).2.1), vi ((vD ((pv n).its.getD j it0).2).2.2.1), vi ((vD ((pv n).its.getD j it0).2).2.2.2.1), .bool ((vD ((pv n).its.getD j it0).2).2.2.2.2.1), .slice A37_13 ((vD ((pv n).its.getD j it0).2).2.2.2.2.2.length) c37_13] := (cx.an 5)
            exact dv_litN (e := 43) (sz := 8) (xs := [vi n, vi ((j : Int)), vi ((vD ((pv n).its.getD j it0).2).1), vi ((vD ((pv n).its.getD j it0).2).2.1), vi ((vD ((pv n).its.getD j it0).2).2.2.1), vi ((vD ((pv n).its.getD j it0).2).2.2.2.1), .bool ((vD ((pv n).its.getD j it0).2).2.2.2.2.1), .slice A37_13 ((vD ((pv n).its.getD j it0).2).2.2.2.2.2.length) c37_13]) rfl (by simp [go_sem, fF51]) rfl (by decide) rfl rfl (fun σ β' X' hs hb hv hx => ⟨hv, hx⟩)
          · refine sv_any rfl rfl fun ρ β W X cx => ?_
            obtain ⟨i0, hi0, hz0, hz1, hz2⟩ := info_parts Tryz.infoFnd
            refine dv_appendN (n := m) (m := 1) (nm := m + 1) (sz := 8) (xs := ks.flatMap (cellsF n)) (news := cellsF n ((j, vD ((pv n).its.getD j it0).2), A37_13, c37_13)) (xs' := (ks ++ [((j, vD ((pv n).its.getD j it0).2), A37_13, c37_13)]).flatMap (cellsF n)) rfl (ty := 36) rfl (by kernel_rfl) hi0 hz0 hz1 hz2 rfl (by decide) (cx.an 0) cx (cx.init 0 _ rfl) rfl (dTn (cx.an 6)).1 (by rfl) (At.of_ownN (cx.row (dTn (cx.an 6)).2 rfl)) (by simp [cellsF, Value.oneCell']) (by simp only [maxLen]; omega) (by omega) rfl rfl rfl (by omega) (found_snoc _ _ _) (fun σ β' X' hs hb hv hx => ?_)
            exact ⟨hv, hx⟩
          · exact sv rfl rfl rfl rfl rfl _ (fun _ _ _ h => h) (fun β β' h => by rw [h 53 (by decide)]) fun ρ β W X cx => run_assign' rfl (dTn (cx.an 7)).1
        intro σ β X W16 hD hst16 fr hfr
        obtain ⟨B52_16, hu_B52_16⟩ : ∃ z, pb' (β 52) = z := ⟨_, rfl⟩
        obtain ⟨A53_16, hu_A53_16⟩ : ∃ z, sA (β 53) = z := ⟨_, rfl⟩
        obtain ⟨c53_16, hu_c53_16⟩ : ∃ z, sC (β 53) = z := ⟨_, rfl⟩
        simp only [exq 4 ((dTn (hD 6 lq)).2), exq 5 ((dTn (hD 7 lq)).2), hu_B52_16, hu_A53_16, hu_c53_16] at hst16
        simp only [ed 52 ((dTn (hD 6 lq)).1), ed 53 ((dTn (hD 7 lq)).1), ed 4 ((dTn (hD 8 lq))), hu_B52_16, hu_A53_16, hu_c53_16] at hfr
        clear hD hu_B52_16 hu_A53_16 hu_c53_16; subst hfr; clear σ β X
        refine blk_normal (then_normal (wp_region_P [0, 1] [tI 54 ((j : Int) + 1) (by omega), .k 30 (vi ((j : Int) + 1))] [(30, 1, 1, 31), (23, 0, 1, 24)] hst16 fun W17 hst17 => ?_))
        refine then_normal ?_
        refine ⟨(pv n).its.length - ((j + 1)), by omega, ?_⟩
        have hp18 := hst17.pick [4, 0] (by decide) rfl
        exact ⟨(j + 1), (m + 1), A53_16, c53_16, (ks ++ [((j, vD ((pv n).its.getD j it0).2), A37_13, c37_13)]), [vi ((j : Int)), .string (((pv n).its.getD j it0).1), vp B11_13, vi ((eD ((pv n).its.getD j it0).2)), .bool (decide ((j : Int) < ((pv n).its.length : Int))), vi ((j : Int)), .pointer (some ((ad A24_5).add j)), .string (((pv n).its.getD j it0).1), .tuple #[.agg #[vi ((vD ((pv n).its.getD j it0).2).1), vi ((vD ((pv n).its.getD j it0).2).2.1), vi ((vD ((pv n).its.getD j it0).2).2.2.1), vi ((vD ((pv n).its.getD j it0).2).2.2.2.1), .bool ((vD ((pv n).its.getD j it0).2).2.2.2.2.1), .slice A37_13 ((vD ((pv n).its.getD j it0).2).2.2.2.2.2.length) c37_13], vi ((eD ((pv n).its.getD j it0).2))], .string (((pv n).its.getD j it0).1), .tuple #[.agg #[vi ((vD ((pv n).its.getD j it0).2).1), vi ((vD ((pv n).its.getD j it0).2).2.1), vi ((vD ((pv n).its.getD j it0).2).2.2.1), vi ((vD ((pv n).its.getD j it0).2).2.2.2.1), .bool ((vD ((pv n).its.getD j it0).2).2.2.2.2.1), .slice A37_13 ((vD ((pv n).its.getD j it0).2).2.2.2.2.2.length) c37_13], vi ((eD ((pv n).its.getD j it0).2))], .agg #[vi ((vD ((pv n).its.getD j it0).2).1), vi ((vD ((pv n).its.getD j it0).2).2.1), vi ((vD ((pv n).its.getD j it0).2).2.2.1), vi ((vD ((pv n).its.getD j it0).2).2.2.2.1), .bool ((vD ((pv n).its.getD j it0).2).2.2.2.2.1), .slice A37_13 ((vD ((pv n).its.getD j it0).2).2.2.2.2.2.length) c37_13], vi ((eD ((pv n).its.getD j it0).2)), vi ((j : Int)), .bool (decide (0 < (j : Int))), .bool (decide (0 < (j : Int))), mb (decide (0 < (j : Int))) (vi ((eD ((pv n).its.getD j it0).2))), mb (decide (0 < (j : Int))) (.bool ((eD ((pv n).its.getD j it0).2) == 0)), .bool ((decide (0 < (j : Int))) && ((eD ((pv n).its.getD j it0).2) == 0)), .slice FA m FC, vi n, vi ((j : Int)), .agg #[vi n, vi ((j : Int))], .agg #[vi ((vD ((pv n).its.getD j it0).2).1), vi ((vD ((pv n).its.getD j it0).2).2.1), vi ((vD ((pv n).its.getD j it0).2).2.2.1), vi ((vD ((pv n).its.getD j it0).2).2.2.2.1), .bool ((vD ((pv n).its.getD j it0).2).2.2.2.2.1), .slice A37_13 ((vD ((pv n).its.getD j it0).2).2.2.2.2.2.length) c37_13], .agg #[vi n, vi ((j : Int)), vi ((vD ((pv n).its.getD j it0).2).1), vi ((vD ((pv n).its.getD j it0).2).2.1), vi ((vD ((pv n).its.getD j it0).2).2.2.1), vi ((vD ((pv n).its.getD j it0).2).2.2.2.1), .bool ((vD ((pv n).its.getD j it0).2).2.2.2.2.1), .slice A37_13 ((vD ((pv n).its.getD j it0).2).2.2.2.2.2.length) c37_13], .slice ((some ⟨B52_16, 0, none⟩)) 1 1, .slice A53_16 (m + 1) c53_16, vi ((j : Int) + 1)], by omega, by rw [List.length_append, hkm]; rfl, ks_snoc hkl (by omega) ((by have h_ := hs15; simp only [Bool.and_eq_true] at h_; rw [← eD_some]; exact h_.2)) _ _, by omega, rfl, rfl, hp18⟩
      have hs15p := hs15
      simp only [zB] at hs15p
      refine wp_cond_false (show Act.eval _ _ = .bool false from (congrArg Value.bool hs15)) (wp_skip (blk_normal (then_normal (wp_region_P [0, 1] [tI 54 ((j : Int) + 1) (by omega), .k 30 (vi ((j : Int) + 1))] [(30, 1, 1, 31), (23, 0, 1, 24)] hst14 fun W19 hst19 => ?_))))
      refine then_normal ?_
      refine ⟨(pv n).its.length - ((j + 1)), by omega, ?_⟩
      have hp20 := hst19.pick [0, 1] (by decide) rfl
      exact ⟨(j + 1), m, FA, FC, ks, [vi ((j : Int)), .string (((pv n).its.getD j it0).1), vp B11_13, vi ((eD ((pv n).its.getD j it0).2)), .bool (decide ((j : Int) < ((pv n).its.length : Int))), vi ((j : Int)), .pointer (some ((ad A24_5).add j)), .string (((pv n).its.getD j it0).1), .tuple #[.agg #[vi ((vD ((pv n).its.getD j it0).2).1), vi ((vD ((pv n).its.getD j it0).2).2.1), vi ((vD ((pv n).its.getD j it0).2).2.2.1), vi ((vD ((pv n).its.getD j it0).2).2.2.2.1), .bool ((vD ((pv n).its.getD j it0).2).2.2.2.2.1), .slice A37_13 ((vD ((pv n).its.getD j it0).2).2.2.2.2.2.length) c37_13], vi ((eD ((pv n).its.getD j it0).2))], .string (((pv n).its.getD j it0).1), .tuple #[.agg #[vi ((vD ((pv n).its.getD j it0).2).1), vi ((vD ((pv n).its.getD j it0).2).2.1), vi ((vD ((pv n).its.getD j it0).2).2.2.1), vi ((vD ((pv n).its.getD j it0).2).2.2.2.1), .bool ((vD ((pv n).its.getD j it0).2).2.2.2.2.1), .slice A37_13 ((vD ((pv n).its.getD j it0).2).2.2.2.2.2.length) c37_13], vi ((eD ((pv n).its.getD j it0).2))], .agg #[vi ((vD ((pv n).its.getD j it0).2).1), vi ((vD ((pv n).its.getD j it0).2).2.1), vi ((vD ((pv n).its.getD j it0).2).2.2.1), vi ((vD ((pv n).its.getD j it0).2).2.2.2.1), .bool ((vD ((pv n).its.getD j it0).2).2.2.2.2.1), .slice A37_13 ((vD ((pv n).its.getD j it0).2).2.2.2.2.2.length) c37_13], vi ((eD ((pv n).its.getD j it0).2)), vi ((j : Int)), .bool (decide (0 < (j : Int))), .bool (decide (0 < (j : Int))), mb (decide (0 < (j : Int))) (vi ((eD ((pv n).its.getD j it0).2))), mb (decide (0 < (j : Int))) (.bool ((eD ((pv n).its.getD j it0).2) == 0)), .bool ((decide (0 < (j : Int))) && ((eD ((pv n).its.getD j it0).2) == 0)), (gu u8_ 19), (gu u8_ 20), (gu u8_ 21), (gu u8_ 22), (gu u8_ 23), (gu u8_ 24), (gu u8_ 25), (gu u8_ 26), vi ((j : Int) + 1)], by omega, hkm, ks_keep hkl ((by have h_ := hs15; rw [eD_some] at h_; rintro ⟨a_, b_⟩; rw [b_] at h_; simp at h_; omega)), by omega, rfl, rfl, hp20⟩
    have hs11p : ¬ ((j : Int) < ((pv n).its.length : Int)) := by simpa using hs11
    refine wp_cond_false (show Act.eval _ _ = .bool false from (congrArg Value.bool hs11)) (wp_exit (then_exit (then_exit (blk_eq (then_normal (wp_seq (wp_region_P [0, 1] [.k 55 (.slice FA m FC), .k 4 (.slice FA m FC)] [(4, 1, 1, 5), (50, 0, 1, 51)] hst10 fun W21 hst21 => ?_)))))))
    refine then_normal (wp_ret ?_)
    refine bodyPost_ret (v := .slice FA m FC) (results_tmp Tryz.results12 rfl) rfl ?_
    have hal : allF' (pv n) = fndF (pv n).its j := by rw [allF', if_pos (by simp_all), show j = (pv n).its.length by omega]
    have hlm : m = (allF' (pv n)).length := by rw [hal, ← ks_len hkl, hkm]
    have ho_ := hst21.own' 0 rfl
    unfold AllPost
    rw [← hlm, hal]
    exact ⟨_, _, ks, hkl, rfl, ho_, hst21.ext⟩
  refine wp_cond_true (show Act.eval _ _ = .bool true from (congrArg Value.bool (by rw [hs4]; rfl))) (wp_seq (wp_region_P [0] [.k 4 (.slice none 0 0)] [(4, 0, 1, 5)] hst3 fun W22 hst22 => ?_))
  refine then_normal (wp_ret (then_ret ?_))
  refine bodyPost_ret (v := .slice none 0 0) (results_tmp Tryz.results12 rfl) rfl ?_
  have hal : allF' (pv n) = [] := by rw [allF', if_neg (by simp [*])]
  unfold AllPost
  rw [hal]
  exact ⟨none, 0, [], rfl, rfl, World.ownsRow_nil _ _ _ _, hst22.ext⟩
def hits (v : PV) : List Itm := if 0 ≤ tbF v then v.its else []
theorem tbF_hd (v : PV) : (0 ≤ tbF v) ↔ hdF v = true := by
  rw [tbF]
  cases hdF v with
  | true => simp only [if_true, iff_true]; omega
  | false => simp
theorem atF_get (v : PV) {j : Nat} (h : 1 ≤ j) : atF v (j : Int) = ((hits v).getD j it0).2 := by
  rw [atF, hits]
  by_cases h1 : 0 ≤ tbF v
  · by_cases h2 : j < v.its.length
    · rw [if_pos (by omega), if_pos h1]; rfl
    · rw [if_neg (by omega), if_pos h1, List.getD_eq_getElem?_getD, List.getElem?_eq_none (by omega)]; rfl
  · rw [if_neg (by omega), if_neg h1]; rfl
theorem hits_len {v : PV} (h : v.wf) : (hits v).length ≤ 24 := by
  rw [hits]
  split
  · exact h.1
  · simp
theorem hits_all {v : PV} (h : v.wf) : fndF (hits v) 24 = allF' v := by
  have hl := hits_len h
  obtain ⟨d, hd⟩ : ∃ d, 24 = (hits v).length + d := ⟨24 - (hits v).length, by omega⟩
  rw [hd, fnd_ge, allF']
  by_cases h1 : 0 ≤ tbF v
  · rw [if_pos ((tbF_hd v).1 h1), hits, if_pos h1]
  · rw [if_neg (fun h2 => h1 ((tbF_hd v).2 h2)), hits, if_neg h1]; rfl
theorem rat_hits (PA : Option Addr) (pc : Nat) (Ps : List PgD) (n : Int) {j : Nat} (w : World) (hP : PgsAt w PA Ps) (h : 1 ≤ j) : Calls Tryz.prog 69 #[.agg #[.slice PA Ps.length pc], .agg #[.int .i64 n, .int .i64 (j : Int)]] w (VerAt ((hits (pvF Ps n)).getD j it0).2 w) := by
  rw [← atF_get _ h]; exact rat_any PA pc Ps n j w hP
set_option maxRecDepth 100000 in
set_option maxHeartbeats 4000000 in
theorem rall9_any (PA : Option Addr) (pc : Nat) (Ps : List PgD) (n : Int) (w : World) (hP : PgsAt w PA Ps) :
    Calls Tryz.prog 16 #[.agg #[.slice PA Ps.length pc], .int .i64 n] w (AllPost 147 (pvF Ps n) n w) := by
  have hwf := hP.wf n
  have hwl := hwf.1
  go_enter Tryz.func16, Tryz.ntmps16
  have hst0 := St.start w
  refine wp_seq (wp_region_Y [0, 0] [] [[0]] [] [.a 2, .k 4 (.slice none 0 0)] (fun ix σ β X => match ix with | 0 => σ 2 = vp (pb (β 2)) ∧ X 0 = eB (pb (β 2)) 30 #[.slice PA Ps.length pc] | _ => True) [0] [0] [(2, 0, 1, 3), (1, 1, 1, 2)] hst0 ?_ ?_ ?_)
  · exact fun ix _ _ _ _ _ _ hs hb hx h => match ix, h with
    | 0, h => by dsimp only at h ⊢; rw [← hs 2 rfl, ← hb 2 rfl, ← hx 0 rfl]; exact h
    | _ + 1, _ => trivial
  · refine ⟨?_, trivial⟩
    · refine sv_any rfl rfl fun ρ β W X cx => ?_
      exact dv_box (cs := #[.slice PA Ps.length pc]) rfl (cx.ou 0) rfl rfl rfl (fun σ β' X' hs hb hv hx => ⟨hv, hx⟩)
  intro σ β X W1 hD hst1 fr hfr
  obtain ⟨B2_1, hu_B2_1⟩ : ∃ z, pb (β 2) = z := ⟨_, rfl⟩
  simp only [exq 0 ((dTn (hD 0 lq)).2), hu_B2_1] at hst1
  simp only [ed 2 ((dTn (hD 0 lq)).1), hu_B2_1] at hfr
  clear hD hu_B2_1; subst hfr; clear σ β X
  refine then_normal (wp_seq (wp_region_Y [0, 1] [] [[1]] [] [.a 9, .a 5] (fun ix σ β X => match ix with | 0 => σ 9 = .slice ((some ⟨(pb' (β 9)), 0, none⟩)) 0 0 ∧ X 1 = eO 147 8 (.slice ((some ⟨(pb' (β 9)), 0, none⟩)) 0 0) 0 ([]) | 1 => σ 5 = .slice ((some ⟨(pb' (β 9)), 0, none⟩)) 0 0 | _ => True) [0, 1] [0, 1] [(5, 1, 1, 6), (3, 0, 1, 4)] hst1 ?_ ?_ ?_))
  · exact fun ix _ _ _ _ _ _ hs hb hx h => match ix, h with
    | 0, h => by dsimp only at h ⊢; rw [← hs 9 rfl, ← hb 9 rfl, ← hx 1 rfl]; exact h
    | 1, h => by dsimp only at h ⊢; rw [← hs 5 rfl, ← hb 9 rfl]; exact h
    | _ + 2, _ => trivial
  · refine ⟨?_, ?_, trivial⟩
    · refine sv_any rfl rfl fun ρ β W X cx => ?_
      exact dv_litN (e := 147) (sz := 8) (xs := []) rfl (by simp [go_sem]) rfl (by decide) rfl rfl (fun σ β' X' hs hb hv hx => ⟨hv, hx⟩)
    · exact sv rfl rfl rfl rfl rfl _ (fun _ _ _ h => h) (fun β β' h => by rw [h 9 (by decide)]) fun ρ β W X cx => run_assign' rfl (dTn (cx.an 0)).1
  intro σ β X W2 hD hst2 fr hfr
  obtain ⟨B9_2, hu_B9_2⟩ : ∃ z, pb' (β 9) = z := ⟨_, rfl⟩
  simp only [exq 1 ((dTn (hD 0 lq)).2), hu_B9_2] at hst2
  simp only [ed 9 ((dTn (hD 0 lq)).1), ed 5 ((dTn (hD 1 lq))), hu_B9_2] at hfr
  clear hD hu_B9_2; subst hfr; clear σ β X
  refine then_normal (wp_seq (wp_seq (wp_region_P [0] [.k 6 (vi 1)] [(6, 0, 1, 7)] hst2 fun W3 hst3 => ?_)))
  refine then_normal (wp_block ?_)
  refine wp_loopN (fun mz az W => ∃ j : Nat, ∃ m : Nat, ∃ FA : Option Addr, ∃ FC : Nat, ∃ ks : List FK, ∃ u4_ : List Value, j ≤ 24 ∧ ks.length = m ∧ ks.map Prod.fst = fndF (hits (pvF Ps n)) j ∧ m ≤ j ∧ 1 ≤ j ∧ mz = 24 - j ∧ az = ⟨#[.agg #[.slice PA Ps.length pc], vi n, vp B2_1, undef, .slice none 0 0, .slice FA m FC, vi ((j : Int)), (gu u4_ 0), (gu u4_ 1), .slice ((some ⟨B9_2, 0, none⟩)) 0 0, (gu u4_ 2), (gu u4_ 3), (gu u4_ 4), (gu u4_ 5), (gu u4_ 6), (gu u4_ 7), (gu u4_ 8), (gu u4_ 9), (gu u4_ 10), (gu u4_ 11), (gu u4_ 12), (gu u4_ 13), (gu u4_ 14), (gu u4_ 15), (gu u4_ 16), (gu u4_ 17), (gu u4_ 18), (gu u4_ 19), (gu u4_ 20), (gu u4_ 21), (gu u4_ 22), undef], []⟩ ∧ St w [] [eO 147 8 (.slice FA m FC) m (ks.flatMap (cellsF n)), eB B2_1 30 #[.slice PA Ps.length pc]] W) (24 - 1) ?_ ?_
  · -- the loop begins
    have hp5 := hst3.pick [1, 0] (by decide) rfl
    exact ⟨1, 0, (some ⟨B9_2, 0, none⟩), 0, [], [undef, undef, undef, undef, undef, undef, undef, undef, undef, undef, undef, undef, undef, undef, undef, undef, undef, undef, undef, undef, undef, undef, undef], by omega, rfl, rfl, by omega, by omega, rfl, rfl, hp5⟩
  rintro n4 a4 W4 ⟨j, m, FA, FC, ks, u4_, hj, hkm, hkl, hmj, hj1, rfl, rfl, hst4⟩
  refine wp_seq (wp_seq (wp_region_P [0, 1] [.k 10 (vi ((j : Int))), .k 11 (.bool (decide ((j : Int) < 24)))] [(10, 0, 2, 12)] hst4 fun W6 hst6 => ?_))
  refine then_normal ?_
  rcases Bool.eq_false_or_eq_true (decide ((j : Int) < 24)) with hs7 | hs7
  · skip
    have hs7p : (j : Int) < 24 := by simpa using hs7
    refine wp_cond_true (show Act.eval _ _ = .bool true from (congrArg Value.bool hs7)) (wp_skip (then_normal (wp_seq (wp_block (wp_seq (wp_region_Y [0, 0, 0, 6, 15, 31, 63, 63, 0, 383, 1023] [[1], [], [], [], [], [], [], [], [], [3]] [[], [], [], [], [2], [], [], [], [3], [4]] [[], [], [], [], [], [], [], [], [], [3]] [.c 15 (.agg #[.slice PA Ps.length pc]), .k 16 (vi n), .k 17 (vi ((j : Int))), .k 18 (.agg #[vi n, vi ((j : Int))]), .a 19, .a 14, .a 20, .c 21 (.bool (((hits (pvF Ps n)).getD j it0).2.isSome)), .a 7, .n, .k 8 (.bool (((hits (pvF Ps n)).getD j it0).2.isSome))] (fun ix σ β X => match ix with | 0 => True | 1 => True | 2 => True | 3 => True | 4 => σ 19 = .tuple #[.agg #[vi ((vD ((hits (pvF Ps n)).getD j it0).2).1), vi ((vD ((hits (pvF Ps n)).getD j it0).2).2.1), vi ((vD ((hits (pvF Ps n)).getD j it0).2).2.2.1), vi ((vD ((hits (pvF Ps n)).getD j it0).2).2.2.2.1), .bool ((vD ((hits (pvF Ps n)).getD j it0).2).2.2.2.2.1), .slice (sA (tg (tg (β 19) 0) 5)) ((vD ((hits (pvF Ps n)).getD j it0).2).2.2.2.2.2.length) (sC (tg (tg (β 19) 0) 5))], .bool (((hits (pvF Ps n)).getD j it0).2.isSome)] ∧ X 2 = eO 45 3 (.slice (sA (tg (tg (β 19) 0) 5)) ((vD ((hits (pvF Ps n)).getD j it0).2).2.2.2.2.2.length) (sC (tg (tg (β 19) 0) 5))) ((vD ((hits (pvF Ps n)).getD j it0).2).2.2.2.2.2.length) (flatR (vD ((hits (pvF Ps n)).getD j it0).2).2.2.2.2.2) | 5 => σ 14 = .tuple #[.agg #[vi ((vD ((hits (pvF Ps n)).getD j it0).2).1), vi ((vD ((hits (pvF Ps n)).getD j it0).2).2.1), vi ((vD ((hits (pvF Ps n)).getD j it0).2).2.2.1), vi ((vD ((hits (pvF Ps n)).getD j it0).2).2.2.2.1), .bool ((vD ((hits (pvF Ps n)).getD j it0).2).2.2.2.2.1), .slice (sA (tg (tg (β 19) 0) 5)) ((vD ((hits (pvF Ps n)).getD j it0).2).2.2.2.2.2.length) (sC (tg (tg (β 19) 0) 5))], .bool (((hits (pvF Ps n)).getD j it0).2.isSome)] | 6 => σ 20 = .agg #[vi ((vD ((hits (pvF Ps n)).getD j it0).2).1), vi ((vD ((hits (pvF Ps n)).getD j it0).2).2.1), vi ((vD ((hits (pvF Ps n)).getD j it0).2).2.2.1), vi ((vD ((hits (pvF Ps n)).getD j it0).2).2.2.2.1), .bool ((vD ((hits (pvF Ps n)).getD j it0).2).2.2.2.2.1), .slice (sA (tg (tg (β 19) 0) 5)) ((vD ((hits (pvF Ps n)).getD j it0).2).2.2.2.2.2.length) (sC (tg (tg (β 19) 0) 5))] | 7 => True | 8 => σ 7 = vp (pb (β 7)) ∧ X 3 = eB (pb (β 7)) 41 #[vi 0, vi 0, vi 0, vi 0, .bool false, .slice none 0 0] | 9 => X 4 = eB (pb (β 7)) 41 #[vi ((vD ((hits (pvF Ps n)).getD j it0).2).1), vi ((vD ((hits (pvF Ps n)).getD j it0).2).2.1), vi ((vD ((hits (pvF Ps n)).getD j it0).2).2.2.1), vi ((vD ((hits (pvF Ps n)).getD j it0).2).2.2.2.1), .bool ((vD ((hits (pvF Ps n)).getD j it0).2).2.2.2.2.1), .slice (sA (tg (tg (β 19) 0) 5)) ((vD ((hits (pvF Ps n)).getD j it0).2).2.2.2.2.2.length) (sC (tg (tg (β 19) 0) 5))] | _ => True) [0, 1, 2, 4] [0, 4, 5, 6, 7, 8, 9] [(7, 8, 3, 9), (5, 5, 1, 6), (0, 0, 5, 5), (0, 6, 2, 2)] hst6 ?_ ?_ ?_))))))
    · exact fun ix _ _ _ _ _ _ hs hb hx h => match ix, h with
      | 4, h => by dsimp only at h ⊢; rw [← hs 19 rfl, ← hb 19 rfl, ← hx 2 rfl]; exact h
      | 5, h => by dsimp only at h ⊢; rw [← hs 14 rfl, ← hb 19 rfl]; exact h
      | 6, h => by dsimp only at h ⊢; rw [← hs 20 rfl, ← hb 19 rfl]; exact h
      | 8, h => by dsimp only at h ⊢; rw [← hs 7 rfl, ← hb 7 rfl, ← hx 3 rfl]; exact h
      | 9, h => by dsimp only at h ⊢; rw [← hb 7 rfl, ← hb 19 rfl, ← hx 4 rfl]; exact h
      | 0, _ | 1, _ | 2, _ | 3, _ | 7, _ | _ + 10, _ => trivial
    · refine ⟨?_, ?_, ?_, ?_, ?_, ?_, ?_, trivial⟩
      · exact xs4 rfl id fun cx => run_loadB (n := 1) rfl (by kernel_rfl) (by kernel_rfl) (cx.ou 2) (cx.bi 1 rfl) (nle rfl) rfl
      · refine sv_any rfl rfl fun ρ β W X cx => ?_
        refine DoesU.call (run_callF (args := #[.agg #[.slice PA Ps.length pc], .agg #[vi n, vi ((j : Int))]]) rfl cx.sees rfl (by kernel_rfl) (map2 (cx.an 0) (cx.an 3))) ?_
        refine (rat_hits _ _ Ps n (j := j) _ (hP.ext cx.upd.to_ext) (by omega)).mono ?_
        rintro e W1 ⟨A4, c4, rfl, ho, hx⟩
        refine ⟨_, rfl, post_call [eO 45 3 (.slice A4 (vD ((hits (pvF Ps n)).getD j it0).2).2.2.2.2.2.length c4) (vD ((hits (pvF Ps n)).getD j it0).2).2.2.2.2.2.length (flatR (vD ((hits (pvF Ps n)).getD j it0).2).2.2.2.2.2)] rfl rfl hx (one_new (eO_new ho)) (List.pairwise_singleton _ _) (fun σ β' X' hs hb hv hN => ?_)⟩
        have hv1 := (hv 19 rfl).1; have hv2 := (hv 19 rfl).2
        exact ⟨hv1.trans (by rw [hv2]; rfl), (by rw [hv2]; exact (List.cons.inj hN).1)⟩
      · exact sv rfl rfl rfl rfl rfl _ (fun _ _ _ h => h) (fun β β' h => by rw [h 19 (by decide)]) fun ρ β W X cx => run_move' rfl (dTn (cx.an 4)).1
      · exact sv rfl rfl rfl rfl rfl _ (fun _ _ _ h => h) (fun β β' h => by rw [h 19 (by decide)]) fun ρ β W X cx => run_extract' rfl (dTn (cx.an 5)) rfl
      · exact xs4 rfl id fun cx => run_extract' rfl (dTn (cx.an 5)) rfl
      · refine sv_any rfl rfl fun ρ β W X cx => ?_
        exact dv_alloc (cs := #[vi 0, vi 0, vi 0, vi 0, .bool false, .slice none 0 0]) rfl (by kernel_rfl) rfl rfl (fun σ β' X' hs hb hv hx => ⟨hv, hx⟩)
      · refine sv_any rfl rfl fun ρ β W X cx => ?_
        exact dv_store (n := 6) rfl (dTn (cx.an 8)).1 (dTn (cx.an 6)) (by kernel_rfl) (by kernel_rfl) (by kernel_rfl) cx (dTn (cx.an 8)).2 rfl (nle rfl) (by kernel_rfl) rfl rfl rfl (fun σ β' X' hs hb hx => by rw [hb 7, hb 19]; exact hx)
    intro σ β X W8 hD hst8 fr hfr
    obtain ⟨A19_8, hu_A19_8⟩ : ∃ z, sA (tg (tg (β 19) 0) 5) = z := ⟨_, rfl⟩
    obtain ⟨c19_8, hu_c19_8⟩ : ∃ z, sC (tg (tg (β 19) 0) 5) = z := ⟨_, rfl⟩
    obtain ⟨B7_8, hu_B7_8⟩ : ∃ z, pb (β 7) = z := ⟨_, rfl⟩
    simp only [exq 2 ((dTn (hD 4 lq)).2), exq 4 ((dTn (hD 9 lq))), hu_A19_8, hu_c19_8, hu_B7_8] at hst8
    simp only [ed 19 ((dTn (hD 4 lq)).1), ed 14 ((dTn (hD 5 lq))), ed 20 ((dTn (hD 6 lq))), ed 7 ((dTn (hD 8 lq)).1), hu_A19_8, hu_c19_8, hu_B7_8] at hfr
    clear hD hu_A19_8 hu_c19_8 hu_B7_8; subst hfr; clear σ β X
    refine then_normal (wp_seq (wp_region_P [0] [.k 22 (.bool (((hits (pvF Ps n)).getD j it0).2.isSome))] [(22, 0, 1, 23)] hst8 fun W9 hst9 => ?_))
    refine then_normal ?_
    rcases Bool.eq_false_or_eq_true (((hits (pvF Ps n)).getD j it0).2.isSome) with hs10 | hs10
    · skip
      refine wp_cond_true (show Act.eval _ _ = .bool true from (congrArg Value.bool hs10)) (wp_region_Y [0, 0, 0, 6, 0, 30, 62, 127, 255] [[], [], [], [], [3], [], [], [4, 0]] [[], [], [], [], [], [], [4], [5]] [[], [], [], [], [], [], [], [0]] [.k 23 (.slice FA m FC), .k 24 (vi n), .k 25 (vi ((j : Int))), .k 26 (.agg #[vi n, vi ((j : Int))]), .c 27 (.agg #[vi ((vD ((hits (pvF Ps n)).getD j it0).2).1), vi ((vD ((hits (pvF Ps n)).getD j it0).2).2.1), vi ((vD ((hits (pvF Ps n)).getD j it0).2).2.2.1), vi ((vD ((hits (pvF Ps n)).getD j it0).2).2.2.2.1), .bool ((vD ((hits (pvF Ps n)).getD j it0).2).2.2.2.2.1), .slice A19_8 ((vD ((hits (pvF Ps n)).getD j it0).2).2.2.2.2.2.length) c19_8]), .k 28 (.agg #[vi n, vi ((j : Int)), vi ((vD ((hits (pvF Ps n)).getD j it0).2).1), vi ((vD ((hits (pvF Ps n)).getD j it0).2).2.1), vi ((vD ((hits (pvF Ps n)).getD j it0).2).2.2.1), vi ((vD ((hits (pvF Ps n)).getD j it0).2).2.2.2.1), .bool ((vD ((hits (pvF Ps n)).getD j it0).2).2.2.2.2.1), .slice A19_8 ((vD ((hits (pvF Ps n)).getD j it0).2).2.2.2.2.2.length) c19_8]), .a 29, .a 30, .a 5] (fun ix σ β X => match ix with | 0 => True | 1 => True | 2 => True | 3 => True | 4 => True | 5 => True | 6 => σ 29 = .slice ((some ⟨(pb' (β 29)), 0, none⟩)) 1 1 ∧ X 4 = eO 147 8 (.slice ((some ⟨(pb' (β 29)), 0, none⟩)) 1 1) 1 (cellsF n ((j, vD ((hits (pvF Ps n)).getD j it0).2), A19_8, c19_8)) | 7 => σ 30 = .slice (sA (β 30)) (m + 1) (sC (β 30)) ∧ X 5 = eO 147 8 (.slice (sA (β 30)) (m + 1) (sC (β 30))) (m + 1) ((ks ++ [((j, vD ((hits (pvF Ps n)).getD j it0).2), A19_8, c19_8)]).flatMap (cellsF n)) | 8 => σ 5 = .slice (sA (β 30)) (m + 1) (sC (β 30)) | _ => True) [1, 2, 3, 4, 5] [4, 6, 7, 8] [(5, 8, 1, 6), (17, 0, 8, 25)] hst9 ?_ ?_ ?_)
      · exact fun ix _ _ _ _ _ _ hs hb hx h => match ix, h with
        | 6, h => by dsimp only at h ⊢; rw [← hs 29 rfl, ← hb 29 rfl, ← hx 4 rfl]; exact h
        | 7, h => by dsimp only at h ⊢; rw [← hs 30 rfl, ← hb 30 rfl, ← hx 5 rfl]; exact h
        | 8, h => by dsimp only at h ⊢; rw [← hs 5 rfl, ← hb 30 rfl]; exact h
        | 0, _ | 1, _ | 2, _ | 3, _ | 4, _ | 5, _ | _ + 9, _ => trivial
      · refine ⟨?_, ?_, ?_, ?_, trivial⟩
        · exact xs4 rfl id fun cx => run_loadB (n := 6) rfl (by kernel_rfl) (by kernel_rfl) (cx.ou 7) (cx.bi 3 rfl) (nle rfl) rfl
        · refine sv_any rfl rfl fun ρ β W X cx => ?_
          have fF28 : ρ (.tmp 28) = .agg #[vi n, vi ((j : Int)), vi ((vD ((hits (pvF Ps n)).getD j it0).2).1), vi ((vD ((hits (pvF Ps n)).getD j it0).2).2.1), vi ((vD ((hits (pvF Ps n)).getD j it0).2).2.2.1), vi ((vD ((hits (pvF Ps n)).getD j it0).2).2.2.2.1), .bool ((vD ((hits (pvF Ps n)).getD j it0).2).2.2.2.2.1), .slice A19_8 ((vD ((hits (pvF Ps n)).getD j it0).2).2.2.2.2.2.length) c19_8] := (cx.an 5)
          exact dv_litN (e := 147) (sz := 8) (xs := [vi n, vi ((j : Int)), vi ((vD ((hits (pvF Ps n)).getD j it0).2).1), vi ((vD ((hits (pvF Ps n)).getD j it0).2).2.1), vi ((vD ((hits (pvF Ps n)).getD j it0).2).2.2.1), vi ((vD ((hits (pvF Ps n)).getD j it0).2).2.2.2.1), .bool ((vD ((hits (pvF Ps n)).getD j it0).2).2.2.2.2.1), .slice A19_8 ((vD ((hits (pvF Ps n)).getD j it0).2).2.2.2.2.2.length) c19_8]) rfl (by simp [go_sem, fF28]) rfl (by decide) rfl rfl (fun σ β' X' hs hb hv hx => ⟨hv, hx⟩)
        · refine sv_any rfl rfl fun ρ β W X cx => ?_
          obtain ⟨i0, hi0, hz0, hz1, hz2⟩ := info_parts Tryz.infoRFnd
          refine dv_appendN (n := m) (m := 1) (nm := m + 1) (sz := 8) (xs := ks.flatMap (cellsF n)) (news := cellsF n ((j, vD ((hits (pvF Ps n)).getD j it0).2), A19_8, c19_8)) (xs' := (ks ++ [((j, vD ((hits (pvF Ps n)).getD j it0).2), A19_8, c19_8)]).flatMap (cellsF n)) rfl (ty := 51) rfl (by kernel_rfl) hi0 hz0 hz1 hz2 rfl (by decide) (cx.an 0) cx (cx.init 0 _ rfl) rfl (dTn (cx.an 6)).1 (by rfl) (At.of_ownN (cx.row (dTn (cx.an 6)).2 rfl)) (by simp [cellsF, Value.oneCell']) (by simp only [maxLen]; omega) (by omega) rfl rfl rfl (by omega) (found_snoc _ _ _) (fun σ β' X' hs hb hv hx => ?_)
          exact ⟨hv, hx⟩
        · exact sv rfl rfl rfl rfl rfl _ (fun _ _ _ h => h) (fun β β' h => by rw [h 30 (by decide)]) fun ρ β W X cx => run_assign' rfl (dTn (cx.an 7)).1
      intro σ β X W11 hD hst11 fr hfr
      obtain ⟨B29_11, hu_B29_11⟩ : ∃ z, pb' (β 29) = z := ⟨_, rfl⟩
      obtain ⟨A30_11, hu_A30_11⟩ : ∃ z, sA (β 30) = z := ⟨_, rfl⟩
      obtain ⟨c30_11, hu_c30_11⟩ : ∃ z, sC (β 30) = z := ⟨_, rfl⟩
      simp only [exq 4 ((dTn (hD 6 lq)).2), exq 5 ((dTn (hD 7 lq)).2), hu_B29_11, hu_A30_11, hu_c30_11] at hst11
      simp only [ed 29 ((dTn (hD 6 lq)).1), ed 30 ((dTn (hD 7 lq)).1), ed 5 ((dTn (hD 8 lq))), hu_B29_11, hu_A30_11, hu_c30_11] at hfr
      clear hD hu_B29_11 hu_A30_11 hu_c30_11; subst hfr; clear σ β X
      refine blk_normal (then_normal (wp_region_P [0, 1, 3] [.k 12 (vi ((j : Int))), tI 13 ((j : Int) + 1) (by omega), .k 6 (vi ((j : Int) + 1))] [(6, 2, 1, 7), (5, 0, 2, 7)] hst11 fun W12 hst12 => ?_))
      refine then_normal ?_
      refine ⟨24 - ((j + 1)), by omega, ?_⟩
      have hp13 := hst12.pick [4, 0] (by decide) rfl
      exact ⟨(j + 1), (m + 1), A30_11, c30_11, (ks ++ [((j, vD ((hits (pvF Ps n)).getD j it0).2), A19_8, c19_8)]), [vp B7_8, .bool (((hits (pvF Ps n)).getD j it0).2.isSome), vi ((j : Int)), .bool (decide ((j : Int) < 24)), vi ((j : Int)), vi ((j : Int) + 1), .tuple #[.agg #[vi ((vD ((hits (pvF Ps n)).getD j it0).2).1), vi ((vD ((hits (pvF Ps n)).getD j it0).2).2.1), vi ((vD ((hits (pvF Ps n)).getD j it0).2).2.2.1), vi ((vD ((hits (pvF Ps n)).getD j it0).2).2.2.2.1), .bool ((vD ((hits (pvF Ps n)).getD j it0).2).2.2.2.2.1), .slice A19_8 ((vD ((hits (pvF Ps n)).getD j it0).2).2.2.2.2.2.length) c19_8], .bool (((hits (pvF Ps n)).getD j it0).2.isSome)], .agg #[.slice PA Ps.length pc], vi n, vi ((j : Int)), .agg #[vi n, vi ((j : Int))], .tuple #[.agg #[vi ((vD ((hits (pvF Ps n)).getD j it0).2).1), vi ((vD ((hits (pvF Ps n)).getD j it0).2).2.1), vi ((vD ((hits (pvF Ps n)).getD j it0).2).2.2.1), vi ((vD ((hits (pvF Ps n)).getD j it0).2).2.2.2.1), .bool ((vD ((hits (pvF Ps n)).getD j it0).2).2.2.2.2.1), .slice A19_8 ((vD ((hits (pvF Ps n)).getD j it0).2).2.2.2.2.2.length) c19_8], .bool (((hits (pvF Ps n)).getD j it0).2.isSome)], .agg #[vi ((vD ((hits (pvF Ps n)).getD j it0).2).1), vi ((vD ((hits (pvF Ps n)).getD j it0).2).2.1), vi ((vD ((hits (pvF Ps n)).getD j it0).2).2.2.1), vi ((vD ((hits (pvF Ps n)).getD j it0).2).2.2.2.1), .bool ((vD ((hits (pvF Ps n)).getD j it0).2).2.2.2.2.1), .slice A19_8 ((vD ((hits (pvF Ps n)).getD j it0).2).2.2.2.2.2.length) c19_8], .bool (((hits (pvF Ps n)).getD j it0).2.isSome), .bool (((hits (pvF Ps n)).getD j it0).2.isSome), .slice FA m FC, vi n, vi ((j : Int)), .agg #[vi n, vi ((j : Int))], .agg #[vi ((vD ((hits (pvF Ps n)).getD j it0).2).1), vi ((vD ((hits (pvF Ps n)).getD j it0).2).2.1), vi ((vD ((hits (pvF Ps n)).getD j it0).2).2.2.1), vi ((vD ((hits (pvF Ps n)).getD j it0).2).2.2.2.1), .bool ((vD ((hits (pvF Ps n)).getD j it0).2).2.2.2.2.1), .slice A19_8 ((vD ((hits (pvF Ps n)).getD j it0).2).2.2.2.2.2.length) c19_8], .agg #[vi n, vi ((j : Int)), vi ((vD ((hits (pvF Ps n)).getD j it0).2).1), vi ((vD ((hits (pvF Ps n)).getD j it0).2).2.1), vi ((vD ((hits (pvF Ps n)).getD j it0).2).2.2.1), vi ((vD ((hits (pvF Ps n)).getD j it0).2).2.2.2.1), .bool ((vD ((hits (pvF Ps n)).getD j it0).2).2.2.2.2.1), .slice A19_8 ((vD ((hits (pvF Ps n)).getD j it0).2).2.2.2.2.2.length) c19_8], .slice ((some ⟨B29_11, 0, none⟩)) 1 1, .slice A30_11 (m + 1) c30_11], by omega, by rw [List.length_append, hkm]; rfl, ks_snoc hkl (by omega) (hs10) _ _, by omega, by omega, rfl, rfl, hp13⟩
    refine wp_cond_false (show Act.eval _ _ = .bool false from (congrArg Value.bool hs10)) (wp_skip (blk_normal (then_normal (wp_region_P [0, 1, 3] [.k 12 (vi ((j : Int))), tI 13 ((j : Int) + 1) (by omega), .k 6 (vi ((j : Int) + 1))] [(6, 2, 1, 7), (5, 0, 2, 7)] hst9 fun W14 hst14 => ?_))))
    refine then_normal ?_
    refine ⟨24 - ((j + 1)), by omega, ?_⟩
    have hp15 := hst14.pick [0, 1] (by decide) rfl
    exact ⟨(j + 1), m, FA, FC, ks, [vp B7_8, .bool (((hits (pvF Ps n)).getD j it0).2.isSome), vi ((j : Int)), .bool (decide ((j : Int) < 24)), vi ((j : Int)), vi ((j : Int) + 1), .tuple #[.agg #[vi ((vD ((hits (pvF Ps n)).getD j it0).2).1), vi ((vD ((hits (pvF Ps n)).getD j it0).2).2.1), vi ((vD ((hits (pvF Ps n)).getD j it0).2).2.2.1), vi ((vD ((hits (pvF Ps n)).getD j it0).2).2.2.2.1), .bool ((vD ((hits (pvF Ps n)).getD j it0).2).2.2.2.2.1), .slice A19_8 ((vD ((hits (pvF Ps n)).getD j it0).2).2.2.2.2.2.length) c19_8], .bool (((hits (pvF Ps n)).getD j it0).2.isSome)], .agg #[.slice PA Ps.length pc], vi n, vi ((j : Int)), .agg #[vi n, vi ((j : Int))], .tuple #[.agg #[vi ((vD ((hits (pvF Ps n)).getD j it0).2).1), vi ((vD ((hits (pvF Ps n)).getD j it0).2).2.1), vi ((vD ((hits (pvF Ps n)).getD j it0).2).2.2.1), vi ((vD ((hits (pvF Ps n)).getD j it0).2).2.2.2.1), .bool ((vD ((hits (pvF Ps n)).getD j it0).2).2.2.2.2.1), .slice A19_8 ((vD ((hits (pvF Ps n)).getD j it0).2).2.2.2.2.2.length) c19_8], .bool (((hits (pvF Ps n)).getD j it0).2.isSome)], .agg #[vi ((vD ((hits (pvF Ps n)).getD j it0).2).1), vi ((vD ((hits (pvF Ps n)).getD j it0).2).2.1), vi ((vD ((hits (pvF Ps n)).getD j it0).2).2.2.1), vi ((vD ((hits (pvF Ps n)).getD j it0).2).2.2.2.1), .bool ((vD ((hits (pvF Ps n)).getD j it0).2).2.2.2.2.1), .slice A19_8 ((vD ((hits (pvF Ps n)).getD j it0).2).2.2.2.2.2.length) c19_8], .bool (((hits (pvF Ps n)).getD j it0).2.isSome), .bool (((hits (pvF Ps n)).getD j it0).2.isSome), (gu u4_ 15), (gu u4_ 16), (gu u4_ 17), (gu u4_ 18), (gu u4_ 19), (gu u4_ 20), (gu u4_ 21), (gu u4_ 22)], by omega, hkm, ks_keep hkl ((fun h_ => by have h2_ := h_.2; rw [hs10] at h2_; cases h2_)), by omega, by omega, rfl, rfl, hp15⟩
  have hs7p : ¬ ((j : Int) < 24) := by simpa using hs7
  refine wp_cond_false (show Act.eval _ _ = .bool false from (congrArg Value.bool hs7)) (wp_exit (then_exit (then_exit (blk_eq (then_normal (wp_seq (wp_region_P [0, 1] [.k 31 (.slice FA m FC), .k 4 (.slice FA m FC)] [(4, 1, 1, 5), (26, 0, 1, 27)] hst6 fun W16 hst16 => ?_)))))))
  refine then_normal (wp_ret ?_)
  refine bodyPost_ret (v := .slice FA m FC) (results_tmp Tryz.results16 rfl) rfl ?_
  have hal : allF' (pvF Ps n) = fndF (hits (pvF Ps n)) j := by rw [← hits_all hwf, show j = 24 by omega]
  have hlm : m = (allF' (pvF Ps n)).length := by rw [hal, ← ks_len hkl, hkm]
  have ho_ := hst16.own' 0 rfl
  unfold AllPost
  rw [← hlm, hal]
  exact ⟨_, _, ks, hkl, rfl, ho_, hst16.ext⟩
end
end Go.Proofs.YtjnplglnnamfdaaGreatDoor
namespace Go.Proofs.YtjnplglnnamfdaaGreatDoor
section
open Go.RowKit Go.Maps Go.ChangeMaps
set_option linter.unusedVariables false
set_option linter.unusedSimpArgs false
/-- how an element lies in a map and how it reads -/
structure Cod (E : Type) where
  enc : E → Value
  dat : E → DataW Unit
  R : Value → Option (DataW Unit × List MemPlace)
  e0 : E
  read : ∀ e, R (enc e) = some (dat e, [])
  back : ∀ v d ps e, R v = some (d, ps) → d = dat e → v = enc e
def MapG {E : Type} (C : Cod E) (P : Program) (k b n : Nat) (m : Int → Option E) (W : World) : Prop :=
  ∃ D : DataW Unit, W.ownsMap P k C.R b n D ∧ IsMap D ∧ ∀ x : Int, (Lit.int .i64 x).wf = true → has D (.int .i64 x) = (m x).isSome ∧ D.atKey (.int .i64 x) (C.dat C.e0) = C.dat ((m x).getD C.e0)
def eMg {E : Type} (C : Cod E) (P : Program) (k b n : Nat) (m : Int → Option E) : Ent := ⟨[b], MapG C P k b n m⟩
def putM {E : Type} (m : Int → Option E) (x : Int) (e : Option E) : Int → Option E := fun y => if y = x then e else m y
theorem wf64 {x : Int} (h : -9223372036854775808 ≤ x ∧ x ≤ 9223372036854775807) : (Lit.int .i64 x).wf = true := by
  show (decide (IntKind.i64.min ≤ x) && decide (x ≤ IntKind.i64.max)) = true
  have h1 : IntKind.i64.min = -9223372036854775808 := by decide
  have h2 : IntKind.i64.max = 9223372036854775807 := by decide
  rw [h1, h2, decide_eq_true h.1, decide_eq_true h.2]; rfl
section
variable {E : Type} {C : Cod E}
theorem eMg_loc (P : Program) (k b n : Nat) (m : Int → Option E) : (eMg C P k b n m).loc := fun W W' h hb => by
  obtain ⟨D, ⟨es, clock, h1, h2⟩, h3⟩ := hb
  exact ⟨D, ⟨es, clock, (h b (by simp [eMg])).trans h1, h2⟩, h3⟩
variable {P : Program} {o : Oper} {ρ : Operand → Value} {W : World} {k e b n : Nat} {m : Int → Option E}
theorem MapG.lt (h : MapG C P k b n m W) : b < W.heap.size := by
  obtain ⟨D, hD, _⟩ := h
  exact hD.lt
theorem run_lookMg {t : TypeId} {y z : Operand} {x : Int} (h : o.op = .lookup t y z false) (hy : ρ y = .map (some b)) (hz : ρ z = .int .i64 x) (hb : MapG C P k b n m W) (h0 : (zeroValue e).run P W = .ok (C.enc C.e0) W) (hx : -9223372036854775808 ≤ x ∧ x ≤ 9223372036854775807)
    (hk : P.underlying k = some (.int .i64) := by kernel_rfl) (ht : P.underlying t = some (.map k e) := by kernel_rfl) : (execOp ρ o).run P W = .ok (.value (C.enc ((m x).getD C.e0))) W := by
  obtain ⟨D, hD, _, hm⟩ := hb
  obtain ⟨v, ps, hrun, hv⟩ := hD.lookup (int_keyed hk) ht h0 (C.read C.e0) (keyOf_int_mk hk (wf64 hx))
  rw [C.back v _ ps _ hv (hm x (wf64 hx)).2] at hrun
  unfold execOp
  rw [h]
  simp [hy, hz, hrun]
theorem run_lookOkMg {t : TypeId} {y z : Operand} {x : Int} (h : o.op = .lookup t y z true) (hy : ρ y = .map (some b)) (hz : ρ z = .int .i64 x) (hb : MapG C P k b n m W) (h0 : (zeroValue e).run P W = .ok (C.enc C.e0) W) (hx : -9223372036854775808 ≤ x ∧ x ≤ 9223372036854775807)
    (hk : P.underlying k = some (.int .i64) := by kernel_rfl) (ht : P.underlying t = some (.map k e) := by kernel_rfl) : (execOp ρ o).run P W = .ok (.value (.tuple #[C.enc ((m x).getD C.e0), .bool (m x).isSome])) W := by
  obtain ⟨D, hD, _, hm⟩ := hb
  obtain ⟨v, ps, hrun, hv⟩ := hD.look_ok (int_keyed hk) ht h0 (C.read C.e0) (keyOf_int_mk hk (wf64 hx))
  rw [C.back v _ ps _ hv (hm x (wf64 hx)).2, (hm x (wf64 hx)).1] at hrun
  unfold execOp
  rw [h]
  simp [hy, hz, hrun]
theorem run_setMg {t : TypeId} {y z u : Operand} {x : Int} {v : E} (h : o.op = .mapUpdate t y z u ∨ o.op = .insert t y z u) (hy : ρ y = .map (some b)) (hz : ρ z = .int .i64 x) (hu : ρ u = C.enc v) (hb : MapG C P k b n m W) (hn : n < 1000000) (hx : -9223372036854775808 ≤ x ∧ x ≤ 9223372036854775807)
    (hk : P.underlying k = some (.int .i64) := by kernel_rfl) (ht : P.underlying t = some (.map k e) := by kernel_rfl) :
    ∃ W', (execOp ρ o).run P W = .ok .skip W' ∧ MapG C P k b (n + 1) (putM m x (some v)) W' ∧ Upd [b] W W' := by
  obtain ⟨D, hD, hI, hm⟩ := hb
  obtain ⟨W', hrun, hown, hg⟩ := hD.update (int_keyed hk) ht (by simp only [maxLen]; omega) (keyOf_int_mk hk (wf64 hx)) (C.read v)
  refine ⟨W', ?_, ⟨_, hown, hown.isMap, fun y hy => ?_⟩, ⟨hg.os, hg.tape, hg.output, hg.size, fun i hi hn => hg.block i hi (fun e' => hn (by cases e'; simp))⟩⟩
  · unfold execOp
    rcases h with h | h <;> rw [h] <;> simp [hy, hz, hu, hrun]
  · unfold putM
    by_cases e' : y = x
    · subst e'
      rw [if_pos rfl]
      exact ⟨has_put_same hI (by trivial) _, atKey_put_same hI (by trivial) _ _⟩
    · rw [if_neg e', has_put_other (by simpa using e'), atKey_put_other (by simpa using e')]
      exact hm y hy
theorem run_delMg {c : Call} {y z : Operand} {x : Int} {t : TypeId} (h : o.op = .call c) (hc : c.callee = .builtin .delete) (ha : c.args = #[y, z]) (hat : c.argTypes = #[t, k]) (hy : ρ y = .map (some b)) (hz : ρ z = .int .i64 x) (hb : MapG C P k b n m W) (hx : -9223372036854775808 ≤ x ∧ x ≤ 9223372036854775807)
    (hk : P.underlying k = some (.int .i64) := by kernel_rfl) (ht : P.underlying t = some (.map k e) := by kernel_rfl) :
    ∃ W', (execOp ρ o).run P W = .ok (.value (.tuple #[])) W' ∧ MapG C P k b n (putM m x none) W' ∧ Upd [b] W W' := by
  obtain ⟨D, hD, hI, hm⟩ := hb
  obtain ⟨W', hrun, hown, es, clock, es', clock', h1, h2⟩ := hD.drop (int_keyed hk) ht (keyOf_int_mk hk (wf64 hx)) o.type
  refine ⟨W', ?_, ⟨_, hown, hown.isMap, fun y hy => ?_⟩, ?_⟩
  · unfold execOp
    rw [h]
    obtain ⟨cal, args, tys⟩ := c
    simp only at hc ha hat
    subst hc ha hat
    simp [go_sem, hy, hz, hrun]
  · unfold putM
    by_cases e' : y = x
    · subst e'
      rw [if_pos rfl]
      exact ⟨has_del_same, atKey_del_same _⟩
    · rw [if_neg e', has_del_other (by simpa using e'), atKey_del_other (by simpa using e')]
      exact hm y hy
  · subst h2
    exact ⟨rfl, rfl, rfl, by simp [setBlock], fun i hi hn => heap_setBlock_other h1 _ (fun e' => hn (by simp [e']))⟩
theorem run_fieldV {t : TypeId} {x : Operand} {f : Nat} {v r : Value} (h : o.op = .field t x f) (hx : ρ x = v) (hf : ∀ w, (Instr.field t v f).run P w = .ok r w) : (execOp ρ o).run P W = .ok (.value r) W := by
  unfold execOp; rw [h]; simp [hx, hf]
theorem run_eqMap {bop : BinOp} {t t' : TypeId} {x y : Operand} {q : Nat} {r : Value} (h : o.op = .binOp bop t x y t') (hx : ρ x = .map (some q)) (hy : ρ y = .map none) (hr : ∀ w, (binOp bop t (.map (some q)) (.map none)).run P w = .ok r w) (hg : bop = .eql ∨ bop = .neq := by simp) : (execOp ρ o).run P W = .ok (.value r) W := by
  unfold execOp; rw [h]
  rcases hg with rfl | rfl <;> simp [hx, hy, eqGuard, hr]
theorem MapG.made : MapG C P k W.heap.size 0 (fun _ => none) (W.alloc (.map #[] 0)) := ⟨.map [], World.ownsMap_made W P k C.R, ⟨_, rfl⟩, fun x hx => ⟨rfl, rfl⟩⟩
end
section
variable {E : Type} {C : Cod E} {P : Program} {ops : Array Oper} {L : List Nat} {a0 : Act} {w0 : World} {bor : List Nat} {X0 : List Ent} {us cr kl : List (List Nat)}
  {D : Nat → (Tmp → Value) → (Tmp → Value) → (Nat → Ent) → Prop} {i : Nat} {o : Oper} {ρ : Operand → Value} {β : Tmp → Value} {W : World} {X : Nat → Ent}
def pbg : Value → Nat
  | .map (some b) => b
  | _ => 0
theorem CtxV.mg {q k b n : Nat} {m : Int → Option E} (cx : CtxV ops L a0 w0 bor X0 us D i ρ β W X) (hX : X q = eMg C P k b n m) (hu : (atV us i).contains q = true) : MapG C P k b n m W := by
  have h := (cx.ok q hu).holds
  rw [hX] at h; exact h
theorem dv_makeMg {t d k q : Nat} (h : o.op = .makeMap t none) (hd : o.dst = some d) (hc : atV cr i = [q]) (hk : atV kl i = [])
    (hD : ∀ (σ β' : Tmp → Value) (X' : Nat → Ent), (∀ t, t ≠ d → σ t = ρ (.tmp t)) → (∀ t, t ≠ d → β' t = β t) → σ d = .map (some (pbg (β' d))) → X' q = eMg C P k (pbg (β' d)) 0 (fun _ => none) → D i σ β' X') : DoesU P o ρ W (PostV cr kl D i o.dst ρ β W X) := by
  refine DoesU.value (v := .map (some W.heap.size)) (w' := W.alloc (.map #[] 0)) (by unfold execOp; rw [h]; rfl) ?_
  refine post_call [eMg C P k W.heap.size 0 (fun _ => none)] hk (by rw [hc]; rfl) ((Ext.refl W).alloc _) (one_new ⟨MapG.made, eMg_loc _ _ _ _ _, fun k' hk' => ?_⟩) (List.pairwise_singleton _ _) (fun σ β' X' hs hb hv hN => ?_)
  · have : k' = W.heap.size := by simpa [eMg] using hk'
    subst this
    exact ⟨Nat.le_refl _, by simp⟩
  · have hv1 := (hv d hd).1; have hv2 := (hv d hd).2
    rw [hc] at hN
    refine hD σ β' X' (fun t ht => hs t (by rw [hd]; simpa using ht.symm)) (fun t ht => hb t (by rw [hd]; simpa using ht.symm)) ?_ ?_
    · rw [hv1, hv2]; rfl
    · rw [hv2]; exact (List.cons.inj hN).1
theorem post_mapG {k b n n' q q' : Nat} {m m' : Int → Option E} {W' : World} (hX : X q = eMg C P k b n m) (h1 : MapG C P k b n' m' W') (h2 : Upd [b] W W') (hc : atV cr i = [q']) (hkl : atV kl i = [q]) :
    ([eMg C P k b n' m'].length = (atV cr i).length) ∧ (Upd ((atV kl i).flatMap fun q => (X q).fp) W W') ∧ ∀ e' ∈ [eMg C P k b n' m'], e'.holds W' ∧ e'.loc ∧ ∀ k' ∈ e'.fp, (k' ∈ ((atV kl i).flatMap fun q => (X q).fp) ∨ W.heap.size ≤ k') ∧ k' < W'.heap.size := by
  refine ⟨by rw [hc]; rfl, ?_, fun e' he' => ?_⟩
  · rw [hkl]
    simp only [List.flatMap_cons, List.flatMap_nil, List.append_nil, hX]
    exact h2
  · rw [List.mem_singleton] at he'
    subst he'
    refine ⟨h1, eMg_loc _ _ _ _ _, fun k' hk' => ?_⟩
    have hkb : k' = b := by simpa [eMg] using hk'
    subst hkb
    refine ⟨.inl ?_, h1.lt⟩
    rw [hkl]
    simp [hX, eMg]
theorem dv_setMg {t k e b n q q' : Nat} {m : Int → Option E} {y z u : Operand} {x : Int} {v : E} (h : o.op = .mapUpdate t y z u ∨ o.op = .insert t y z u) (hy : ρ y = .map (some b)) (hz : ρ z = .int .i64 x) (hu : ρ u = C.enc v)
    (cx : CtxV ops L a0 w0 bor X0 us D i ρ β W X) (hX : X q = eMg C P k b n m) (hq : (atV us i).contains q = true) (hn : n < 1000000) (hx : -9223372036854775808 ≤ x ∧ x ≤ 9223372036854775807) (hd : o.dst = none) (hc : atV cr i = [q']) (hkl : atV kl i = [q])
    (hD : ∀ (σ β' : Tmp → Value) (X' : Nat → Ent), (∀ t, σ t = ρ (.tmp t)) → (∀ t, β' t = β t) → X' q' = eMg C P k b (n + 1) (putM m x (some v)) → D i σ β' X')
    (hk : P.underlying k = some (.int .i64) := by kernel_rfl) (ht : P.underlying t = some (.map k e) := by kernel_rfl) : DoesU P o ρ W (PostV cr kl D i o.dst ρ β W X) := by
  obtain ⟨W', hrun, h1, h2⟩ := run_setMg (v := v) h hy hz hu (cx.mg hX hq) hn hx hk ht
  obtain ⟨a1, a2, a3⟩ := post_mapG (cr := cr) (kl := kl) (i := i) hX h1 h2 hc hkl
  refine DoesU.skip hrun ⟨[eMg C P k b (n + 1) (putM m x (some v))], a1, ⟨a2, a3, List.pairwise_singleton _ _⟩, fun σ β' X' hs hv hb' hbv hx' hN => hD σ β' X' (fun t => hs t (by rw [hd]; simp)) (fun t => hb' t (by rw [hd]; simp)) ?_⟩
  rw [hc] at hN
  exact (List.cons.inj hN).1
theorem dv_delMg {c : Call} {t k e b n q q' : Nat} {m : Int → Option E} {y z : Operand} {x : Int} (h : o.op = .call c) (hcc : c.callee = .builtin .delete) (ha : c.args = #[y, z]) (hat : c.argTypes = #[t, k]) (hy : ρ y = .map (some b)) (hz : ρ z = .int .i64 x)
    (cx : CtxV ops L a0 w0 bor X0 us D i ρ β W X) (hX : X q = eMg C P k b n m) (hq : (atV us i).contains q = true) (hx : -9223372036854775808 ≤ x ∧ x ≤ 9223372036854775807) (hd : o.dst = none) (hc : atV cr i = [q']) (hkl : atV kl i = [q])
    (hD : ∀ (σ β' : Tmp → Value) (X' : Nat → Ent), (∀ t, σ t = ρ (.tmp t)) → (∀ t, β' t = β t) → X' q' = eMg C P k b n (putM m x none) → D i σ β' X')
    (hk : P.underlying k = some (.int .i64) := by kernel_rfl) (ht : P.underlying t = some (.map k e) := by kernel_rfl) : DoesU P o ρ W (PostV cr kl D i o.dst ρ β W X) := by
  obtain ⟨W', hrun, h1, h2⟩ := run_delMg h hcc ha hat hy hz (cx.mg hX hq) hx hk ht
  obtain ⟨a1, a2, a3⟩ := post_mapG (cr := cr) (kl := kl) (i := i) hX h1 h2 hc hkl
  refine DoesU.value hrun ⟨[eMg C P k b n (putM m x none)], a1, ⟨a2, a3, List.pairwise_singleton _ _⟩, fun σ β' X' hs hv hb' hbv hx' hN => hD σ β' X' (fun t => hs t (by rw [hd]; simp)) (fun t => hb' t (by rw [hd]; simp)) ?_⟩
  rw [hc] at hN
  exact (List.cons.inj hN).1
end
theorem CtxV.holdE {ops : Array Oper} {L : List Nat} {a0 : Act} {w0 : World} {bor : List Nat} {X0 : List Ent} {us : List (List Nat)} {D : Nat → (Tmp → Value) → (Tmp → Value) → (Nat → Ent) → Prop} {i : Nat} {ρ : Operand → Value} {β : Tmp → Value} {W : World} {X : Nat → Ent} {q : Nat} {E : Ent} (cx : CtxV ops L a0 w0 bor X0 us D i ρ β W X) (hX : X q = E) (hu : (atV us i).contains q = true) : E.holds W := by
  have h := (cx.ok q hu).holds
  rw [hX] at h; exact h
/-- a block that stays as it was -/
def eQ (q : Nat) (x : Option Obj) : Ent := ⟨[q], fun W => W.heap[q]? = x⟩
theorem eQ_loc (q : Nat) (x : Option Obj) : (eQ q x).loc := fun W W' h hb => (h q (by simp [eQ])).trans hb
theorem Upd.same2 {b q : Nat} {w W : World} (h : Upd [b, q] w W) (hb : W.heap[b]? = w.heap[b]?) (hq : W.heap[q]? = w.heap[q]?) : Ext w W := by
  refine Upd.to_ext ⟨h.os, h.tape, h.output, h.size, fun k hk _ => ?_⟩
  by_cases e : k = b
  · rw [e]; exact hb
  · by_cases e2 : k = q
    · rw [e2]; exact hq
    · exact h.block k hk (by simp [e, e2])
theorem Upd.snd {b q : Nat} {w W : World} (h : Upd [b, q] w W) (hb : W.heap[b]? = w.heap[b]?) : Upd [q] w W := ⟨h.os, h.tape, h.output, h.size, fun k hk hn => by
  by_cases e : k = b
  · rw [e]; exact hb
  · exact h.block k hk (by simp at hn ⊢; exact ⟨e, hn⟩)⟩
end
end Go.Proofs.YtjnplglnnamfdaaGreatDoor
namespace Go.Proofs.YtjnplglnnamfdaaGreatDoor
section
open Go.RowKit
set_option linter.unusedVariables false
set_option linter.unusedSimpArgs false
abbrev KN := Bool × Int
def knC : Cod KN where
  enc e := .agg #[.bool e.1, .int .i64 e.2]
  dat e := .agg [.lit (.bool e.1), .lit (.int .i64 e.2)]
  R v := match v with
    | .agg cs => match cs.toList with
      | [.bool b, .int .i64 n] => some (.agg [.lit (.bool b), .lit (.int .i64 n)], [])
      | _ => none
    | _ => none
  e0 := (false, 0)
  read e := rfl
  back v d ps e h hd := by
    subst hd
    split at h
    · rename_i cs
      split at h
      · rename_i b n hc
        simp only [Option.some.injEq, Prod.mk.injEq] at h
        obtain ⟨h1, _⟩ := h
        injection h1 with h2
        simp only [List.cons.injEq, DataW.lit.injEq, Lit.bool.injEq, Lit.int.injEq, and_true] at h2
        obtain ⟨rfl, h3⟩ := h2
        have : cs = #[.bool e.1, .int .i64 n] := by
          apply Array.toList_inj.1; rw [hc]
        rw [this]
        simp_all
      · cases h
    · cases h
abbrev VM (w : World) (b q n : Nat) (m : Int → Option KN) : Prop := Blk w b 228 #[.map (some q)] ∧ MapG knC Tryz.prog 3 q n m w
theorem St.lentM {w : World} {b q n : Nat} {m : Int → Option KN} (h : VM w b q n m) : St w [b, q] [eB b 228 #[.map (some q)], eMg knC Tryz.prog 3 q n m] w := by
  have hne : b ≠ q := by
    rintro rfl
    obtain ⟨h1, D, ⟨es, clock, h2, _⟩, _⟩ := h
    have h3 : w.heap[b]? = _ := h1
    rw [h2] at h3
    cases h3
  refine ⟨Upd.refl _ _, fun x hx => ?_, List.pairwise_pair.2 fun k hk hk' => by simp [eB] at hk; simp [eMg] at hk'; omega⟩
  simp only [List.mem_cons, List.not_mem_nil, or_false] at hx
  rcases hx with rfl | rfl
  · exact ⟨h.1, eB_loc _ _ _, fun k hk => ⟨.inl (by simp [eB] at hk; simp [hk]), by simp [eB] at hk; subst hk; exact h.1.lt⟩⟩
  · exact ⟨h.2, eMg_loc _ _ _ _ _, fun k hk => ⟨.inl (by simp [eMg] at hk; simp [hk]), by simp [eMg] at hk; subst hk; exact h.2.lt⟩⟩
theorem St.lentR {w : World} {b q n : Nat} {m : Int → Option KN} (h : VM w b q n m) : St w [b, q] [eB b 228 #[.map (some q)], eQ q w.heap[q]?] w := by
  have h0 := St.lentM h
  refine ⟨h0.upd, fun x hx => ?_, ?_⟩
  · simp only [List.mem_cons, List.not_mem_nil, or_false] at hx
    rcases hx with rfl | rfl
    · exact h0.ok _ (by simp)
    · exact ⟨rfl, eQ_loc _ _, fun k hk => ⟨.inl (by simp [eQ] at hk; simp [hk]), by simp [eQ] at hk; subst hk; exact h.2.lt⟩⟩
  · have h1 := h0.apart
    rw [List.pairwise_pair] at h1 ⊢
    exact h1
theorem VM.ro {w : World} {b q n : Nat} {m : Int → Option KN} (h : VM w b q n m) : ∀ W : World, W.heap[q]? = w.heap[q]? → MapG knC Tryz.prog 3 q n m W := fun W hW =>
  (eMg_loc (C := knC) Tryz.prog 3 q n m) w W (fun k hk => (by rw [List.mem_singleton.1 hk]; exact hW)) h.2
def VPost (b q n : Nat) (m : Int → Option KN) (w : World) (e : Ending) (w' : World) : Prop := e = .returned (.tuple #[]) ∧ MapG knC Tryz.prog 3 q n m w' ∧ Upd [q] w w'
def roomM (m : Int → Option KN) (rm : Int) : List Int → Int
  | [] => -1
  | s :: l => if (m s).isSome && decide (((m s).getD (false, 0)).2 ≥ rm) then s else roomM m rm l
theorem roomM_at {m : Int → Option KN} {rm : Int} {ss : List Int} {k : Nat} (h : k < ss.length) : roomM m rm (ss.drop k) = if (m (ss.getD k 0)).isSome && decide (((m (ss.getD k 0)).getD (false, 0)).2 ≥ rm) then ss.getD k 0 else roomM m rm (ss.drop (k + 1)) := by
  rw [List.drop_eq_getElem_cons h, roomM, List.getD_eq_getElem?_getD, List.getElem?_eq_getElem h, Option.getD_some]
set_option maxRecDepth 100000 in
set_option maxHeartbeats 2000000 in
theorem vchange_any (b q n : Nat) (m : Int → Option KN) (x : Int) (w : World) (hV : VM w b q n m) (hx : -9223372036854775808 ≤ x ∧ x ≤ 9223372036854775807) :
    Calls Tryz.prog 51 #[.pointer (some ⟨b, 0, none⟩), .int .i64 x] w (VPost b q n (putM m x none) w) := by
  have st0 := St.lentM hV
  go_enter Tryz.func51, Tryz.ntmps51
  have hst0 := st0
  refine wp_seq (wp_region_Z [0, 1] [] [.k 4 (vp b), .c 5 (.bool true)] [0, 1] [1] [(4, 0, 2, 6)] hst0 ?_ fun W1 hst1 => ?_)
  · refine ⟨?_, trivial⟩
    · exact sv0 rfl rfl rfl rfl rfl (fun _ _ _ h => h) fun ρ β W X cx => by
        have fF4 : ρ (.tmp 4) = vp b := (cx.an 0)
        simp [go_sem, cx.sees.const, fF4]
  refine then_normal (wp_cond_true (show Act.eval _ _ = .bool true from rfl) (wp_region_Y [0, 1, 3, 7, 0, 31] [[], [], [], [0], [], [1]] [[], [], [], [], [], [2]] [[], [], [], [], [], [1]] [.k 6 (vp b), .k 7 (vp b), .k 8 (vp b), .c 9 (.map (some q)), .k 10 (vi x), .n] (fun ix σ β X => match ix with | 0 => True | 1 => True | 2 => True | 3 => True | 4 => True | 5 => X 2 = eMg knC Tryz.prog 3 q n (putM m x none) | _ => True) [0, 2] [3, 5] [(6, 0, 5, 11)] hst1 ?_ ?_ ?_))
  · exact fun ix _ _ _ _ _ _ hs hb hx h => match ix, h with
    | 5, h => by dsimp only at h ⊢; rw [← hx 2 rfl]; exact h
    | 0, _ | 1, _ | 2, _ | 3, _ | 4, _ | _ + 6, _ => trivial
  · refine ⟨?_, ?_, trivial⟩
    · exact xs4 rfl id fun cx => run_load1 rfl (by kernel_rfl) (cx.an 2) ((cx.bi 0 rfl).cell 0)
    · refine sv_any rfl rfl fun ρ β W X cx => ?_
      exact dv_delMg (e := 230) rfl rfl rfl rfl (cx.an 3) (cx.an 4) cx (cx.init 1 _ rfl) rfl (by omega) rfl rfl rfl (fun σ β' X' hs hb hx => hx)
  intro σ β X W2 hD hst2 fr hfr
  simp only [exq 2 ((dTn (hD 5 lq)))] at hst2
  clear hD; subst hfr; clear σ β X
  refine bodyPost_end (v := .tuple #[]) (by simp [results, Tryz.results51, go_sem]) rfl ?_
  exact ⟨rfl, (hst2.get 1 rfl).holds, hst2.upd.snd ((hst2.blk 0 rfl).trans hV.1.symm)⟩
set_option maxRecDepth 100000 in
set_option maxHeartbeats 2000000 in
theorem vallv_any (b q n : Nat) (m : Int → Option KN) (x : Int) (w : World) (hV : VM w b q n m) (hx : -9223372036854775808 ≤ x ∧ x ≤ 9223372036854775807) :
    Calls Tryz.prog 56 #[.pointer (some ⟨b, 0, none⟩), .int .i64 x] w (Ret (.bool ((m x).getD (false, 0)).1) w) := by
  have st0 := St.lentR hV
  have hro := hV.ro
  go_enter Tryz.func56, Tryz.ntmps56
  have hst0 := st0
  refine wp_seq (wp_region_P [0] [.k 4 (.bool false)] [(4, 0, 1, 5)] hst0 fun W1 hst1 => ?_)
  refine then_normal (wp_seq (wp_region_Z [0, 1, 3, 7, 15, 31, 63, 7, 255, 511, 1023, 2047] [[], [], [], [], [], [], [0], [], [1]] [.k 5 (vp b), .c 6 (.bool true), .k 7 (.bool true), .k 8 (vp b), .k 9 (vp b), .k 10 (vp b), .c 11 (.map (some q)), .k 12 (vi x), .c 13 (.agg #[.bool (((m x).getD (false, 0)).1), vi (((m x).getD (false, 0)).2)]), .c 14 (.bool (((m x).getD (false, 0)).1)), .k 15 (.bool (((m x).getD (false, 0)).1)), .k 4 (.bool (((m x).getD (false, 0)).1))] [0, 1] [1, 6, 8, 9] [(4, 11, 1, 5), (0, 0, 11, 11)] hst1 ?_ fun W2 hst2 => ?_))
  · refine ⟨?_, ?_, ?_, ?_, trivial⟩
    · exact sv0 rfl rfl rfl rfl rfl (fun _ _ _ h => h) fun ρ β W X cx => by
        have fF5 : ρ (.tmp 5) = vp b := (cx.an 0)
        simp [go_sem, cx.sees.const, fF5]
    · exact xs5 rfl id (fun cx => (cx.an 2)) fun cx => run_load1 rfl (by kernel_rfl) (cx.an 5) ((cx.bi 0 rfl).cell 0)
    · exact xs5 rfl id (fun cx => (cx.an 2)) fun cx => run_lookMg (e := 230) rfl (cx.an 6) (cx.an 7) (hro _ (CtxV.holdE cx (cx.init 1 _ rfl) rfl)) (h0 := (by rfl)) (hx := by omega)
    · exact xs5 rfl id (fun cx => (cx.an 2)) fun cx => run_fieldV rfl (cx.an 8) (fun _ => by kernel_rfl)
  refine then_normal (wp_ret ?_)
  refine bodyPost_ret (v := .bool (((m x).getD (false, 0)).1)) (results_tmp Tryz.results56 rfl) rfl ?_
  exact Ret.bool rfl (hst2.upd.same2 ((hst2.blk 0 rfl).trans hV.1.symm) (hst2.get 1 rfl).holds)
set_option maxRecDepth 100000 in
set_option maxHeartbeats 2000000 in
theorem vallv_nil (x : Int) (w : World) :
    Calls Tryz.prog 56 #[.pointer none, .int .i64 x] w (Ret (.bool false) w) := by
  go_enter Tryz.func56, Tryz.ntmps56
  have hst0 := St.start w
  refine wp_seq (wp_region_P [0] [.k 4 (.bool false)] [(4, 0, 1, 5)] hst0 fun W1 hst1 => ?_)
  refine then_normal (wp_seq (wp_region_Z [0, 1, 3, 7, 15, 31, 63, 7, 255, 511, 1023, 2047] [] [.k 5 (.pointer none), .c 6 (.bool false), .k 7 (.bool false), .u 8, .u 9, .u 10, .u 11, .u 12, .u 13, .u 14, .k 15 (.bool false), .k 4 (.bool false)] [] [1] [(4, 11, 1, 5), (0, 0, 11, 11)] hst1 ?_ fun W2 hst2 => ?_))
  · refine ⟨?_, trivial⟩
    · exact sv0 rfl rfl rfl rfl rfl (fun _ _ _ h => h) fun ρ β W X cx => by
        have fF5 : ρ (.tmp 5) = .pointer none := (cx.an 0)
        simp [go_sem, cx.sees.const, fF5]
  refine then_normal (wp_ret ?_)
  refine bodyPost_ret (v := .bool false) (results_tmp Tryz.results56 rfl) rfl ?_
  exact Ret.bool rfl hst2.ext
set_option maxRecDepth 100000 in
set_option maxHeartbeats 2000000 in
theorem vroom_any (b q n : Nat) (m : Int → Option KN) (SA : Option Addr) (sc : Nat) (ss : List Int) (rm : Int) (w : World) (hV : VM w b q n m) (hA : At w SA (ss.map (Value.int .i64))) (hl : ss.length ≤ 100000) (hss : ∀ x ∈ ss, -9223372036854775808 ≤ x ∧ x ≤ 9223372036854775807) :
    Calls Tryz.prog 54 #[.pointer (some ⟨b, 0, none⟩), .slice SA ss.length sc, .int .i64 rm] w (Ret (.int .i64 (roomM m rm ss)) w) := by
  have st0 := St.lentR hV
  have hro := hV.ro
  go_enter Tryz.func54, Tryz.ntmps54
  have hst0 := st0
  refine wp_seq (wp_region_P [0] [.k 6 (vi 0)] [(6, 0, 1, 7)] hst0 fun W1 hst1 => ?_)
  refine then_normal (wp_seq (wp_seq (wp_region_P [0, 1, 0] [.k 11 (.slice SA ss.length sc), .k 12 (vi ((ss.length : Int))), .k 13 (vi 0)] [(11, 0, 3, 14)] hst1 fun W2 hst2 => ?_)))
  refine then_normal (wp_block ?_)
  refine wp_loopN (fun mz az W => ∃ k : Nat, ∃ u3_ : List Value, k ≤ ss.length ∧ roomM m rm ss = roomM m rm (ss.drop k) ∧ mz = ss.length - k ∧ az = ⟨#[vp b, .slice SA ss.length sc, vi rm, undef, undef, undef, (gu u3_ 0), undef, (gu u3_ 1), (gu u3_ 2), (gu u3_ 3), .slice SA ss.length sc, vi ((ss.length : Int)), vi ((k : Int)), (gu u3_ 4), (gu u3_ 5), (gu u3_ 6), (gu u3_ 7), (gu u3_ 8), (gu u3_ 9), (gu u3_ 10), (gu u3_ 11), (gu u3_ 12), (gu u3_ 13), (gu u3_ 14), (gu u3_ 15), (gu u3_ 16), (gu u3_ 17), (gu u3_ 18), (gu u3_ 19), (gu u3_ 20), (gu u3_ 21), (gu u3_ 22), (gu u3_ 23), (gu u3_ 24), (gu u3_ 25), (gu u3_ 26)], []⟩ ∧ St w [b, q] [eB b 228 #[.map (some q)], eQ q (w.heap[q]?)] W) (ss.length - 0) ?_ ?_
  · -- the loop begins
    have hp4 := hst2.pick [0, 1] (by decide) rfl
    exact ⟨0, [vi 0, undef, undef, undef, undef, undef, undef, undef, undef, undef, undef, undef, undef, undef, undef, undef, undef, undef, undef, undef, undef, undef, undef, undef, undef, undef, undef], Nat.zero_le _, rfl, rfl, rfl, hp4⟩
  rintro n3 a3 W3 ⟨k, u3_, hk, hkr, rfl, rfl, hst3⟩
  refine wp_seq (wp_region_P [0] [.k 14 (.bool (decide ((k : Int) < (ss.length : Int))))] [(14, 0, 1, 15)] hst3 fun W5 hst5 => ?_)
  refine then_normal (wp_seq ?_)
  rcases Bool.eq_false_or_eq_true (decide ((k : Int) < (ss.length : Int))) with hs6 | hs6
  · skip
    have hs6p : (k : Int) < (ss.length : Int) := by simpa using hs6
    refine wp_cond_true (show Act.eval _ _ = .bool true from (congrArg Value.bool hs6)) (wp_skip (then_normal (wp_seq (wp_block (wp_seq (wp_region_Z [0, 1, 3] [[0, 1], [0, 1]] [.c 15 (.pointer (some ((ad SA).add k))), .c 16 (vi (ss.getD k 0)), .k 8 (vi (ss.getD k 0))] [0, 1] [0, 1] [(8, 2, 1, 9), (6, 0, 2, 8)] hst5 ?_ fun W7 hst7 => ?_))))))
    · refine ⟨?_, ?_, trivial⟩
      · exact xs4 rfl id fun cx => run_indexSl (e := 3) (m := k) rfl (by kernel_rfl) (by kernel_rfl) (cx.ou 11) (cx.ou 13) (by omega) (by omega) (hA.ext (cx.upd.same2 ((cx.bi 0 rfl).trans hV.1.symm) (CtxV.holdE cx (cx.init 1 _ rfl) rfl))) (by simp)
      · exact xs4 rfl id fun cx => run_load1 rfl (by kernel_rfl) (cx.an 0) (At.cellAd (hA.ext (cx.upd.same2 ((cx.bi 0 rfl).trans hV.1.symm) (CtxV.holdE cx (cx.init 1 _ rfl) rfl))) (getD_int (by omega)))
    refine then_normal (wp_seq (wp_seq (wp_region_Z [0, 1] [] [.k 17 (vp b), .c 18 (.bool false)] [0, 1] [1] [(17, 0, 2, 19)] hst7 ?_ fun W8 hst8 => ?_)))
    · refine ⟨?_, trivial⟩
      · exact sv0 rfl rfl rfl rfl rfl (fun _ _ _ h => h) fun ρ β W X cx => by
          have fF17 : ρ (.tmp 17) = vp b := (cx.an 0)
          simp [go_sem, cx.sees.const, fF17]
    refine then_normal (wp_cond_false (show Act.eval _ _ = .bool false from rfl) (wp_skip (then_normal (wp_seq ?_))))
    have hxk := hss (ss.getD k 0) (by rw [List.getD_eq_getElem?_getD, List.getElem?_eq_getElem (by omega), Option.getD_some]; exact List.getElem_mem _)
    refine wp_region_Y [0, 1, 3, 7, 0, 31, 63, 127, 127, 0, 767, 2047] [[], [], [], [0], [], [1], [], [], [], [], [2]] [[], [], [], [], [], [], [], [], [], [2], [3]] [[], [], [], [], [], [], [], [], [], [], [2]] [.k 20 (vp b), .k 21 (vp b), .k 22 (vp b), .c 23 (.map (some q)), .k 24 (vi (ss.getD k 0)), .c 25 (.tuple #[.agg #[.bool (((m (ss.getD k 0)).getD (false, 0)).1), vi (((m (ss.getD k 0)).getD (false, 0)).2)], .bool ((m (ss.getD k 0)).isSome)]), .k 19 (.tuple #[.agg #[.bool (((m (ss.getD k 0)).getD (false, 0)).1), vi (((m (ss.getD k 0)).getD (false, 0)).2)], .bool ((m (ss.getD k 0)).isSome)]), .k 26 (.agg #[.bool (((m (ss.getD k 0)).getD (false, 0)).1), vi (((m (ss.getD k 0)).getD (false, 0)).2)]), .k 27 (.bool ((m (ss.getD k 0)).isSome)), .a 9, .n, .k 10 (.bool ((m (ss.getD k 0)).isSome))] (fun ix σ β X => match ix with | 0 => True | 1 => True | 2 => True | 3 => True | 4 => True | 5 => True | 6 => True | 7 => True | 8 => True | 9 => σ 9 = vp (pb (β 9)) ∧ X 2 = eB (pb (β 9)) 230 #[.bool false, vi 0] | 10 => X 3 = eB (pb (β 9)) 230 #[.bool (((m (ss.getD k 0)).getD (false, 0)).1), vi (((m (ss.getD k 0)).getD (false, 0)).2)] | _ => True) [0, 1, 3] [3, 5, 9, 10] [(9, 9, 3, 11), (8, 6, 1, 9), (0, 0, 6, 6), (0, 7, 2, 2)] hst8 ?_ ?_ ?_
    · exact fun ix _ _ _ _ _ _ hs hb hx h => match ix, h with
      | 9, h => by dsimp only at h ⊢; rw [← hs 9 rfl, ← hb 9 rfl, ← hx 2 rfl]; exact h
      | 10, h => by dsimp only at h ⊢; rw [← hb 9 rfl, ← hx 3 rfl]; exact h
      | 0, _ | 1, _ | 2, _ | 3, _ | 4, _ | 5, _ | 6, _ | 7, _ | 8, _ | _ + 11, _ => trivial
    · refine ⟨?_, ?_, ?_, ?_, trivial⟩
      · exact xs4 rfl id fun cx => run_load1 rfl (by kernel_rfl) (cx.an 2) ((cx.bi 0 rfl).cell 0)
      · exact xs4 rfl id fun cx => run_lookOkMg (e := 230) rfl (cx.an 3) (cx.an 4) (hro _ (CtxV.holdE cx (cx.init 1 _ rfl) rfl)) (h0 := (by rfl)) (hx := by omega)
      · refine sv_any rfl rfl fun ρ β W X cx => ?_
        exact dv_alloc (cs := #[.bool false, vi 0]) rfl (by kernel_rfl) rfl rfl (fun σ β' X' hs hb hv hx => ⟨hv, hx⟩)
      · refine sv_any rfl rfl fun ρ β W X cx => ?_
        exact dv_store (n := 2) rfl (dTn (cx.an 9)).1 (cx.an 7) (by kernel_rfl) (by kernel_rfl) (by kernel_rfl) cx (dTn (cx.an 9)).2 rfl (nle rfl) (by kernel_rfl) rfl rfl rfl (fun σ β' X' hs hb hx => by rw [hb 9]; exact hx)
    intro σ β X W9 hD hst9 fr hfr
    obtain ⟨B9_9, hu_B9_9⟩ : ∃ z, pb (β 9) = z := ⟨_, rfl⟩
    simp only [exq 3 ((dTn (hD 10 lq))), hu_B9_9] at hst9
    simp only [ed 9 ((dTn (hD 9 lq)).1), hu_B9_9] at hfr
    clear hD hu_B9_9; subst hfr; clear σ β X
    refine then_normal (wp_seq (wp_region_Z [0, 1, 3, 7, 3, 31, 63] [[], [], [], [2]] [.k 28 (.bool ((m (ss.getD k 0)).isSome)), .k 29 (.bool ((m (ss.getD k 0)).isSome)), .z 30 ((m (ss.getD k 0)).isSome) (.pointer (some ⟨B9_9, 1, none⟩)), .y 31 ((m (ss.getD k 0)).isSome) (vi (((m (ss.getD k 0)).getD (false, 0)).2)), .z 32 ((m (ss.getD k 0)).isSome) (vi rm), .z 33 ((m (ss.getD k 0)).isSome) (.bool (decide (rm ≤ ((m (ss.getD k 0)).getD (false, 0)).2))), tA 34 ((m (ss.getD k 0)).isSome) (decide (rm ≤ ((m (ss.getD k 0)).getD (false, 0)).2))] [0, 1, 2] [3] [(28, 0, 7, 35)] hst9 ?_ fun W10 hst10 => ?_))
    · refine ⟨?_, trivial⟩
      · exact m2 rfl (fun _ _ _ h => h) (fun cx => (cx.an 1)) fun cx hq => run_load1 rfl (by kernel_rfl) (mbv (cx.an 2) hq) ((cx.bi 2 rfl).cell 1)
    refine then_normal ?_
    rcases Bool.eq_false_or_eq_true (((m (ss.getD k 0)).isSome) && (decide (rm ≤ ((m (ss.getD k 0)).getD (false, 0)).2))) with hs11 | hs11
    · skip
      have hs11p := hs11
      simp only [zB] at hs11p
      obtain ⟨hs11p1, hs11p2⟩ := hs11p
      refine wp_cond_true (show Act.eval _ _ = .bool true from (congrArg Value.bool hs11)) (wp_seq (wp_region_P [0, 1] [.k 35 (vi (ss.getD k 0)), .k 6 (vi (ss.getD k 0))] [(6, 1, 1, 7), (28, 0, 1, 29)] hst10 fun W12 hst12 => ?_))
      refine then_normal (wp_ret (blk_ret (then_ret (then_ret (blk_ret (then_ret ?_))))))
      refine bodyPost_ret (v := vi (ss.getD k 0)) (results_tmp Tryz.results54 rfl) rfl ?_
      exact Ret.of (by rw [hkr, roomM_at (by omega), hs11]; rfl) (hst12.upd.same2 ((hst12.blk 0 rfl).trans hV.1.symm) (hst12.get 1 rfl).holds)
    have hs11p := hs11
    simp only [zB] at hs11p
    refine wp_cond_false (show Act.eval _ _ = .bool false from (congrArg Value.bool hs11)) (wp_skip (blk_normal (then_normal (wp_region_P [0, 1] [tI 36 ((k : Int) + 1) (by omega), .k 13 (vi ((k : Int) + 1))] [(13, 1, 1, 14), (22, 0, 1, 23)] hst10 fun W13 hst13 => ?_))))
    refine then_normal ?_
    refine ⟨ss.length - ((k + 1)), by omega, ?_⟩
    have hp14 := hst13.pick [0, 1] (by decide) rfl
    exact ⟨(k + 1), [(gu u3_ 0), vi (ss.getD k 0), vp B9_9, .bool ((m (ss.getD k 0)).isSome), .bool (decide ((k : Int) < (ss.length : Int))), .pointer (some ((ad SA).add k)), vi (ss.getD k 0), vp b, .bool false, .tuple #[.agg #[.bool (((m (ss.getD k 0)).getD (false, 0)).1), vi (((m (ss.getD k 0)).getD (false, 0)).2)], .bool ((m (ss.getD k 0)).isSome)], vp b, vp b, vp b, .map (some q), vi (ss.getD k 0), .tuple #[.agg #[.bool (((m (ss.getD k 0)).getD (false, 0)).1), vi (((m (ss.getD k 0)).getD (false, 0)).2)], .bool ((m (ss.getD k 0)).isSome)], .agg #[.bool (((m (ss.getD k 0)).getD (false, 0)).1), vi (((m (ss.getD k 0)).getD (false, 0)).2)], .bool ((m (ss.getD k 0)).isSome), .bool ((m (ss.getD k 0)).isSome), .bool ((m (ss.getD k 0)).isSome), mb ((m (ss.getD k 0)).isSome) (.pointer (some ⟨B9_9, 1, none⟩)), mb ((m (ss.getD k 0)).isSome) (vi (((m (ss.getD k 0)).getD (false, 0)).2)), mb ((m (ss.getD k 0)).isSome) (vi rm), mb ((m (ss.getD k 0)).isSome) (.bool (decide (rm ≤ ((m (ss.getD k 0)).getD (false, 0)).2))), .bool (((m (ss.getD k 0)).isSome) && (decide (rm ≤ ((m (ss.getD k 0)).getD (false, 0)).2))), (gu u3_ 25), vi ((k : Int) + 1)], by omega, by rw [hkr, roomM_at (by omega), hs11]; rfl, rfl, rfl, hp14⟩
  have hs6p : ¬ ((k : Int) < (ss.length : Int)) := by simpa using hs6
  refine wp_cond_false (show Act.eval _ _ = .bool false from (congrArg Value.bool hs6)) (wp_exit (then_exit (then_exit (blk_eq (then_normal (wp_seq (wp_region_P [0] [.k 6 (vi (-1))] [(6, 0, 1, 7)] hst5 fun W15 hst15 => ?_)))))))
  refine then_normal (wp_ret ?_)
  refine bodyPost_ret (v := vi (-1)) (results_tmp Tryz.results54 rfl) rfl ?_
  exact Ret.of (by rw [hkr, List.drop_of_length_le (by omega)]; rfl) (hst15.upd.same2 ((hst15.blk 0 rfl).trans hV.1.symm) (hst15.get 1 rfl).holds)
set_option maxRecDepth 100000 in
set_option maxHeartbeats 2000000 in
theorem vroom_nil (SA : Option Addr) (sc : Nat) (ss : List Int) (rm : Int) (w : World) (hA : At w SA (ss.map (Value.int .i64))) (hl : ss.length ≤ 100000) (hss : ∀ x ∈ ss, -9223372036854775808 ≤ x ∧ x ≤ 9223372036854775807) :
    Calls Tryz.prog 54 #[.pointer none, .slice SA ss.length sc, .int .i64 rm] w (Ret (.int .i64 (-1)) w) := by
  go_enter Tryz.func54, Tryz.ntmps54
  have hst0 := St.start w
  refine wp_seq (wp_region_P [0] [.k 6 (vi 0)] [(6, 0, 1, 7)] hst0 fun W1 hst1 => ?_)
  refine then_normal (wp_seq (wp_seq (wp_region_P [0, 1, 0] [.k 11 (.slice SA ss.length sc), .k 12 (vi ((ss.length : Int))), .k 13 (vi 0)] [(11, 0, 3, 14)] hst1 fun W2 hst2 => ?_)))
  refine then_normal (wp_block ?_)
  refine wp_loopN (fun mz az W => ∃ u3_ : List Value, True ∧ mz = 0 ∧ az = ⟨#[.pointer none, .slice SA ss.length sc, vi rm, undef, undef, undef, (gu u3_ 0), undef, (gu u3_ 1), (gu u3_ 2), (gu u3_ 3), .slice SA ss.length sc, vi ((ss.length : Int)), vi 0, (gu u3_ 4), (gu u3_ 5), (gu u3_ 6), (gu u3_ 7), (gu u3_ 8), (gu u3_ 9), (gu u3_ 10), (gu u3_ 11), (gu u3_ 12), (gu u3_ 13), (gu u3_ 14), (gu u3_ 15), (gu u3_ 16), (gu u3_ 17), (gu u3_ 18), (gu u3_ 19), (gu u3_ 20), (gu u3_ 21), (gu u3_ 22), (gu u3_ 23), (gu u3_ 24), (gu u3_ 25), (gu u3_ 26)], []⟩ ∧ St w [] [] W) (0) ?_ ?_
  · -- the loop begins
    have hp4 := hst2.pick [] (by decide) rfl
    exact ⟨[vi 0, undef, undef, undef, undef, undef, undef, undef, undef, undef, undef, undef, undef, undef, undef, undef, undef, undef, undef, undef, undef, undef, undef, undef, undef, undef, undef], trivial, rfl, rfl, hp4⟩
  rintro n3 a3 W3 ⟨u3_, -, rfl, rfl, hst3⟩
  refine wp_seq (wp_region_P [0] [.k 14 (.bool (decide (0 < (ss.length : Int))))] [(14, 0, 1, 15)] hst3 fun W5 hst5 => ?_)
  refine then_normal (wp_seq ?_)
  rcases Bool.eq_false_or_eq_true (decide (0 < (ss.length : Int))) with hs6 | hs6
  · skip
    have hs6p : 0 < (ss.length : Int) := by simpa using hs6
    refine wp_cond_true (show Act.eval _ _ = .bool true from (congrArg Value.bool hs6)) (wp_skip (then_normal (wp_seq (wp_block (wp_seq (wp_region_Z [0, 1, 3] [] [.c 15 (.pointer (some ((ad SA).add 0))), .c 16 (vi (ss.getD 0 0)), .k 8 (vi (ss.getD 0 0))] [] [0, 1] [(8, 2, 1, 9), (6, 0, 2, 8)] hst5 ?_ fun W7 hst7 => ?_))))))
    · refine ⟨?_, ?_, trivial⟩
      · exact xs4 rfl id fun cx => run_indexSl (e := 3) (m := 0) rfl (by kernel_rfl) (by kernel_rfl) (cx.ou 11) (cx.ou 13) (by omega) (by omega) (hA.ext cx.upd.to_ext) (by simp)
      · exact xs4 rfl id fun cx => run_load1 rfl (by kernel_rfl) (cx.an 0) (At.cellAd (hA.ext cx.upd.to_ext) (getD_int (by omega)))
    refine then_normal (wp_seq (wp_seq (wp_region_Z [0, 1] [] [.k 17 (.pointer none), .c 18 (.bool true)] [] [1] [(17, 0, 2, 19)] hst7 ?_ fun W8 hst8 => ?_)))
    · refine ⟨?_, trivial⟩
      · exact sv0 rfl rfl rfl rfl rfl (fun _ _ _ h => h) fun ρ β W X cx => by
          have fF17 : ρ (.tmp 17) = .pointer none := (cx.an 0)
          simp [go_sem, cx.sees.const, fF17]
    refine then_normal (wp_cond_true (show Act.eval _ _ = .bool true from rfl) (wp_exit (then_exit (blk_ne (by decide) (then_exit (then_exit (blk_eq (then_normal (wp_seq (wp_region_P [0] [.k 6 (vi (-1))] [(6, 0, 1, 7)] hst8 fun W9 hst9 => ?_))))))))))
    refine then_normal (wp_ret ?_)
    refine bodyPost_ret (v := vi (-1)) (results_tmp Tryz.results54 rfl) rfl ?_
    exact Ret.of rfl hst9.ext
  have hs6p : ¬ (0 < (ss.length : Int)) := by simpa using hs6
  refine wp_cond_false (show Act.eval _ _ = .bool false from (congrArg Value.bool hs6)) (wp_exit (then_exit (then_exit (blk_eq (then_normal (wp_seq (wp_region_P [0] [.k 6 (vi (-1))] [(6, 0, 1, 7)] hst5 fun W10 hst10 => ?_)))))))
  refine then_normal (wp_ret ?_)
  refine bodyPost_ret (v := vi (-1)) (results_tmp Tryz.results54 rfl) rfl ?_
  exact Ret.of rfl hst10.ext
def NewPost (w : World) (e : Ending) (w' : World) : Prop := ∃ b q, e = .returned (.pointer (some ⟨b, 0, none⟩)) ∧ St w [] [eB b 228 #[.map (some q)], eMg knC Tryz.prog 3 q 0 (fun _ => none)] w'
set_option maxRecDepth 100000 in
set_option maxHeartbeats 2000000 in
theorem vnew_any  (w : World) :
    Calls Tryz.prog 49 #[] w (NewPost w) := by
  go_enter Tryz.func49, Tryz.ntmps49
  have hst0 := St.start w
  refine wp_seq (wp_region_P [0] [.k 0 (.pointer none)] [(0, 0, 1, 1)] hst0 fun W1 hst1 => ?_)
  refine then_normal (wp_seq (wp_region_Y [0, 1, 3, 7] [] [[0], [], [1]] [] [.a 1, .a 2, .a 3, .a 0] (fun ix σ β X => match ix with | 0 => σ 1 = .map (some (pbg (β 1))) ∧ X 0 = eMg knC Tryz.prog 3 (pbg (β 1)) 0 (fun _ => none) | 1 => σ 2 = .agg #[.map (some (pbg (β 1)))] | 2 => σ 3 = vp (pb (β 3)) ∧ X 1 = eB (pb (β 3)) 228 #[.map (some (pbg (β 1)))] | 3 => σ 0 = vp (pb (β 3)) | _ => True) [0, 1] [0, 1, 2, 3] [(0, 3, 1, 1), (0, 0, 3, 3)] hst1 ?_ ?_ ?_))
  · exact fun ix _ _ _ _ _ _ hs hb hx h => match ix, h with
    | 0, h => by dsimp only at h ⊢; rw [← hs 1 rfl, ← hb 1 rfl, ← hx 0 rfl]; exact h
    | 1, h => by dsimp only at h ⊢; rw [← hs 2 rfl, ← hb 1 rfl]; exact h
    | 2, h => by dsimp only at h ⊢; rw [← hs 3 rfl, ← hb 1 rfl, ← hb 3 rfl, ← hx 1 rfl]; exact h
    | 3, h => by dsimp only at h ⊢; rw [← hs 0 rfl, ← hb 3 rfl]; exact h
    | _ + 4, _ => trivial
  · refine ⟨?_, ?_, ?_, ?_, trivial⟩
    · refine sv_any rfl rfl fun ρ β W X cx => ?_
      exact dv_makeMg rfl rfl rfl rfl (fun σ β' X' hs hb hv hx => ⟨hv, hx⟩)
    · exact sv rfl rfl rfl rfl rfl _ (fun _ _ _ h => h) (fun β β' h => by rw [h 1 (by decide)]) fun ρ β W X cx => run_buildL rfl (pmc (dTn (cx.an 0)).1 pmn) (by kernel_rfl)
    · refine sv_any rfl rfl fun ρ β W X cx => ?_
      exact dv_box (cs := #[.map (some (pbg (β 1)))]) rfl (dTn (cx.an 1)) rfl rfl rfl (fun σ β' X' hs hb hv hx => ⟨hv, by rw [hb 1 (by decide)]; exact hx⟩)
    · exact sv rfl rfl rfl rfl rfl _ (fun _ _ _ h => h) (fun β β' h => by rw [h 3 (by decide)]) fun ρ β W X cx => run_assign' rfl (dTn (cx.an 2)).1
  intro σ β X W2 hD hst2 fr hfr
  obtain ⟨M1_2, hu_M1_2⟩ : ∃ z, pbg (β 1) = z := ⟨_, rfl⟩
  obtain ⟨B3_2, hu_B3_2⟩ : ∃ z, pb (β 3) = z := ⟨_, rfl⟩
  simp only [exq 0 ((dTn (hD 0 lq)).2), exq 1 ((dTn (hD 2 lq)).2), hu_M1_2, hu_B3_2] at hst2
  simp only [ed 1 ((dTn (hD 0 lq)).1), ed 2 ((dTn (hD 1 lq))), ed 3 ((dTn (hD 2 lq)).1), ed 0 ((dTn (hD 3 lq))), hu_M1_2, hu_B3_2] at hfr
  clear hD hu_M1_2 hu_B3_2; subst hfr; clear σ β X
  refine then_normal (wp_ret ?_)
  refine bodyPost_ret (v := vp B3_2) (results_tmp Tryz.results49 rfl) rfl ?_
  exact ⟨_, _, rfl, hst2.pick [1, 0] (by decide) rfl⟩
end
end Go.Proofs.YtjnplglnnamfdaaGreatDoor
namespace Go.Proofs.YtjnplglnnamfdaaGreatDoor
section
open Go.RowKit
set_option linter.unusedVariables false
set_option linter.unusedSimpArgs false
def idxL {α : Type} (p : α → Bool) (k : Int) : List α → Int
  | [] => -1
  | x :: l => if p x then k else idxL p (k + 1) l
theorem idxL_ge {α : Type} (p : α → Bool) (l : List α) : ∀ k : Int, 0 ≤ k → decide (idxL p k l ≥ 0) = l.any p := by
  induction l with
  | nil => intro k _; rfl
  | cons x l ih =>
    intro k hk
    rw [idxL, List.any_cons]
    cases p x with
    | true => rw [if_pos rfl, Bool.true_or]; exact decide_eq_true hk
    | false => rw [if_neg (by decide), Bool.false_or]; exact ih (k + 1) (by omega)
theorem idxL_at {α : Type} {p : α → Bool} {l : List α} {d : α} {k : Nat} (h : k < l.length) : idxL p (k : Int) (l.drop k) = if p (l.getD k d) then (k : Int) else idxL p ((k + 1 : Nat) : Int) (l.drop (k + 1)) := by
  rw [List.drop_eq_getElem_cons h, idxL, List.getD_eq_getElem?_getD, List.getElem?_eq_getElem h, Option.getD_some]; rfl
def notF (g : Int → Int) (hz : Int) (k : FK) : Bool := !(allF g hz k.1.2.1 k.1.2.2.1)
set_option maxRecDepth 100000 in
set_option maxHeartbeats 2000000 in
theorem look1_any (n j a b n1 n2 : Int) (ho : Bool) (RA : Option Addr) (rn rc : Nat) (p1 p2 : Nat) (hz : Int) (tt : TypeId) (tv : Value) (g : Int → Int) (w : World) (h1 : Blk w p1 3 #[.int .i64 hz]) (h2 : Blk w p2 138 #[.iface tt tv]) (hS : StOk w tt tv g) :
    Calls Tryz.prog 122 #[.agg #[.int .i64 n, .int .i64 j, .int .i64 a, .int .i64 b, .int .i64 n1, .int .i64 n2, .bool ho, .slice RA rn rc], .pointer (some ⟨p1, 0, none⟩), .pointer (some ⟨p2, 0, none⟩)] w (Ret (.bool (!(allF g hz a b))) w) := by
  go_enter Tryz.func122, Tryz.ntmps122
  have hst0 := St.start w
  refine wp_seq (wp_region_Y [0, 0] [] [[0]] [] [.a 3, .k 4 (.bool false)] (fun ix σ β X => match ix with | 0 => σ 3 = vp (pb (β 3)) ∧ X 0 = eB (pb (β 3)) 43 #[vi n, vi j, vi a, vi b, vi n1, vi n2, .bool ho, .slice RA rn rc] | _ => True) [0] [0] [(3, 0, 2, 5)] hst0 ?_ ?_ ?_)
  · exact fun ix _ _ _ _ _ _ hs hb hx h => match ix, h with
    | 0, h => by dsimp only at h ⊢; rw [← hs 3 rfl, ← hb 3 rfl, ← hx 0 rfl]; exact h
    | _ + 1, _ => trivial
  · refine ⟨?_, trivial⟩
    · refine sv_any rfl rfl fun ρ β W X cx => ?_
      exact dv_box (cs := #[vi n, vi j, vi a, vi b, vi n1, vi n2, .bool ho, .slice RA rn rc]) rfl (cx.ou 0) rfl rfl rfl (fun σ β' X' hs hb hv hx => ⟨hv, hx⟩)
  intro σ β X W1 hD hst1 fr hfr
  obtain ⟨B3_1, hu_B3_1⟩ : ∃ z, pb (β 3) = z := ⟨_, rfl⟩
  simp only [exq 0 ((dTn (hD 0 lq)).2), hu_B3_1] at hst1
  simp only [ed 3 ((dTn (hD 0 lq)).1), hu_B3_1] at hfr
  clear hD hu_B3_1; subst hfr; clear σ β X
  refine then_normal (wp_seq (wp_region_Z [0, 1, 0, 0, 15, 31, 63] [[], [0]] [.k 5 (.pointer (some ⟨B3_1, 2, none⟩)), .c 6 (.agg #[vi a, vi b, vi n1, vi n2, .bool ho, .slice RA rn rc]), .c 7 (vi hz), .c 8 (.iface tt (tv)), .c 9 (.bool ((allF g hz a b))), .k 10 (.bool (!((allF g hz a b)))), .k 4 (.bool (!((allF g hz a b))))] [0] [1, 2, 3, 4] [(4, 6, 1, 5), (0, 0, 6, 6)] hst1 ?_ fun W2 hst2 => ?_))
  · refine ⟨?_, ?_, ?_, ?_, trivial⟩
    · exact xs4 rfl id fun cx => run_loadB (n := 6) rfl (by kernel_rfl) (by kernel_rfl) (cx.an 0) (cx.bi 0 rfl) (nle rfl) rfl
    · exact xs4 rfl id fun cx => run_load1 rfl (by kernel_rfl) (cx.ou 1) ((Blk.ext h1 cx.upd.to_ext).cell 0)
    · exact xs4 rfl id fun cx => run_load1 rfl (by kernel_rfl) (cx.ou 2) ((Blk.ext h2 cx.upd.to_ext).cell 0)
    · exact xsc rfl id rfl rfl fun cx => ⟨_, all_any _ _ _ _ _ _ _ _ _ _ _ g _ (hS.ext cx.upd.to_ext), (map3 (cx.an 1) (cx.an 2) (cx.an 3))⟩
  refine then_normal (wp_ret ?_)
  refine bodyPost_ret (v := .bool (!((allF g hz a b)))) (results_tmp Tryz.results122 rfl) rfl ?_
  exact Ret.bool rfl hst2.ext
set_option maxRecDepth 100000 in
set_option maxHeartbeats 2000000 in
theorem fidx_any (FA : Option Addr) (fc : Nat) (n : Int) (ks : List FK) (p1 p2 : Nat) (hz : Int) (tt : TypeId) (tv : Value) (g : Int → Int) (w : World) (hF : At w FA (ks.flatMap (cellsF n))) (hl : ks.length ≤ 100000) (h1 : Blk w p1 3 #[.int .i64 hz]) (h2 : Blk w p2 138 #[.iface tt tv]) (hS : StOk w tt tv g) :
    Calls Tryz.prog 64 #[.slice FA ks.length fc, .func (.func 122) #[] #[.pointer (some ⟨p1, 0, none⟩), .pointer (some ⟨p2, 0, none⟩)]] w (Ret (.int .i64 (idxL (notF g hz) 0 ks)) w) := by
  go_enter Tryz.func64, Tryz.ntmps64
  have hst0 := St.start w
  refine wp_seq (wp_region_P [0] [.k 4 (vi 0)] [(4, 0, 1, 5)] hst0 fun W1 hst1 => ?_)
  refine then_normal (wp_seq (wp_seq (wp_region_P [0, 1, 0] [.k 6 (.slice FA ks.length fc), .k 7 (vi ((ks.length : Int))), .k 8 (vi 0)] [(6, 0, 3, 9)] hst1 fun W2 hst2 => ?_)))
  refine then_normal (wp_block ?_)
  refine wp_loopN (fun mz az W => ∃ k : Nat, ∃ u3_ : List Value, k ≤ ks.length ∧ idxL (notF g hz) 0 ks = idxL (notF g hz) (k : Int) (ks.drop k) ∧ mz = ks.length - k ∧ az = ⟨#[.slice FA ks.length fc, .func (.func 122) #[] #[vp p1, vp p2], undef, undef, (gu u3_ 0), (gu u3_ 1), .slice FA ks.length fc, vi ((ks.length : Int)), vi ((k : Int)), (gu u3_ 2), (gu u3_ 3), (gu u3_ 4), (gu u3_ 5), (gu u3_ 6), (gu u3_ 7), (gu u3_ 8), (gu u3_ 9), (gu u3_ 10), (gu u3_ 11)], []⟩ ∧ St w [] [] W) (ks.length - 0) ?_ ?_
  · -- the loop begins
    have hp4 := hst2.pick [] (by decide) rfl
    exact ⟨0, [vi 0, undef, undef, undef, undef, undef, undef, undef, undef, undef, undef, undef], Nat.zero_le _, rfl, rfl, rfl, hp4⟩
  rintro n3 a3 W3 ⟨k, u3_, hk, hkr, rfl, rfl, hst3⟩
  refine wp_seq (wp_region_P [0] [.k 9 (.bool (decide ((k : Int) < (ks.length : Int))))] [(9, 0, 1, 10)] hst3 fun W5 hst5 => ?_)
  refine then_normal (wp_seq ?_)
  rcases Bool.eq_false_or_eq_true (decide ((k : Int) < (ks.length : Int))) with hs6 | hs6
  · skip
    have hs6p : (k : Int) < (ks.length : Int) := by simpa using hs6
    refine wp_cond_true (show Act.eval _ _ = .bool true from (congrArg Value.bool hs6)) (wp_skip (then_normal (wp_seq (wp_block (wp_seq (wp_region_P [0, 1] [.k 10 (vi ((k : Int))), .k 5 (vi ((k : Int)))] [(5, 1, 1, 6), (4, 0, 1, 5)] hst5 fun W7 hst7 => ?_))))))
    refine then_normal (wp_seq (wp_region_Z [0, 0, 0, 6, 14, 31] [] [.k 11 (.func (.func 122) #[] #[vp p1, vp p2]), .k 12 (.slice FA ks.length fc), .k 13 (vi ((k : Int))), .c 14 (.pointer (some ((ad FA).add (k * 8)))), .c 15 (.agg #[vi n, vi (((ks.getD k fk0).1.1 : Int)), vi ((ks.getD k fk0).1.2.1), vi ((ks.getD k fk0).1.2.2.1), vi ((ks.getD k fk0).1.2.2.2.1), vi ((ks.getD k fk0).1.2.2.2.2.1), .bool ((ks.getD k fk0).1.2.2.2.2.2.1), .slice ((ks.getD k fk0).2.1) ((ks.getD k fk0).1.2.2.2.2.2.2.length) ((ks.getD k fk0).2.2)]), .c 16 (.bool ((notF g hz (ks.getD k fk0))))] [] [3, 4, 5] [(11, 0, 6, 17)] hst7 ?_ fun W8 hst8 => ?_))
    · refine ⟨?_, ?_, ?_, trivial⟩
      · exact xs4 rfl id fun cx => run_indexSlM (e := 43) (m := k) (sz := 8) rfl (by kernel_rfl) (by kernel_rfl) (cx.an 1) (cx.an 2) (by omega) (by omega) (hF.ext cx.upd.to_ext) (by have h_ := flatLen (f := (cellsF n)) (sz := 8) (cellsF_len n) ks; show 0 < (List.flatMap (cellsF n) ks).length; omega)
      · exact xs4 rfl id fun cx => run_loadElt (f := (cellsF n)) (m := k) (sz := 8) (off := 0) (n := 8) rfl (by kernel_rfl) (by kernel_rfl) (cx.an 3) rfl (cellsF_len n) (hF.ext cx.upd.to_ext) (getD_some (ts := ks) (m := k) fk0 (by omega)) (fun k hk => match k, hk with | 0, _ => rfl | 1, _ => rfl | 2, _ => rfl | 3, _ => rfl | 4, _ => rfl | 5, _ => rfl | 6, _ => rfl | 7, _ => rfl | k + 8, hk => absurd hk (by omega))
      · exact sv_call rfl rfl rfl rfl rfl (fun _ _ _ h => h) fun ρ β W X cx => ⟨_, _, run_callV (f := 122) (args := #[.agg #[vi n, vi (((ks.getD k fk0).1.1 : Int)), vi ((ks.getD k fk0).1.2.1), vi ((ks.getD k fk0).1.2.2.1), vi ((ks.getD k fk0).1.2.2.2.1), vi ((ks.getD k fk0).1.2.2.2.2.1), .bool ((ks.getD k fk0).1.2.2.2.2.2.1), .slice ((ks.getD k fk0).2.1) ((ks.getD k fk0).1.2.2.2.2.2.2.length) ((ks.getD k fk0).2.2)]]) (args' := #[.agg #[vi n, vi (((ks.getD k fk0).1.1 : Int)), vi ((ks.getD k fk0).1.2.1), vi ((ks.getD k fk0).1.2.2.1), vi ((ks.getD k fk0).1.2.2.2.1), vi ((ks.getD k fk0).1.2.2.2.2.1), .bool ((ks.getD k fk0).1.2.2.2.2.2.1), .slice ((ks.getD k fk0).2.1) ((ks.getD k fk0).1.2.2.2.2.2.2.length) ((ks.getD k fk0).2.2)], vp p1, vp p2]) rfl rfl (cx.an 0) (by kernel_rfl) (map1 (cx.an 4)) rfl, look1_any _ _ _ _ _ _ _ _ _ _ _ _ hz _ _ g _ (h1.ext cx.upd.to_ext) (h2.ext cx.upd.to_ext) (hS.ext cx.upd.to_ext)⟩
    refine then_normal ?_
    rcases Bool.eq_false_or_eq_true ((notF g hz (ks.getD k fk0))) with hs9 | hs9
    · skip
      refine wp_cond_true (show Act.eval _ _ = .bool true from (congrArg Value.bool hs9)) (wp_seq (wp_region_P [0, 1] [.k 17 (vi ((k : Int))), .k 4 (vi ((k : Int)))] [(4, 1, 1, 5), (12, 0, 1, 13)] hst8 fun W10 hst10 => ?_))
      refine then_normal (wp_ret (blk_ret (then_ret (then_ret (blk_ret (then_ret ?_))))))
      refine bodyPost_ret (v := vi ((k : Int))) (results_tmp Tryz.results64 rfl) rfl ?_
      exact Ret.of (by rw [hkr, idxL_at (d := fk0) (by omega), hs9]; rfl) hst10.ext
    refine wp_cond_false (show Act.eval _ _ = .bool false from (congrArg Value.bool hs9)) (wp_skip (blk_normal (then_normal (wp_region_P [0, 1] [tI 18 ((k : Int) + 1) (by omega), .k 8 (vi ((k : Int) + 1))] [(8, 1, 1, 9), (9, 0, 1, 10)] hst8 fun W11 hst11 => ?_))))
    refine then_normal ?_
    refine ⟨ks.length - ((k + 1)), by omega, ?_⟩
    have hp12 := hst11.pick [] (by decide) rfl
    exact ⟨(k + 1), [(gu u3_ 0), vi ((k : Int)), .bool (decide ((k : Int) < (ks.length : Int))), vi ((k : Int)), .func (.func 122) #[] #[vp p1, vp p2], .slice FA ks.length fc, vi ((k : Int)), .pointer (some ((ad FA).add (k * 8))), .agg #[vi n, vi (((ks.getD k fk0).1.1 : Int)), vi ((ks.getD k fk0).1.2.1), vi ((ks.getD k fk0).1.2.2.1), vi ((ks.getD k fk0).1.2.2.2.1), vi ((ks.getD k fk0).1.2.2.2.2.1), .bool ((ks.getD k fk0).1.2.2.2.2.2.1), .slice ((ks.getD k fk0).2.1) ((ks.getD k fk0).1.2.2.2.2.2.2.length) ((ks.getD k fk0).2.2)], .bool ((notF g hz (ks.getD k fk0))), (gu u3_ 10), vi ((k : Int) + 1)], by omega, by rw [hkr, idxL_at (d := fk0) (by omega), hs9]; rfl, rfl, rfl, hp12⟩
  have hs6p : ¬ ((k : Int) < (ks.length : Int)) := by simpa using hs6
  refine wp_cond_false (show Act.eval _ _ = .bool false from (congrArg Value.bool hs6)) (wp_exit (then_exit (then_exit (blk_eq (then_normal (wp_seq (wp_region_P [0] [.k 4 (vi (-1))] [(4, 0, 1, 5)] hst5 fun W13 hst13 => ?_)))))))
  refine then_normal (wp_ret ?_)
  refine bodyPost_ret (v := vi (-1)) (results_tmp Tryz.results64 rfl) rfl ?_
  exact Ret.of (by rw [hkr, List.drop_of_length_le (by omega)]; rfl) hst13.ext
set_option maxRecDepth 100000 in
set_option maxHeartbeats 2000000 in
theorem fcon_any (FA : Option Addr) (fc : Nat) (n : Int) (ks : List FK) (p1 p2 : Nat) (hz : Int) (tt : TypeId) (tv : Value) (g : Int → Int) (w : World) (hF : At w FA (ks.flatMap (cellsF n))) (hl : ks.length ≤ 100000) (h1 : Blk w p1 3 #[.int .i64 hz]) (h2 : Blk w p2 138 #[.iface tt tv]) (hS : StOk w tt tv g) :
    Calls Tryz.prog 85 #[.slice FA ks.length fc, .func (.func 122) #[] #[.pointer (some ⟨p1, 0, none⟩), .pointer (some ⟨p2, 0, none⟩)]] w (Ret (.bool (ks.any (notF g hz))) w) := by
  go_enter Tryz.func85, Tryz.ntmps85
  have hst0 := St.start w
  refine wp_seq (wp_region_P [0] [.k 4 (.bool false)] [(4, 0, 1, 5)] hst0 fun W1 hst1 => ?_)
  refine then_normal (wp_seq (wp_region_Z [0, 0, 3, 7, 15] [] [.k 5 (.slice FA ks.length fc), .k 6 (.func (.func 122) #[] #[vp p1, vp p2]), .c 7 (vi ((idxL (notF g hz) 0 ks))), .k 8 (.bool (decide (0 ≤ (idxL (notF g hz) 0 ks)))), .k 4 (.bool (decide (0 ≤ (idxL (notF g hz) 0 ks))))] [] [2] [(4, 4, 1, 5), (0, 0, 4, 4)] hst1 ?_ fun W2 hst2 => ?_))
  · refine ⟨?_, trivial⟩
    · exact xsc rfl id rfl rfl fun cx => ⟨_, fidx_any _ _ n ks _ _ hz _ _ g _ (hF.ext cx.upd.to_ext) hl (h1.ext cx.upd.to_ext) (h2.ext cx.upd.to_ext) (hS.ext cx.upd.to_ext), (map2 (cx.an 0) (cx.an 1))⟩
  refine then_normal (wp_ret ?_)
  refine bodyPost_ret (v := .bool (decide (0 ≤ (idxL (notF g hz) 0 ks)))) (results_tmp Tryz.results85 rfl) rfl ?_
  exact Ret.of (by rw [← idxL_ge _ _ 0 (by omega)]) hst2.ext
end
end Go.Proofs.YtjnplglnnamfdaaGreatDoor
namespace Go.Proofs.YtjnplglnnamfdaaGreatDoor
section
set_option linter.unusedVariables false
set_option linter.unusedSimpArgs false
open Go.RowKit
/-- the first empty slot among the n slots from i on -/
def frL (ss : List ByteArray) : Nat → Nat → Int
  | 0, _ => -1
  | n + 1, i => if ss.length ≤ i then i else if (ss.getD i ByteArray.empty).toList.isEmpty then i else frL ss n (i + 1)
theorem frL_succ (ss : List ByteArray) (n i : Nat) : frL ss (n + 1) i = if ss.length ≤ i then (i : Int) else if (ss.getD i ByteArray.empty).toList.isEmpty then (i : Int) else frL ss n (i + 1) := rfl
def freeF (k l : Int) (ss : List ByteArray) (from_ : Int) : Int := if rightB k l ss then frL ss (24 - (max from_ 0).toNat) (max from_ 0).toNat else -1
set_option maxRecDepth 100000 in
set_option maxHeartbeats 1000000 in
theorem free_any (k l : Int) (A : Option Addr) (c : Nat) (ss : List ByteArray) (fr : Int) (w : World) (h : At w A (ss.map Value.string)) (hs : Small ss) :
    Calls Tryz.prog 152 #[.agg #[.int .i64 k, .int .i64 l, .slice A ss.length c], .int .i64 fr] w (Ret1 (.int .i64 (freeF k l ss fr)) w) := by
  have H := Lib.hid h; clear h
  have hl := hs.1
  have HS := Lib.hid hs; clear hs
  have X0 := Lib.hid ((Ext.refl w).alloc (.cells #[.int .i64 k, .int .i64 l, .slice A ss.length c] 64))
  rcases hr : rightB k l ss with _ | _
  · have HR := Lib.hid hr; clear hr
    go_enter Tryz.func152, Tryz.ntmps152
    go_wp2_with (go_at_call 184; refine (right_any _ _ _ _ _ _ (H.out.ext X0.out) HS.out).mono ?_; rw [HR.out]; rintro e w1 ⟨rfl, hx⟩; have X1 := Lib.hid (X0.out.trans hx); clear hx)
    go_ret
    exact Ret1.int (by rw [freeF, HR.out]; rfl) X1.out
  · have HR := Lib.hid hr; clear hr
    obtain ⟨K, hK⟩ : ∃ K, K = (max fr 0).toNat := ⟨_, rfl⟩
    have HF := Lib.hid (show freeF k l ss fr = frL ss (24 - K) K by rw [freeF, HR.out, if_pos rfl, hK])
    have HK := Lib.hid hK
    clear hK
    rcases Int.lt_or_le fr 0 with hfr | hfr
    all_goals
      go_enter Tryz.func152, Tryz.ntmps152
      go_wp2_with (go_at_call 184; refine (right_any _ _ _ _ _ _ (H.out.ext X0.out) HS.out).mono ?_; rw [HR.out]; rintro e w1 ⟨rfl, hx⟩; have X1 := Lib.hid (X0.out.trans hx); have hc2 : w1.cell? ⟨w.heap.size, 2, none⟩ = some (.slice A ss.length c) := hx.cell_new 2; clear hx)
      go_loop [5] (fun i => ∃ k' : Nat, i = .int .i64 k' ∧ freeF k l ss fr = frL ss (24 - k') k') (fun i => 24 - (intOf i).toNat)
      case atStart => exact ⟨K, by rw [HK.out]; go_num, HF.out⟩
      case round =>
        obtain ⟨k', rfl, hk⟩ := hrel
        have Hk := Lib.hid hk
        clear hk
        rcases Nat.lt_or_ge k' 24 with h24 | h24
        · obtain ⟨n, hn⟩ : ∃ n, 24 - k' = n + 1 := ⟨23 - k', by omega⟩
          have Hn := Lib.hid (show freeF k l ss fr = frL ss (n + 1) k' by rw [Hk.out, hn])
          have HN := Lib.hid (show 24 - (k' + 1) = n by omega)
          clear hn Hk
          rcases Nat.lt_or_ge k' ss.length with hlt | hge
          · obtain ⟨ad, rfl, hblk, hc⟩ := (H.out.ext X1.out).get (k := k') (by simpa using hlt)
            rw [List.getElem_map] at hc
            have Hg := Lib.hid (show ss[k'] = ss.getD k' ByteArray.empty by simp [List.getD, hlt])
            obtain ⟨s, hs⟩ : ∃ s, s = ss[k'] := ⟨_, rfl⟩
            rw [← hs] at hc Hg
            clear hs
            rcases he : s.toList.isEmpty with _ | _
            · go_wp2
              go_round
              case rel => exact ⟨k' + 1, by go_num, by rw [Hn.out, frL_succ, if_neg (by omega), ← Hg.out, he, HN.out]; rfl⟩
              case measure => simp [intOf]; omega
            · go_wp2
              go_ret
              exact Ret1.int (by rw [Hn.out, frL_succ, if_neg (by omega), ← Hg.out, he]; rfl) X1.out
          · go_wp2
            go_ret
            exact Ret1.int (by rw [Hn.out, frL_succ, if_pos (by omega)]) X1.out
        · go_wp2
          go_ret
          exact Ret1.int (by rw [Hk.out, show 24 - k' = 0 by omega]; rfl) X1.out
def roomF (k l : Int) (ss : List ByteArray) : Int :=
  if freeF k l ss 0 < 0 then 0 else if ((plainL ss).length : Int) ≤ freeF k l ss 0 then max 0 (min (512 - (sizeL ss : Int) - 2) 400) else max 0 (min (512 - (sizeL ss : Int)) 400)
theorem sizeL_le {ss : List ByteArray} (h : Small ss) : sizeL ss ≤ 14 + 100000 * 1000002 := by
  have := (Small.plain h).take (plainL ss).length
  rw [List.take_length] at this
  unfold sizeL
  omega
set_option maxRecDepth 100000 in
set_option maxHeartbeats 1000000 in
theorem room_any (k l : Int) (A : Option Addr) (c : Nat) (ss : List ByteArray) (w : World) (h : At w A (ss.map Value.string)) (hs : Small ss) :
    Calls Tryz.prog 121 #[.agg #[.int .i64 k, .int .i64 l, .slice A ss.length c]] w (Ret1 (.int .i64 (roomF k l ss)) w) := by
  have H := Lib.hid h; clear h
  have hl := hs.1
  have hpl := (Small.plain hs).1
  have hsz := sizeL_le hs
  have HS := Lib.hid hs; clear hs
  have X0 := Lib.hid ((Ext.refl w).alloc (.cells #[.int .i64 k, .int .i64 l, .slice A ss.length c] 64))
  obtain ⟨f, hf⟩ : ∃ f, f = freeF k l ss 0 := ⟨_, rfl⟩
  have HF := Lib.hid hf
  clear hf
  obtain ⟨z, hz⟩ : ∃ z, z = sizeL ss := ⟨_, rfl⟩
  rw [← hz] at hsz
  have HZ := Lib.hid hz
  clear hz
  have HR := Lib.hid (show roomF k l ss = if f < 0 then 0 else if ((plainL ss).length : Int) ≤ f then max 0 (min (512 - (z : Int) - 2) 400) else max 0 (min (512 - (z : Int)) 400) by rw [roomF, ← HF.out, ← HZ.out])
  go_enter Tryz.func121, Tryz.ntmps121
  go_wp2_with (first
    | (go_at_call 152; refine (free_any _ _ _ _ _ _ _ (H.out.ext X0.out) HS.out).mono ?_; rw [← HF.out]; rintro e w1 ⟨rfl, hx⟩; have X1 := Lib.hid (X0.out.trans hx); have hc2 : w1.cell? ⟨w.heap.size, 2, none⟩ = some (.slice A ss.length c) := hx.cell_new 2; have hsz1 := hx.lt_new; clear hx)
    | (go_at_call 197; refine (size_any _ _ _ _ (H.out.ext X1.out) HS.out).mono ?_; rw [← HZ.out]; rintro e w2 ⟨rfl, hx⟩; have X2 := Lib.hid (X1.out.trans hx); have hc3 : w2.cell? ⟨w.heap.size, 2, none⟩ = some (.slice A ss.length c) := (hx.cell (p := ⟨w.heap.size, 2, none⟩) (by omega)).trans hc2; clear hx)
    | (go_at_call 185; refine (plain_any _ _ _ _ (H.out.ext X2.out) HS.out.1).mono ?_; rintro e w3 ⟨rfl, _, hx⟩; have X3 := Lib.hid (X2.out.trans hx); clear hx))
  all_goals go_ret
  all_goals first
    | (refine Ret1.int ?_ X1.out; rw [HR.out]; split <;> omega)
    | (refine Ret1.int ?_ X3.out; rw [HR.out]; split <;> (try split) <;> omega)
end
end Go.Proofs.YtjnplglnnamfdaaGreatDoor
namespace Go.Proofs.YtjnplglnnamfdaaGreatDoor
section
set_option linter.unusedVariables false
set_option linter.unusedSimpArgs false
open Go.RowKit
theorem Ext.two {w w1 : World} {o : Obj} {cs : Array Value} {t : TypeId} (h : Ext ((w.alloc o).alloc (.cells cs t)) w1) :
    (∀ i, w1.cell? ⟨w.heap.size + 1, i, none⟩ = cs[i]?) ∧ (∀ i, w1.frozen? ⟨w.heap.size + 1, i, none⟩ = false) ∧ w.heap.size + 1 < w1.heap.size := by
  have e : (w.alloc o).heap.size = w.heap.size + 1 := World.size_alloc w o
  have h1 := fun i => h.cell_new i
  have h2 := fun i => h.frozen_new i
  have h3 := h.lt_new
  rw [e] at h1 h2 h3
  exact ⟨h1, h2, h3⟩
/-- the first of two new blocks -/
theorem Ext.two0 {w w1 : World} {o : Obj} {cs : Array Value} {t : TypeId} (h : Ext ((w.alloc (.cells cs t)).alloc o) w1) :
    (∀ i, w1.cell? ⟨w.heap.size, i, none⟩ = cs[i]?) ∧ (∀ i, w1.frozen? ⟨w.heap.size, i, none⟩ = false) :=
  have h0 : Ext (w.alloc (.cells cs t)) w1 := ((Ext.refl _).alloc o).trans h
  ⟨fun i => h0.cell_new i, fun i => h0.frozen_new i⟩
def padTo (l : List ByteArray) (n : Nat) : List ByteArray := l ++ List.replicate (n - l.length) ByteArray.empty
/-- the items with one put in -/
def withL (ss : List ByteArray) (slot : Nat) (s : ByteArray) : List ByteArray := (padTo (plainL ss) (slot + 1)).set slot s
def putErr (k l : Int) (ss : List ByteArray) (slot : Int) (s : ByteArray) : Int :=
  if rightB k l ss = false then 22 else if slot < 0 ∨ 24 ≤ slot ∨ 400 < s.size then 21 else if 512 < sizeL (withL ss slot.toNat s) then 20 else 0
theorem small_with {ss : List ByteArray} (h : ss.length ≤ 24 ∧ ∀ s ∈ ss, s.size ≤ 400) (K : Nat) (hK : K < 24) (s : ByteArray) (hs : s.size ≤ 400) : Small (withL ss K s) := by
  have hp := plainL_len ss
  have ht := trimN_le ss ss.length
  refine ⟨by simp only [withL, padTo, List.length_set, List.length_append, List.length_replicate]; omega, fun x hx => ?_⟩
  have hx' : x = s ∨ x ∈ padTo (plainL ss) (K + 1) := by
    rcases List.mem_or_eq_of_mem_set hx with h | h
    · exact .inr h
    · exact .inl h
  rcases hx' with rfl | hx'
  · omega
  · rcases List.mem_append.1 hx' with h1 | h1
    · have := h.2 x (List.mem_of_mem_take h1); omega
    · have := (List.mem_replicate.1 h1).2
      subst this
      simp
theorem right_parts {k l : Int} {ss : List ByteArray} (h : rightB k l ss = true) : (0 ≤ k ∧ k ≤ 2) ∧ (0 ≤ l ∧ l ≤ 2147483647) ∧ (ss.length ≤ 24 ∧ ∀ s ∈ ss, s.size ≤ 400) ∧ sizeL ss ≤ 512 := by
  simp only [rightB, Bool.and_eq_true, decide_eq_true_eq, Bool.not_eq_true', longB, List.any_eq_false, Nat.not_lt] at h
  exact ⟨⟨h.1, h.2.1⟩, ⟨h.2.2.1, h.2.2.2.1⟩, ⟨h.2.2.2.2.1, h.2.2.2.2.2.1⟩, h.2.2.2.2.2.2⟩
theorem own_pos {w : World} {base : Nat} {e : TypeId} {A : Option Addr} {n c : Nat} {xs : List Value} (h : w.ownsRow base e 1 (.slice A n c) n xs) (hn : 0 < n) :
    ∃ g, A = some ⟨g, 0, none⟩ ∧ base ≤ g ∧ g < w.heap.size := by
  rcases h.2 with ⟨hv, h0⟩ | ⟨g, cap, cur, hv, hb, hg, _⟩
  · omega
  · injection hv with h1
    exact ⟨g, h1, hb, (Array.getElem?_eq_some_iff.1 hg).1⟩
theorem with_stored {wr : World} {base g m c K : Nat} {ss : List ByteArray} {s : ByteArray}
    (h : wr.ownsRow base 9 1 (.slice (some ⟨g, 0, none⟩) m c) m ((plainL ss ++ List.replicate (m - (plainL ss).length) ByteArray.empty).map Value.string))
    (h1 : (plainL ss).length ≤ m) (h2 : m ≤ (plainL ss).length ∨ m ≤ K + 1) (h3 : K < m) :
    (wr.setCell ⟨g, K, none⟩ (.string s)).ownsRow base 9 1 (.slice (some ⟨g, 0, none⟩) m c) m ((withL ss K s).map Value.string) := by
  have e : m - (plainL ss).length = K + 1 - (plainL ss).length := by omega
  have := (h.stored K (.string s)).1
  rw [e, ← List.map_set] at this
  exact this
theorem put_held {w W : World} {k l : Int} {A : Option Addr} {n c : Nat}
    (h : Ext ((w.alloc (.cells #[.int .i64 k, .int .i64 l, .slice A n c] 64)).alloc (.cells #[.int .i64 0, .int .i64 0, .slice none 0 0] 64)) W) :
    W.cell? ⟨w.heap.size, 0, none⟩ = some (.int .i64 k) ∧ W.cell? ⟨w.heap.size, 1, none⟩ = some (.int .i64 l) ∧ W.cell? ⟨w.heap.size + 1, 0, none⟩ = some (.int .i64 0) ∧ W.cell? ⟨w.heap.size + 1, 1, none⟩ = some (.int .i64 0) ∧
      W.cell? ⟨w.heap.size + 1, 2, none⟩ = some (.slice none 0 0) ∧ W.frozen? ⟨w.heap.size + 1, 0, none⟩ = false ∧ W.frozen? ⟨w.heap.size + 1, 1, none⟩ = false ∧ W.frozen? ⟨w.heap.size + 1, 2, none⟩ = false :=
  ⟨h.two0.1 0, h.two0.1 1, h.two.1 0, h.two.1 1, h.two.1 2, h.two.2.1 0, h.two.2.1 1, h.two.2.1 2⟩
theorem pad_step {w2 : World} {base n : Nat} {v' : Value} {pl : List ByteArray} {u : Value} (hu : u = .string ByteArray.empty) (h : w2.ownsRow base 9 1 v' (n + 1) ((pl ++ List.replicate (n - pl.length) ByteArray.empty).map Value.string ++ [u])) (hl : pl.length ≤ n) :
    w2.ownsRow base 9 1 v' (n + 1) ((pl ++ List.replicate (n + 1 - pl.length) ByteArray.empty).map Value.string) := by
  subst hu
  have e : n + 1 - pl.length = (n - pl.length) + 1 := by omega
  rw [e, List.replicate_succ', ← List.append_assoc, List.map_append (l₂ := [ByteArray.empty])]
  exact h
end
end Go.Proofs.YtjnplglnnamfdaaGreatDoor
namespace Go.Proofs.YtjnplglnnamfdaaGreatDoor
section
set_option linter.unusedVariables false
set_option linter.unusedSimpArgs false
open Go.RowKit
/-- a page, its items in new memory -/
def PgOne (k l : Int) (ss : List ByteArray) (w : World) (e : Ending) (w' : World) : Prop :=
  ∃ A c, e = .returned (.agg #[.int .i64 k, .int .i64 l, .slice A ss.length c]) ∧ w'.ownsRow w.heap.size 9 1 (.slice A ss.length c) ss.length (ss.map Value.string) ∧ Ext w w'
theorem after_lit {w w5 : World} {k l : Int} {A : Option Addr} {n c : Nat}
    (hg : (((w.alloc (.cells #[.int .i64 k, .int .i64 l, .slice A n c] 64)).alloc (.cells #[.int .i64 0, .int .i64 0, .slice none 0 0] 64)).alloc (.cells #[] 9)).drew.grownBy w5 (Value.ownBlock (.slice (some ⟨w.heap.size + 2, 0, none⟩) 0 0))) :
    Ext ((w.alloc (.cells #[.int .i64 k, .int .i64 l, .slice A n c] 64)).alloc (.cells #[.int .i64 0, .int .i64 0, .slice none 0 0] 64)) w5 :=
  (((Ext.refl _).alloc _).drew).grown hg (by intro k hk; simp [Value.ownBlock] at hk; subst hk; simp)
theorem At.take_map {w : World} {A : Option Addr} {α : Type} {f : α → Value} {xs : List α} (h : At w A (xs.map f)) (n : Nat) : At w A ((xs.take n).map f) := by
  rw [List.map_take]; exact h.take n
theorem rplain_end {w w5 : World} {k l : Int} {ss : List ByteArray} {A : Option Addr} {m c : Nat} {x y z : Value} (ht : m = trimN ss ss.length)
    (h : w5.ownsRow (w.heap.size + 2) 9 1 (.slice A m c) m ((ss.take m).map Value.string)) (hx : Ext w w5) :
    PgOne k l (plainL ss) w (.returned (.agg #[.int .i64 k, .int .i64 l, .slice A m c])) (((w5.setCell ⟨w.heap.size + 1, 0, none⟩ x).setCell ⟨w.heap.size + 1, 1, none⟩ y).setCell ⟨w.heap.size + 1, 2, none⟩ z) := by
  have hl : (plainL ss).length = m := by rw [plainL_len, ht]
  refine ⟨A, c, by rw [hl], ?_, ?_⟩
  · rw [hl]
    have e : plainL ss = ss.take m := by rw [plainL, ht]
    rw [e]
    exact own_mono (ownsRow_setCell_below (ownsRow_setCell_below (ownsRow_setCell_below h (by simp) _) (by simp) _) (by simp) _) (by omega)
  · exact ((hx.set (by simp) _).set (by simp) _).set (by simp) _
set_option maxRecDepth 100000 in
set_option maxHeartbeats 1000000 in
theorem rplain_any (k l : Int) (A : Option Addr) (c : Nat) (ss : List ByteArray) (w : World) (h : At w A (ss.map Value.string)) (hl : ss.length ≤ 100000) (hc : ss.length ≤ c) :
    Calls Tryz.prog 240 #[.agg #[.int .i64 k, .int .i64 l, .slice A ss.length c]] w (PgOne k l (plainL ss) w) := by
  obtain ⟨i0, hi0, hz0, hz1, hz2⟩ := info_parts Tryz.infoStr
  have H := Lib.hid h; clear h
  have X0 := Lib.hid (((Ext.refl w).alloc (.cells #[.int .i64 k, .int .i64 l, .slice A ss.length c] 64)).alloc (.cells #[.int .i64 0, .int .i64 0, .slice none 0 0] 64))
  go_enter Tryz.func240, Tryz.ntmps240
  go_wp2
  go_loop [3] (fun i => ∃ j : Nat, j ≤ ss.length ∧ i = .int .i64 j ∧ trimN ss j = trimN ss ss.length) (fun i => (intOf i).toNat)
  case atStart => exact ⟨_, Nat.le_refl _, rfl, rfl⟩
  case round =>
    obtain ⟨j, hj, rfl, ht⟩ := hrel
    have Ht := Lib.hid ht; clear ht
    rcases j with _ | j
    · go_wp2
      go_region_held3 (fun W => W.cell? ⟨w.heap.size, 0, none⟩ = some (.int .i64 k) ∧ W.cell? ⟨w.heap.size, 1, none⟩ = some (.int .i64 l) ∧ W.cell? ⟨w.heap.size, 2, none⟩ = some (.slice A ss.length c))
        (first | go_keep | exact ⟨p0, p1, p2⟩)
        ((refine stp_append _ (by rfl) (.tmp 24) (.tmp 28) _ (by rfl) (w.heap.size + 2) 9 i0 _ 16 Tryz.underlying62 hi0 hz0 hz1 hz2 rfl _ 0 [] (by rfl) (own_lit0 (by simp) (by simp)) _ 0 _ [] (by rfl) (by rfl) (At.nil _ _) (by simp) (by simp [maxLen]) (by simp) (by simp) ?_; intro v5 w5 hown5 hg5 _; simp only [Nat.add_zero, List.nil_append] at hown5; obtain ⟨A5, c5, rfl, _⟩ := own_form hown5; have X5 := Lib.hid (after_lit (w := w) (k := k) (l := l) (A := A) (n := ss.length) (c := c) hg5); obtain ⟨p0, p1, q0, q1, q2, f0, f1, f2⟩ := put_held X5.out; have p2 : w5.cell? ⟨w.heap.size, 2, none⟩ = _ := X5.out.two0.1 2; have Hown5 := Lib.hid hown5; clear hown5 hg5))
      go_wp2
      refine bodyPost_ret (v := .agg #[.int .i64 k, .int .i64 l, .slice A5 0 c5]) (by simp [results, Tryz.results240, go_sem, q0, q1, q2]) rfl ?_
      exact rplain_end (m := 0) Ht.out Hown5.out (X0.out.trans X5.out)
    · have hs : (ss.map Value.string)[j]? = some (.string (ss.getD j ByteArray.empty)) := by simp [List.getD, List.getElem?_eq_getElem (show j < ss.length by omega)]
      obtain ⟨ad, rfl, hb, hcell⟩ := (H.out.ext X0.out) _ _ hs
      clear hs
      obtain ⟨s, hs⟩ : ∃ s, s = ss.getD j ByteArray.empty := ⟨_, rfl⟩
      rw [← hs] at hcell
      have Hs := Lib.hid hs; clear hs
      rcases he : s.toList.isEmpty with _ | _
      · have He := Lib.hid (show trimN ss ss.length = j + 1 by rw [← Ht.out, trimN_succ, ← Hs.out, he]; rfl)
        have hc0 : ¬ c = 0 := by omega
        have hj1 : (0 : Int) ≤ (j : Int) + 1 := by omega
        have hj2 : (j : Int) + 1 ≤ (c : Int) := by omega
        go_wp2
        go_region_held3 (fun W => W.cell? ⟨w.heap.size, 0, none⟩ = some (.int .i64 k) ∧ W.cell? ⟨w.heap.size, 1, none⟩ = some (.int .i64 l) ∧ W.cell? ⟨w.heap.size, 2, none⟩ = some (.slice (some ad) ss.length c))
          (first | go_keep | exact ⟨p0, p1, p2⟩)
          ((refine stp_append _ (by rfl) (.tmp 24) (.tmp 28) _ (by rfl) (w.heap.size + 2) 9 i0 _ 16 Tryz.underlying62 hi0 hz0 hz1 hz2 rfl _ 0 [] (by rfl) (own_lit0 (by simp) (by simp)) (some ad) (j + 1) _ ((ss.take (j + 1)).map Value.string) (by rfl) (by simp; omega) (by exact (At.take_map (H.out.ext X0.out) (j + 1)).ext ((Ext.refl _).alloc _).drew) (str_one _) (by simp only [maxLen]; omega) (by omega) (by simp) ?_; intro v5 w5 hown5 hg5 _; simp only [Nat.zero_add, List.nil_append] at hown5; obtain ⟨A5, c5, rfl, _⟩ := own_form hown5; have X5 := Lib.hid (after_lit (w := w) (k := k) (l := l) (A := some ad) (n := ss.length) (c := c) hg5); obtain ⟨p0, p1, q0, q1, q2, f0, f1, f2⟩ := put_held X5.out; have p2 : w5.cell? ⟨w.heap.size, 2, none⟩ = _ := X5.out.two0.1 2; have Hown5 := Lib.hid hown5; clear hown5 hg5))
        go_wp2
        refine bodyPost_ret (v := .agg #[.int .i64 k, .int .i64 l, .slice A5 (j + 1) c5]) (by simp [results, Tryz.results240, go_sem, q0, q1, q2]) rfl ?_
        exact rplain_end (m := j + 1) He.out.symm Hown5.out (X0.out.trans X5.out)
      · go_wp2
        go_round
        case rel => exact ⟨j, by omega, rfl, by rw [← Ht.out, trimN_succ, ← Hs.out, if_pos he]⟩
        case measure => simp [intOf]
theorem own_cap {w : World} {base : Nat} {e : TypeId} {A : Option Addr} {n m c : Nat} {xs : List Value} (h : w.ownsRow base e 1 (.slice A n c) m xs) : n ≤ c := by
  rcases h.2 with ⟨hv, _⟩ | ⟨g, cap, cur, hv, hb, hg, hc, _⟩
  · injection hv with _ h2 h3; omega
  · injection hv with _ h2 h3; omega
set_option maxRecDepth 100000 in
set_option maxHeartbeats 1000000 in
theorem rsize_any (k l : Int) (A : Option Addr) (n c : Nat) (ss : List ByteArray) (w : World) (hn : n = ss.length) (h : At w A (ss.map Value.string)) (hs : Small ss) (hc : n ≤ c) :
    Calls Tryz.prog 196 #[.agg #[.int .i64 k, .int .i64 l, .slice A n c]] w fun e w' => e = .returned (.int .i64 (sizeL ss)) ∧ Ext w w' := by
  subst hn
  have H := Lib.hid h; clear h
  have hl := hs.1
  have HS := Lib.hid hs; clear hs
  have X0 := Lib.hid ((Ext.refl w).alloc (.cells #[.int .i64 k, .int .i64 l, .slice A ss.length c] 64))
  go_enter Tryz.func196, Tryz.ntmps196
  go_wp2_with (go_at_call 240; refine (rplain_any _ _ _ _ _ _ (H.out.ext X0.out) hl hc).mono ?_; rintro e w1 ⟨A1, c1, rfl, hown, hx⟩; have Hown := Lib.hid hown; have X1 := Lib.hid (X0.out.trans hx); clear hown hx)
  have hsm := Small.plain HS.out
  have hpl : (plainL ss).length ≤ 100000 := hsm.1
  have Hp := Lib.hid hsm; clear hsm
  obtain ⟨ps, hps⟩ : ∃ ps, ps = plainL ss := ⟨_, rfl⟩
  rw [← hps] at Hown Hp hpl ⊢
  have Hps := Lib.hid hps; clear hps
  have HA := Lib.hid ((At.of_own Hown.out).ext ((Ext.refl w1).alloc (.cells #[.int .i64 k, .int .i64 l, .slice A1 ps.length c1] 64)))
  go_loop [3, 5] (fun n i => ∃ j : Nat, j ≤ ps.length ∧ i = .int .i64 j ∧ n = .int .i64 ((14 + sizeT (ps.take j) : Nat) : Int)) (fun _ i => ps.length - (intOf i).toNat)
  case atStart => exact ⟨0, Nat.zero_le _, rfl, rfl⟩
  case round =>
    obtain ⟨j, hj, rfl, rfl⟩ := hrel
    have hb := Small.take Hp.out j
    rcases Nat.lt_or_ge j ps.length with hlt | hge
    · obtain ⟨ad, rfl, _, hcell⟩ := HA.out.get (k := j) (by simpa using hlt)
      rw [List.getElem_map] at hcell
      have hsz : (ps[j]).size ≤ 1000000 := Hp.out.2 _ (List.getElem_mem hlt)
      have Hn := Lib.hid (sizeT_take_succ ps j hlt)
      obtain ⟨s, hs⟩ : ∃ s, s = ps[j] := ⟨_, rfl⟩
      rw [← hs] at hsz Hn hcell
      clear hs
      obtain ⟨t, ht⟩ : ∃ t, t = sizeT (ps.take j) := ⟨_, rfl⟩
      rw [← ht] at Hn hb ⊢
      clear ht
      go_wp2
      go_round
      case rel => exact ⟨j + 1, by omega, by go_num, by rw [Hn.out]; go_num⟩
      case measure => simp [intOf]; omega
    · obtain rfl : j = ps.length := by omega
      go_wp2
      go_ret
      exact ⟨ret_int (by rw [sizeL, ← Hps.out]; omega), X1.out.alloc _⟩
end
end Go.Proofs.YtjnplglnnamfdaaGreatDoor
namespace Go.Proofs.YtjnplglnnamfdaaGreatDoor
section
set_option linter.unusedVariables false
set_option linter.unusedSimpArgs false
open Go.RowKit
set_option maxRecDepth 100000 in
set_option maxHeartbeats 2000000 in
theorem rright_any (k l : Int) (A : Option Addr) (n c : Nat) (ss : List ByteArray) (w : World) (hn : n = ss.length) (h : At w A (ss.map Value.string)) (hs : Small ss) (hc : n ≤ c) :
    Calls Tryz.prog 194 #[.agg #[.int .i64 k, .int .i64 l, .slice A n c]] w (Ret1 (.bool (rightB k l ss)) w) := by
  subst hn
  have H := Lib.hid h; clear h
  have hl := hs.1
  have HS := Lib.hid hs; clear hs
  have X0 := Lib.hid ((Ext.refl w).alloc (.cells #[.int .i64 k, .int .i64 l, .slice A ss.length c] 64))
  by_cases h1 : 0 ≤ k
  · by_cases h2 : k ≤ 2
    · by_cases h3 : 0 ≤ l
      · by_cases h4 : l ≤ 2147483647
        · by_cases h5 : ss.length ≤ 24
          · have h5' : (ss.length : Int) ≤ 24 := by omega
            obtain ⟨z, hz⟩ : ∃ z, z = sizeL ss := ⟨_, rfl⟩
            have Hz := Lib.hid hz
            clear hz
            by_cases h7 : 512 < z
            · have h7' : 512 < (z : Int) := by omega
              go_enter Tryz.func194, Tryz.ntmps194
              go_wp2_with (go_at_call 196; refine (rsize_any _ _ _ _ _ _ _ rfl (H.out.ext X0.out) HS.out hc).mono ?_; rw [← Hz.out]; rintro e w1 ⟨rfl, hx⟩; have X1 := Lib.hid (X0.out.trans hx); clear hx)
              go_ret
              exact Ret1.bool (by simp [rightB, ← Hz.out]; intros; omega) X1.out
            · have h7' : (z : Int) ≤ 512 := by omega
              go_enter Tryz.func194, Tryz.ntmps194
              go_wp2_with (go_at_call 196; refine (rsize_any _ _ _ _ _ _ _ rfl (H.out.ext X0.out) HS.out hc).mono ?_; rw [← Hz.out]; rintro e w1 ⟨rfl, hx⟩; have X1 := Lib.hid (X0.out.trans hx); have p2 : w1.cell? ⟨w.heap.size, 2, none⟩ = some (.slice A ss.length c) := hx.cell_new 2; clear hx)
              go_loop [3] (fun i => ∃ j : Nat, j ≤ ss.length ∧ i = .int .i64 j ∧ longB (ss.take j) = false) (fun i => ss.length - (intOf i).toNat)
              case atStart => exact ⟨0, Nat.zero_le _, rfl, rfl⟩
              case round =>
                obtain ⟨j, hj, rfl, ht⟩ := hrel
                have Ht := Lib.hid ht; clear ht
                rcases Nat.lt_or_ge j ss.length with hlt | hge
                · obtain ⟨ad, rfl, _, hcell⟩ := (H.out.ext X1.out).get (k := j) (by simpa using hlt)
                  rw [List.getElem_map] at hcell
                  have hsz : (ss[j]).size ≤ 1000000 := HS.out.2 _ (List.getElem_mem hlt)
                  obtain ⟨s, hs⟩ : ∃ s, s = ss[j] := ⟨_, rfl⟩
                  rw [← hs] at hcell hsz
                  have Hs := Lib.hid hs; clear hs
                  rcases Nat.lt_or_ge 400 s.size with h8 | h8
                  · go_wp2
                    go_ret
                    have hL := longB_of ss j hlt (by rw [← Hs.out]; exact h8)
                    exact Ret1.bool (by simp [rightB, hL]) X1.out
                  · have hn : longB (ss.take (j + 1)) = false := by rw [longB_take_succ ss j hlt, Ht.out, ← Hs.out]; simpa using h8
                    have Hn := Lib.hid hn; clear hn
                    go_wp2
                    go_round
                    case rel => exact ⟨j + 1, by omega, by go_num, Hn.out⟩
                    case measure => simp [intOf]; omega
                · obtain rfl : j = ss.length := by omega
                  rw [List.take_length] at Ht
                  go_wp2
                  go_ret
                  exact Ret1.bool (by simp [rightB, h1, h2, h3, h4, h5, Ht.out, ← Hz.out]; omega) X1.out
          · have h5' : ¬ (ss.length : Int) ≤ 24 := by omega
            go_enter Tryz.func194, Tryz.ntmps194
            go_wp2
            go_ret
            exact Ret1.bool (by simp [rightB, h5]) X0.out
        · go_enter Tryz.func194, Tryz.ntmps194
          go_wp2
          go_ret
          exact Ret1.bool (by simp [rightB]; intros; omega) X0.out
      · go_enter Tryz.func194, Tryz.ntmps194
        go_wp2
        go_ret
        exact Ret1.bool (by simp [rightB]; intros; omega) X0.out
    · go_enter Tryz.func194, Tryz.ntmps194
      go_wp2
      go_ret
      exact Ret1.bool (by simp [rightB]; intros; omega) X0.out
  · go_enter Tryz.func194, Tryz.ntmps194
    go_wp2
    go_ret
    exact Ret1.bool (by simp [rightB]; intros; omega) X0.out
def itemF (ss : List ByteArray) (i : Int) : ByteArray := if i < 0 then ByteArray.empty else ss.getD i.toNat ByteArray.empty
theorem Ret1.str {a b : ByteArray} {w w1 : World} (h : a = b) (hx : Ext w w1) : Ret1 (.string b) w (.returned (.string a)) w1 := ⟨by rw [h], hx⟩
set_option maxRecDepth 100000 in
set_option maxHeartbeats 1000000 in
theorem ritem_any (k l : Int) (A : Option Addr) (n c : Nat) (ss : List ByteArray) (i : Int) (w : World) (hn : n = ss.length) (h : At w A (ss.map Value.string)) (_hl : ss.length ≤ 100000) :
    Calls Tryz.prog 241 #[.agg #[.int .i64 k, .int .i64 l, .slice A n c], .int .i64 i] w (Ret1 (.string (itemF ss i)) w) := by
  subst hn
  have H := Lib.hid h; clear h
  have X0 := Lib.hid ((Ext.refl w).alloc (.cells #[.int .i64 k, .int .i64 l, .slice A ss.length c] 64))
  rcases Int.lt_or_le i 0 with h0 | h0
  · go_enter Tryz.func241, Tryz.ntmps241
    go_wp2
    go_ret
    exact Ret1.str (by rw [itemF, if_pos h0]; rfl) X0.out
  · obtain ⟨j, rfl⟩ := Int.eq_ofNat_of_zero_le h0
    rcases Nat.lt_or_ge j ss.length with hlt | hge
    · obtain ⟨ad, rfl, _, hcell⟩ := (H.out.ext X0.out).get (k := j) (by simpa using hlt)
      rw [List.getElem_map] at hcell
      have He := Lib.hid (show itemF ss j = ss[j] by rw [itemF, if_neg (by omega), Int.toNat_natCast]; simp [List.getD, hlt])
      obtain ⟨s, hs⟩ : ∃ s, s = ss[j] := ⟨_, rfl⟩
      rw [← hs] at hcell He
      clear hs
      go_enter Tryz.func241, Tryz.ntmps241
      go_wp2
      go_ret
      exact Ret1.str He.out.symm X0.out
    · have He := Lib.hid (show itemF ss j = ByteArray.empty by rw [itemF, if_neg (by omega), Int.toNat_natCast]; simp [List.getD, List.getElem?_eq_none hge])
      go_enter Tryz.func241, Tryz.ntmps241
      go_wp2
      go_ret
      exact Ret1.str (by rw [He.out]; rfl) X0.out
end
end Go.Proofs.YtjnplglnnamfdaaGreatDoor
namespace Go.Proofs.YtjnplglnnamfdaaGreatDoor
section
set_option linter.unusedVariables false
set_option linter.unusedSimpArgs false
open Go.RowKit
theorem item_get (ss : List ByteArray) (i : Nat) : itemF ss i = ss.getD i ByteArray.empty := by
  rw [itemF, if_neg (by omega), Int.toNat_natCast]
theorem item_ge (ss : List ByteArray) (i : Nat) (h : ss.length ≤ i) : (itemF ss i).toList.isEmpty = true := by
  rw [item_get]; simp [List.getD, List.getElem?_eq_none h]
set_option maxRecDepth 100000 in
set_option maxHeartbeats 1000000 in
theorem rfree_any (k l : Int) (A : Option Addr) (n c : Nat) (ss : List ByteArray) (fr : Int) (w : World) (hn : n = ss.length) (h : At w A (ss.map Value.string)) (hs : Small ss) (hc : n ≤ c) :
    Calls Tryz.prog 198 #[.agg #[.int .i64 k, .int .i64 l, .slice A n c], .int .i64 fr] w (Ret1 (.int .i64 (freeF k l ss fr)) w) := by
  subst hn
  have H := Lib.hid h; clear h
  have hl := hs.1
  have HS := Lib.hid hs; clear hs
  have X0 := Lib.hid ((Ext.refl w).alloc (.cells #[.int .i64 k, .int .i64 l, .slice A ss.length c] 64))
  rcases hr : rightB k l ss with _ | _
  · have HR := Lib.hid hr; clear hr
    go_enter Tryz.func198, Tryz.ntmps198
    go_wp2_with (go_at_call 194; refine (rright_any _ _ _ _ _ _ _ rfl (H.out.ext X0.out) HS.out hc).mono ?_; rw [HR.out]; rintro e w1 ⟨rfl, hx⟩; have X1 := Lib.hid (X0.out.trans hx); clear hx)
    go_ret
    exact Ret1.int (by rw [freeF, HR.out]; rfl) X1.out
  · have HR := Lib.hid hr; clear hr
    obtain ⟨K, hK⟩ : ∃ K, K = (max fr 0).toNat := ⟨_, rfl⟩
    have HF := Lib.hid (show freeF k l ss fr = frL ss (24 - K) K by rw [freeF, HR.out, if_pos rfl, hK])
    have HK := Lib.hid hK
    clear hK
    rcases Int.lt_or_le fr 0 with hfr | hfr
    all_goals
      go_enter Tryz.func198, Tryz.ntmps198
      go_wp2_with (go_at_call 194; refine (rright_any _ _ _ _ _ _ _ rfl (H.out.ext X0.out) HS.out hc).mono ?_; rw [HR.out]; rintro e w1 ⟨rfl, hx⟩; have X1 := Lib.hid hx; clear hx)
      go_loopw [5] (fun i wr => ∃ k' : Nat, i = .int .i64 k' ∧ freeF k l ss fr = frL ss (24 - k') k' ∧ Ext (w.alloc (.cells #[.int .i64 k, .int .i64 l, .slice A ss.length c] 64)) wr) (fun i _ => 24 - (intOf i).toNat)
      case atStart => exact ⟨K, by rw [HK.out]; go_num, HF.out, X1.out⟩
      case round =>
        obtain ⟨k', rfl, hk, hx⟩ := hrel
        have Hk := Lib.hid hk
        have p0 : wr.cell? ⟨w.heap.size, 0, none⟩ = some (.int .i64 k) := hx.cell_new 0
        have p1 : wr.cell? ⟨w.heap.size, 1, none⟩ = some (.int .i64 l) := hx.cell_new 1
        have p2 : wr.cell? ⟨w.heap.size, 2, none⟩ = some (.slice A ss.length c) := hx.cell_new 2
        have XR := Lib.hid hx
        clear hk hx
        rcases Nat.lt_or_ge k' 24 with h24 | h24
        · obtain ⟨n, hn⟩ : ∃ n, 24 - k' = n + 1 := ⟨23 - k', by omega⟩
          have Hn := Lib.hid (show freeF k l ss fr = frL ss (n + 1) k' by rw [Hk.out, hn])
          have HN := Lib.hid (show 24 - (k' + 1) = n by omega)
          have Hge := Lib.hid (item_ge ss k')
          have Hget := Lib.hid (item_get ss k')
          clear hn Hk
          obtain ⟨s, hs⟩ : ∃ s, s = itemF ss k' := ⟨_, rfl⟩
          rw [← hs] at Hge Hget
          have Hs := Lib.hid hs
          clear hs
          rcases he : s.toList.isEmpty with _ | _
          · have He := Lib.hid he
            go_wp2_with (go_at_call 241; refine (ritem_any _ _ _ _ _ _ _ _ rfl (H.out.ext (X0.out.trans XR.out)) hl).mono ?_; rw [← Hs.out]; rintro e w2 ⟨rfl, hx⟩; have X2 := Lib.hid (XR.out.trans hx); clear hx)
            go_roundw
            case rel => exact ⟨k' + 1, by go_num, by rw [Hn.out, frL_succ, if_neg (fun h => by have := Hge.out h; rw [He.out] at this; cases this), ← Hget.out, He.out, HN.out]; rfl, X2.out⟩
            case measure => simp [intOf]; omega
          · have He := Lib.hid he
            go_wp2_with (go_at_call 241; refine (ritem_any _ _ _ _ _ _ _ _ rfl (H.out.ext (X0.out.trans XR.out)) hl).mono ?_; rw [← Hs.out]; rintro e w2 ⟨rfl, hx⟩; have X2 := Lib.hid (X0.out.trans (XR.out.trans hx)); clear hx)
            go_ret
            exact Ret1.int (by rw [Hn.out, frL_succ, ← Hget.out, He.out]; simp) X2.out
        · go_wp2
          go_ret
          exact Ret1.int (by rw [Hk.out, show 24 - k' = 0 by omega]; rfl) (X0.out.trans XR.out)
end
end Go.Proofs.YtjnplglnnamfdaaGreatDoor
namespace Go.Proofs.YtjnplglnnamfdaaGreatDoor
section
set_option linter.unusedVariables false
set_option linter.unusedSimpArgs false
open Go.RowKit
theorem rplain_n (k l : Int) (A : Option Addr) (n c : Nat) (ss : List ByteArray) (w : World) (hn : n = ss.length) (h : At w A (ss.map Value.string)) (hl : ss.length ≤ 100000) (hc : n ≤ c) :
    Calls Tryz.prog 240 #[.agg #[.int .i64 k, .int .i64 l, .slice A n c]] w (PgOne k l (plainL ss) w) := by
  subst hn; exact rplain_any k l A c ss w h hl hc
def WithRel (pl : List ByteArray) (K : Nat) (k l : Int) (B base : Nat) (W0 wr : World) : Prop :=
  ∃ m A c, Blk wr B 64 #[.int .i64 k, .int .i64 l, .slice A m c] ∧ pl.length ≤ m ∧ (m ≤ pl.length ∨ m ≤ K + 1) ∧
    wr.ownsRow base 9 1 (.slice A m c) m ((pl ++ List.replicate (m - pl.length) ByteArray.empty).map Value.string) ∧ Ext W0 wr
def padLeft (w : World) (B K : Nat) : Nat := match w.cell? ⟨B, 2, none⟩ with | some (.slice _ n _) => K + 1 - n | _ => 0
set_option maxRecDepth 100000 in
set_option maxHeartbeats 2000000 in
theorem rwith_any (k l : Int) (A : Option Addr) (n c : Nat) (ss : List ByteArray) (K : Nat) (s : ByteArray) (w : World) (hn : n = ss.length) (h : At w A (ss.map Value.string)) (hs : Small ss) (hc : n ≤ c) (hK : K < 24) :
    Calls Tryz.prog 195 #[.agg #[.int .i64 k, .int .i64 l, .slice A n c], .int .i64 K, .string s] w (PgOne k l (plainL (withL ss K s)) w) := by
  subst hn
  have H := Lib.hid h; clear h
  have hp24 := (Small.plain hs).1
  have hl := hs.1
  have HS := Lib.hid hs; clear hs
  obtain ⟨i0, hi0, hz0, hz1, hz2⟩ := info_parts Tryz.infoStr
  have X0 := Lib.hid (((Ext.refl w).alloc (.cells #[.int .i64 k, .int .i64 l, .slice A ss.length c] 64)).alloc (.cells #[.int .i64 0, .int .i64 0, .slice none 0 0] 64))
  go_enter Tryz.func195, Tryz.ntmps195
  go_wp2_with (go_at_call 240; refine (rplain_any _ _ _ _ _ _ (H.out.ext X0.out) hl hc).mono ?_; rintro e w1 ⟨A1, c1, rfl, hown, hx⟩; have Hown := Lib.hid hown; have X1 := Lib.hid hx; have hzz := hx.two.2.2; clear hown hx)
  go_loopw [15] (fun _ wr => WithRel (plainL ss) K k l w1.heap.size (w.heap.size + 2) ((w.alloc (.cells #[.int .i64 k, .int .i64 l, .slice A ss.length c] 64)).alloc (.cells #[.int .i64 0, .int .i64 0, .slice none 0 0] 64)) wr) (fun _ wr => padLeft wr w1.heap.size K)
  case atStart => exact ⟨_, A1, c1, Blk.new _ _ _, Nat.le_refl _, .inl (Nat.le_refl _), by simpa using (own_mono (base' := w.heap.size + 2) Hown.out (by simp)).alloc _, X1.out.alloc _⟩
  case round =>
    obtain ⟨m, A', c', hblk, hm1, hm2, hown, hx⟩ := hrel
    have Hw := Lib.hid hown
    have XR := Lib.hid hx
    have HB := Lib.hid hblk
    have b0 : wr.cell? ⟨w1.heap.size, 0, none⟩ = some (.int .i64 k) := hblk.cell 0
    have b1 : wr.cell? ⟨w1.heap.size, 1, none⟩ = some (.int .i64 l) := hblk.cell 1
    have b2 : wr.cell? ⟨w1.heap.size, 2, none⟩ = some (.slice A' m c') := hblk.cell 2
    have e2 := hblk.frozen 2
    have hbz := hblk.lt
    clear hown hx hblk
    rcases Nat.lt_or_ge K m with hlt | hge
    · obtain ⟨g, rfl, hg1, hg2⟩ := own_pos Hw.out (by omega)
      have hme : m = (withL ss K s).length := by simp [withL, padTo]; omega
      have ho := (At.of_own Hw.out).get0 (k := K) (by simp; omega)
      have hfz := Hw.out.frozenAt (xs := (plainL ss ++ List.replicate (m - (plainL ss).length) ByteArray.empty).map Value.string) K
      have hwl : (withL ss K s).length ≤ 100000 := by omega
      have hst := with_stored (s := s) Hw.out hm1 hm2 hlt
      generalize ((plainL ss ++ List.replicate (m - (plainL ss).length) ByteArray.empty).map Value.string)[K]'(by simp; omega) = ov at ho
      obtain ⟨cur, hcur, _⟩ := own_blk Hw.out
      have hne := hcur.ne_ HB.out (by decide)
      have HB2 := Lib.hid (HB.out.far (p := ⟨g, K, none⟩) hne.symm (.string s))
      have Hst := Lib.hid hst
      have Hme := Lib.hid hme
      have Hcap := Lib.hid (own_cap Hw.out)
      clear hst hme hcur
      go_wp2_with (go_at_call 240; refine (rplain_n _ _ _ _ _ _ _ Hme.out (At.of_own Hst.out) hwl Hcap.out).mono ?_; rintro e w3 ⟨A3, c3, rfl, hown, hx⟩; have hx3 := (XR.out.set (p := ⟨g, K, none⟩) (by simpa only [World.size_alloc] using hg1) (.string s)).trans hx; have X3 := Lib.hid hx3; obtain ⟨_, _, q0, q1, q2, f0, f1, f2⟩ := put_held hx3; have Hown3 := Lib.hid hown; clear hown hx hx3)
      refine bodyPost_ret (v := .agg #[.int .i64 k, .int .i64 l, .slice A3 (plainL (withL ss K s)).length c3]) (by simp [results, Tryz.results195, go_sem, q0, q1, q2]) rfl ?_
      refine ⟨A3, c3, rfl, ?_, ((((X0.out.trans X3.out).set (by simp) _).set (by simp) _).set (by simp) _)⟩
      have hz : w.heap.size + 1 < (wr.setCell ⟨g, K, none⟩ (.string s)).heap.size := by have := XR.out.size2; simp only [World.setCell, Array.size_modify]; omega
      exact own_mono (ownsRow_setCell_below (ownsRow_setCell_below (ownsRow_setCell_below Hown3.out hz _) hz _) hz _) (by omega)
    · go_wp2_with (at_builtin; go_must (refine wpl_append _ rfl (.tmp 16) (.tmp 17) 62 rfl (w.heap.size + 2) 9 i0 _ 16 Tryz.underlying62 hi0 hz0 hz1 hz2 rfl _ _ _ rfl (Hw.out.alloc _) (some ⟨wr.heap.size, 0, none⟩) 1 1 [.string ⟨#[]⟩] rfl rfl (At.one_new _ _ _) (by intro u hu; simp at hu; subst hu; rfl) (by simp only [maxLen]; omega) (by omega) (by have := XR.out.size2; simp only [World.size_alloc]; omega) ?_; intro v' w4 hown' hg' _; obtain ⟨A4, c4, rfl, _⟩ := own_form hown'; have hn4 := own_ne (Hw.out.alloc (.cells #[.string ⟨#[]⟩] 9)) (HB.out.alloc (.cells #[.string ⟨#[]⟩] 9)) (by decide); have hb4 := (HB.out.alloc (.cells #[.string ⟨#[]⟩] 9)).grown hg' hn4; have r2 : w4.cell? ⟨w1.heap.size, 2, none⟩ = some (.slice A' m c') := hb4.cell 2; have g2 := hb4.frozen 2; have HO := Lib.hid hown'; have HG := Lib.hid hg'; have HB4 := Lib.hid hb4; clear hown' hg' hb4 hn4))
      go_roundw
      case rel => exact ⟨m + 1, A4, c4, HB4.out.set_ 2 _, by omega, .inr (by omega), own_set (pad_step rfl HO.out hm1) (own_ne HO.out HB4.out (by decide)) 2 _, ((XR.out.alloc _).grown HG.out (fun k hk => by have := own_block Hw.out k hk; simpa only [World.size_alloc] using this)).set (by have := X1.out.size2; simp only [World.size_alloc]; omega) _⟩
      case measure =>
        have r3 : (w4.setCell ⟨w1.heap.size, 2, none⟩ (.slice A4 (m + 1) c4)).cell? ⟨w1.heap.size, 2, none⟩ = some (.slice A4 (m + 1) c4) := (HB4.out.set_ 2 _).cell 2
        simp only [padLeft, r3, b2]
        omega
end
end Go.Proofs.YtjnplglnnamfdaaGreatDoor
namespace Go.Proofs.YtjnplglnnamfdaaGreatDoor
section
set_option linter.unusedVariables false
set_option linter.unusedSimpArgs false
open Go.RowKit
/-- the reference's answer: a page and an error, in one struct -/
def GotPost (k l : Int) (ss : List ByteArray) (err : Int) (w : World) (e : Ending) (w' : World) : Prop :=
  ∃ A c, e = .returned (.agg #[.int .i64 k, .int .i64 l, .slice A ss.length c, .int .i64 err]) ∧
    w'.ownsRow w.heap.size 9 1 (.slice A ss.length c) ss.length (ss.map Value.string) ∧ Ext w w'
def RPutPost (k l : Int) (ss : List ByteArray) (slot : Int) (s : ByteArray) (w : World) : Ending → World → Prop :=
  if putErr k l ss slot s = 0 then GotPost k l (plainL (withL ss slot.toNat s)) 0 w else GotPost 0 0 [] (putErr k l ss slot s) w
theorem GotPost.zero {err : Int} {w w' : World} (h : Ext w w') : GotPost 0 0 [] err w (.returned (.agg #[.int .i64 0, .int .i64 0, .slice none 0 0, .int .i64 err])) w' :=
  ⟨none, 0, rfl, World.ownsRow_nil _ _ _ _, h⟩
theorem got_held {w W : World} {k l : Int} {A : Option Addr} {n c : Nat}
    (h : Ext ((w.alloc (.cells #[.int .i64 k, .int .i64 l, .slice A n c] 64)).alloc (.cells #[.int .i64 0, .int .i64 0, .slice none 0 0, .int .i64 0] 224)) W) :
    (W.cell? ⟨w.heap.size, 0, none⟩ = some (.int .i64 k) ∧ W.cell? ⟨w.heap.size, 1, none⟩ = some (.int .i64 l) ∧ W.cell? ⟨w.heap.size, 2, none⟩ = some (.slice A n c)) ∧
    (W.cell? ⟨w.heap.size + 1, 0, none⟩ = some (.int .i64 0) ∧ W.cell? ⟨w.heap.size + 1, 1, none⟩ = some (.int .i64 0) ∧ W.cell? ⟨w.heap.size + 1, 2, none⟩ = some (.slice none 0 0) ∧ W.cell? ⟨w.heap.size + 1, 3, none⟩ = some (.int .i64 0)) ∧
    (W.frozen? ⟨w.heap.size + 1, 0, none⟩ = false ∧ W.frozen? ⟨w.heap.size + 1, 1, none⟩ = false ∧ W.frozen? ⟨w.heap.size + 1, 2, none⟩ = false ∧ W.frozen? ⟨w.heap.size + 1, 3, none⟩ = false) ∧ w.heap.size + 1 < W.heap.size :=
  ⟨⟨h.two0.1 0, h.two0.1 1, h.two0.1 2⟩, ⟨h.two.1 0, h.two.1 1, h.two.1 2, h.two.1 3⟩, ⟨h.two.2.1 0, h.two.2.1 1, h.two.2.1 2, h.two.2.1 3⟩, h.two.2.2⟩
set_option maxRecDepth 100000 in
set_option maxHeartbeats 1000000 in
theorem rput_not (k l : Int) (A : Option Addr) (c : Nat) (ss : List ByteArray) (slot : Int) (s : ByteArray) (w : World) (h : At w A (ss.map Value.string)) (hs : Small ss) (hc : ss.length ≤ c) (hr : rightB k l ss = false) :
    Calls Tryz.prog 120 #[.agg #[.int .i64 k, .int .i64 l, .slice A ss.length c], .int .i64 slot, .string s] w (GotPost 0 0 [] 22 w) := by
  have H := Lib.hid h; clear h
  have HR := Lib.hid hr; clear hr
  have HS := Lib.hid hs; clear hs
  have X0 := Lib.hid (((Ext.refl w).alloc (.cells #[.int .i64 k, .int .i64 l, .slice A ss.length c] 64)).alloc (.cells #[.int .i64 0, .int .i64 0, .slice none 0 0, .int .i64 0] 224))
  go_enter Tryz.func120, Tryz.ntmps120
  go_wp2_with (go_at_call 194; refine (rright_any _ _ _ _ _ _ _ rfl (H.out.ext X0.out) HS.out hc).mono ?_; rw [HR.out]; rintro e w1 ⟨rfl, hx⟩; have X1 := Lib.hid (X0.out.trans hx); obtain ⟨_, ⟨q0, q1, q2, q3⟩, ⟨f0, f1, f2, f3⟩, hzz⟩ := got_held hx; clear hx)
  refine bodyPost_ret (v := .agg #[.int .i64 0, .int .i64 0, .slice none 0 0, .int .i64 22]) (by simp [results, Tryz.results120, go_sem, q0, q1, q2, q3]) rfl (GotPost.zero ?_)
  repeat (first | exact X1.out | refine Ext.set ?_ (by simp) _)
set_option maxRecDepth 100000 in
set_option maxHeartbeats 1000000 in
theorem rput_item (k l : Int) (A : Option Addr) (c : Nat) (ss : List ByteArray) (slot : Int) (s : ByteArray) (w : World) (h : At w A (ss.map Value.string)) (hs : Small ss) (hc : ss.length ≤ c) (hr : rightB k l ss = true)
    (hb : slot < 0 ∨ 24 ≤ slot ∨ 400 < s.size) (hss : s.size ≤ 9223372036854775807) :
    Calls Tryz.prog 120 #[.agg #[.int .i64 k, .int .i64 l, .slice A ss.length c], .int .i64 slot, .string s] w (GotPost 0 0 [] 21 w) := by
  have H := Lib.hid h; clear h
  have HR := Lib.hid hr; clear hr
  have HS := Lib.hid hs; clear hs
  have X0 := Lib.hid (((Ext.refl w).alloc (.cells #[.int .i64 k, .int .i64 l, .slice A ss.length c] 64)).alloc (.cells #[.int .i64 0, .int .i64 0, .slice none 0 0, .int .i64 0] 224))
  have h3 : slot < 0 ∨ (0 ≤ slot ∧ 24 ≤ slot) ∨ (0 ≤ slot ∧ slot < 24 ∧ 400 < (s.size : Int)) := by omega
  clear hb
  rcases h3 with h1 | ⟨h0, h1⟩ | ⟨h0, h1, h2⟩
  all_goals
    go_enter Tryz.func120, Tryz.ntmps120
    go_wp2_with (go_at_call 194; refine (rright_any _ _ _ _ _ _ _ rfl (H.out.ext X0.out) HS.out hc).mono ?_; rw [HR.out]; rintro e w1 ⟨rfl, hx⟩; have X1 := Lib.hid (X0.out.trans hx); obtain ⟨_, ⟨q0, q1, q2, q3⟩, ⟨f0, f1, f2, f3⟩, hzz⟩ := got_held hx; clear hx)
    refine bodyPost_ret (v := .agg #[.int .i64 0, .int .i64 0, .slice none 0 0, .int .i64 21]) (by simp [results, Tryz.results120, go_sem, q0, q1, q2, q3]) rfl (GotPost.zero ?_)
    repeat (first | exact X1.out | refine Ext.set ?_ (by simp) _)
theorem rput_20 {k l : Int} {ss : List ByteArray} {K : Nat} {s : ByteArray} {w : World} (hr : rightB k l ss = true) (hK : K < 24) (hs : s.size ≤ 400) (hz : 512 < sizeL (plainL (withL ss K s))) (hp : sizeL (plainL (withL ss K s)) = sizeL (withL ss K s)) :
    RPutPost k l ss K s w = GotPost 0 0 [] 20 w := by
  have e : putErr k l ss K s = 20 := by
    rw [putErr, hr, if_neg (by simp), if_neg (by omega), Int.toNat_natCast, if_pos (by omega)]
  rw [RPutPost, e, if_neg (by decide)]
theorem rput_0 {k l : Int} {ss : List ByteArray} {K : Nat} {s : ByteArray} {w : World} (hr : rightB k l ss = true) (hK : K < 24) (hs : s.size ≤ 400) (hz : sizeL (plainL (withL ss K s)) ≤ 512) (hp : sizeL (plainL (withL ss K s)) = sizeL (withL ss K s)) :
    RPutPost k l ss K s w = GotPost k l (plainL (withL ss K s)) 0 w := by
  have e : putErr k l ss K s = 0 := by
    rw [putErr, hr, if_neg (by simp), if_neg (by omega), Int.toNat_natCast, if_neg (by omega)]
  rw [RPutPost, e, if_pos rfl, Int.toNat_natCast]
theorem trimN_take (ss : List ByteArray) (n : Nat) (h : n ≤ trimN ss n) : ∀ m, n ≤ m → trimN (ss.take m) n = n := by
  intro m hm
  rcases n with _ | n
  · rfl
  · have h1 : (ss.getD n ByteArray.empty).toList.isEmpty = false := by
      rw [trimN_succ] at h
      split at h
      · have := trimN_le ss n; omega
      · rename_i hne; exact Bool.eq_false_iff.2 hne
    rw [trimN_succ]
    have h2 : (ss.take m).getD n ByteArray.empty = ss.getD n ByteArray.empty := by
      simp only [List.getD, List.getElem?_take]
      rw [if_pos (by omega)]
    rw [h2, h1]
    rfl
theorem trimN_idem (ss : List ByteArray) : ∀ n, trimN ss (trimN ss n) = trimN ss n
  | 0 => rfl
  | n + 1 => by
    rw [trimN_succ]
    split
    · exact trimN_idem ss n
    · rename_i h; rw [trimN_succ, if_neg h]
theorem plain_plain (ss : List ByteArray) : plainL (plainL ss) = plainL ss := by
  have h := trimN_take ss (trimN ss ss.length) (by rw [trimN_idem]; exact Nat.le_refl _) (trimN ss ss.length) (Nat.le_refl _)
  have hl := plainL_len ss
  unfold plainL at hl ⊢
  rw [hl, h, List.take_take, Nat.min_self]
set_option maxRecDepth 100000 in
set_option maxHeartbeats 2000000 in
theorem rput_main (k l : Int) (A : Option Addr) (c : Nat) (ss : List ByteArray) (K : Nat) (s : ByteArray) (w : World) (h : At w A (ss.map Value.string)) (hs : Small ss) (hc : ss.length ≤ c) (hr : rightB k l ss = true)
    (hK : K < 24) (hss : s.size ≤ 400) :
    Calls Tryz.prog 120 #[.agg #[.int .i64 k, .int .i64 l, .slice A ss.length c], .int .i64 K, .string s] w (RPutPost k l ss K s w) := by
  have H := Lib.hid h; clear h
  have hv24 := (right_parts hr).2.2.1
  have HR := Lib.hid hr; clear hr
  have HS := Lib.hid hs; clear hs
  have HW := Lib.hid (small_with hv24 K hK s hss)
  have hi1 : ¬ (K : Int) < 0 := by omega
  have hi2 : (K : Int) < 24 := by omega
  have hi3 : ¬ 400 < (s.size : Int) := by omega
  have X0 := Lib.hid (((Ext.refl w).alloc (.cells #[.int .i64 k, .int .i64 l, .slice A ss.length c] 64)).alloc (.cells #[.int .i64 0, .int .i64 0, .slice none 0 0, .int .i64 0] 224))
  have Hpp := Lib.hid (plain_plain (withL ss K s))
  obtain ⟨z, hz⟩ : ∃ z, z = sizeL (plainL (withL ss K s)) := ⟨_, rfl⟩
  have Hz := Lib.hid hz
  clear hz
  have Hpz := Lib.hid (show sizeL (plainL (withL ss K s)) = sizeL (withL ss K s) by rw [sizeL, Hpp.out, sizeL])
  rcases Nat.lt_or_ge 512 z with h5 | h5
  · have h5' : 512 < (z : Int) := by omega
    go_enter Tryz.func120, Tryz.ntmps120
    go_wp2_with (first
      | (go_at_call 194; refine (rright_any _ _ _ _ _ _ _ rfl (H.out.ext X0.out) HS.out hc).mono ?_; rw [HR.out]; rintro e w1 ⟨rfl, hx⟩; have X1 := Lib.hid hx; obtain ⟨⟨p0, p1, p2⟩, _⟩ := got_held hx; clear hx)
      | (go_at_call 195; refine (rwith_any _ _ _ _ _ _ _ _ _ rfl (H.out.ext (X0.out.trans X1.out)) HS.out hc hK).mono ?_; rintro e w2 ⟨A2, c2, rfl, hown, hx⟩; have X2 := Lib.hid (X1.out.trans hx); have Hown := Lib.hid hown; clear hown hx)
      | (go_at_call 196; refine (rsize_any _ _ _ _ _ _ _ rfl ((At.of_own Hown.out).ext ((Ext.refl w2).alloc _)) (Small.plain HW.out) (own_cap Hown.out)).mono ?_; rw [← Hz.out]; rintro e w3 ⟨rfl, hx⟩; have X3 := Lib.hid ((X2.out.alloc (.cells #[.int .i64 k, .int .i64 l, .slice A2 (plainL (withL ss K s)).length c2] 64)).trans hx); obtain ⟨_, ⟨q0, q1, q2, q3⟩, ⟨f0, f1, f2, f3⟩, hzz⟩ := got_held X3.out; clear hx))
    refine bodyPost_ret (v := .agg #[.int .i64 0, .int .i64 0, .slice none 0 0, .int .i64 20]) (by simp [results, Tryz.results120, go_sem, q0, q1, q2, q3]) rfl ?_
    rw [rput_20 HR.out hK hss (by rw [← Hz.out]; exact h5) Hpz.out]
    refine GotPost.zero ?_
    have X4 := X0.out.trans X3.out
    repeat (first | exact X4 | refine Ext.set ?_ (by simp) _)
  · have h5' : (z : Int) ≤ 512 := by omega
    go_enter Tryz.func120, Tryz.ntmps120
    go_wp2_with (first
      | (go_at_call 194; refine (rright_any _ _ _ _ _ _ _ rfl (H.out.ext X0.out) HS.out hc).mono ?_; rw [HR.out]; rintro e w1 ⟨rfl, hx⟩; have X1 := Lib.hid hx; obtain ⟨⟨p0, p1, p2⟩, _⟩ := got_held hx; clear hx)
      | (go_at_call 195; refine (rwith_any _ _ _ _ _ _ _ _ _ rfl (H.out.ext (X0.out.trans X1.out)) HS.out hc hK).mono ?_; rintro e w2 ⟨A2, c2, rfl, hown, hx⟩; have X2 := Lib.hid (X1.out.trans hx); have Hown := Lib.hid hown; clear hown hx)
      | (go_at_call 196; refine (rsize_any _ _ _ _ _ _ _ rfl ((At.of_own Hown.out).ext ((Ext.refl w2).alloc _)) (Small.plain HW.out) (own_cap Hown.out)).mono ?_; rw [← Hz.out]; rintro e w3 ⟨rfl, hx⟩; have X3 := Lib.hid ((X2.out.alloc (.cells #[.int .i64 k, .int .i64 l, .slice A2 (plainL (withL ss K s)).length c2] 64)).trans hx); obtain ⟨_, ⟨q0, q1, q2, q3⟩, ⟨f0, f1, f2, f3⟩, hzz⟩ := got_held X3.out; have r0 : w3.cell? ⟨w2.heap.size, 0, none⟩ = some (.int .i64 k) := hx.cell_new 0; have r1 : w3.cell? ⟨w2.heap.size, 1, none⟩ = some (.int .i64 l) := hx.cell_new 1; have r2 : w3.cell? ⟨w2.heap.size, 2, none⟩ = some (.slice A2 (plainL (withL ss K s)).length c2) := hx.cell_new 2; have Hown3 := Lib.hid (own_ext (own_mono (base' := w.heap.size + 2) Hown.out (by have := X1.out.size2; exact this)) (((Ext.refl w2).alloc _).trans hx)); clear hx))
    refine bodyPost_ret (v := .agg #[.int .i64 k, .int .i64 l, .slice A2 (plainL (withL ss K s)).length c2, .int .i64 0]) (by simp [results, Tryz.results120, go_sem, q0, q1, q2, q3]) rfl ?_
    rw [rput_0 HR.out hK hss (by rw [← Hz.out]; exact h5) Hpz.out]
    have X4 := X0.out.trans X3.out
    refine ⟨A2, c2, rfl, own_mono (base := w.heap.size + 2) ?_ (by omega), ?_⟩
    · repeat (first | exact Hown3.out | refine ownsRow_setCell_below ?_ (by simp) _)
    · repeat (first | exact X4 | refine Ext.set ?_ (by simp) _)
theorem rput_any (k l : Int) (A : Option Addr) (n c : Nat) (ss : List ByteArray) (slot : Int) (s : ByteArray) (w : World) (hn : n = ss.length) (h : At w A (ss.map Value.string)) (hs : Small ss) (hc : n ≤ c) (hss : s.size ≤ 9223372036854775807) :
    Calls Tryz.prog 120 #[.agg #[.int .i64 k, .int .i64 l, .slice A n c], .int .i64 slot, .string s] w (RPutPost k l ss slot s w) := by
  subst hn
  rcases hr : rightB k l ss with _ | _
  · have e : putErr k l ss slot s = 22 := by rw [putErr, if_pos hr]
    rw [RPutPost, e, if_neg (by decide)]
    exact rput_not k l A c ss slot s w h hs hc hr
  · by_cases hb : slot < 0 ∨ 24 ≤ slot ∨ 400 < s.size
    · have e : putErr k l ss slot s = 21 := by rw [putErr, hr, if_neg (by simp), if_pos hb]
      rw [RPutPost, e, if_neg (by decide)]
      exact rput_item k l A c ss slot s w h hs hc hr hb hss
    · obtain ⟨K, rfl⟩ := Int.eq_ofNat_of_zero_le (show 0 ≤ slot by omega)
      exact rput_main k l A c ss K s w h hs hc hr (by omega) (by omega)
end
end Go.Proofs.YtjnplglnnamfdaaGreatDoor
namespace Go.Proofs.YtjnplglnnamfdaaGreatDoor
section
open Go.RowKit
set_option linter.unusedVariables false
set_option linter.unusedSimpArgs false
theorem ba_inj_z {a b : ByteArray} (h : a.toList = b.toList) : a = b := by
  rw [ByteArray.toList_eq, ByteArray.toList_eq] at h
  cases a; cases b
  simp at h
  rw [h]
theorem toList_empty : ByteArray.empty.toList = [] := by rw [ByteArray.toList_eq]; rfl
def emp (s : ByteArray) : Bool := s.toList.isEmpty
theorem emp_iff (s : ByteArray) : emp s = true ↔ s = ByteArray.empty := by
  unfold emp
  constructor
  · intro h
    have h1 : s.toList = [] := by simpa using h
    exact ba_inj_z (by rw [h1, toList_empty])
  · rintro rfl; rw [toList_empty]; rfl
theorem emp_size (s : ByteArray) : emp s = true ↔ s.size = 0 := by
  rw [emp_iff]
  constructor
  · rintro rfl; rfl
  · intro h
    apply ba_inj_z
    rw [ByteArray.toList_eq]
    have : s.data.toList.length = 0 := by simpa using h
    rw [List.eq_nil_of_length_eq_zero this, toList_empty]
theorem frL_spec (ss : List ByteArray) : ∀ n i, (frL ss n i = -1 ∧ ∀ j, i ≤ j → j < i + n → emp (itemF ss j) = false) ∨
    (∃ j : Nat, frL ss n i = j ∧ i ≤ j ∧ j < i + n ∧ emp (itemF ss j) = true ∧ ∀ k, i ≤ k → k < j → emp (itemF ss k) = false)
  | 0, i => .inl ⟨rfl, fun j h1 h2 => by omega⟩
  | n + 1, i => by
    rw [frL_succ]
    by_cases h1 : ss.length ≤ i
    · rw [if_pos h1]
      exact .inr ⟨i, rfl, Nat.le_refl _, by omega, item_ge ss i h1, fun k _ _ => by omega⟩
    · rw [if_neg h1]
      have hi : emp (itemF ss i) = (ss.getD i ByteArray.empty).toList.isEmpty := by rw [item_get, emp]
      cases h2 : (ss.getD i ByteArray.empty).toList.isEmpty with
      | true => exact .inr ⟨i, by simp, Nat.le_refl _, by omega, by rw [hi, h2], fun k _ _ => by omega⟩
      | false =>
        rw [if_neg (by simp)]
        rcases frL_spec ss n (i + 1) with ⟨h3, h4⟩ | ⟨j, h3, h4, h5, h6, h7⟩
        · refine .inl ⟨h3, fun j g1 g2 => ?_⟩
          by_cases e : j = i
          · subst e; rw [hi, h2]
          · exact h4 j (by omega) (by omega)
        · refine .inr ⟨j, h3, by omega, by omega, h6, fun k g1 g2 => ?_⟩
          by_cases e : k = i
          · subst e; rw [hi, h2]
          · exact h7 k (by omega) g2
theorem trimN_emp (ss : List ByteArray) : ∀ n j, trimN ss n ≤ j → j < n → emp (itemF ss j) = true
  | 0, j, _, h => by omega
  | n + 1, j, h1, h2 => by
    rw [trimN_succ] at h1
    split at h1
    · rename_i he
      by_cases e : j = n
      · subst e; rw [item_get]; exact he
      · exact trimN_emp ss n j h1 (by omega)
    · omega
theorem trimN_last (ss : List ByteArray) : ∀ n, 0 < trimN ss n → emp (itemF ss (trimN ss n - 1 : Nat)) = false
  | 0, h => absurd h (Nat.lt_irrefl 0)
  | n + 1, h => by
    rw [trimN_succ] at h ⊢
    split
    · rename_i he; rw [if_pos he] at h; exact trimN_last ss n h
    · rename_i he
      show emp (itemF ss (n + 1 - 1 : Nat)) = false
      rw [Nat.add_sub_cancel, item_get]
      exact Bool.eq_false_iff.2 he
theorem trimN_full {ss : List ByteArray} (h : ss ≠ []) (hl : emp (ss.getLast h) = false) : trimN ss ss.length = ss.length := by
  obtain ⟨n, hn⟩ : ∃ n, ss.length = n + 1 := ⟨ss.length - 1, by have := List.length_pos_iff.2 h; omega⟩
  rw [hn, trimN_succ, if_neg]
  rw [List.getLast_eq_getElem] at hl
  have e : ss.getD n ByteArray.empty = ss[ss.length - 1]'(by omega) := by
    have : n = ss.length - 1 := by omega
    subst this
    simp [List.getD, show ss.length - 1 < ss.length by omega]
  rw [e]
  exact Bool.eq_false_iff.1 hl
theorem plain_full {ss : List ByteArray} (h : ss ≠ []) (hl : emp (ss.getLast h) = false) : plainL ss = ss := by
  rw [plainL, trimN_full h hl, List.take_length]
theorem sizeT_append (a b : List ByteArray) : sizeT (a ++ b) = sizeT a + sizeT b := by simp [sizeT]
theorem sizeT_set (l : List ByteArray) (i : Nat) (s : ByteArray) (h : i < l.length) : sizeT (l.set i s) + l[i].size = sizeT l + s.size := by
  induction l generalizing i with
  | nil => simp at h
  | cons a l ih =>
    rcases i with _ | i
    · simp [sizeT]; omega
    · have := ih i (by simpa using h)
      simp only [List.set_cons_succ, List.getElem_cons_succ]
      simp only [sizeT, List.map_cons, List.sum_cons] at this ⊢
      omega
theorem plain_get {ss : List ByteArray} {i : Nat} (h : i < (plainL ss).length) : (plainL ss)[i] = itemF ss i := by
  have hl := plainL_len ss
  have ht := trimN_le ss ss.length
  rw [item_get]
  simp [plainL, List.getD, show i < ss.length by omega]
theorem plain_trail {ss : List ByteArray} : plainL (ss ++ [ByteArray.empty]) = plainL ss := by
  have e1 : trimN (ss ++ [ByteArray.empty]) (ss ++ [ByteArray.empty]).length = trimN (ss ++ [ByteArray.empty]) ss.length := by
    rw [List.length_append, List.length_singleton, trimN_succ, if_pos]
    simp [List.getD]
  have e2 : ∀ n, n ≤ ss.length → trimN (ss ++ [ByteArray.empty]) n = trimN ss n := by
    intro n
    induction n with
    | zero => intro _; rfl
    | succ n ih =>
      intro hn
      rw [trimN_succ, trimN_succ, ih (by omega)]
      have : (ss ++ [ByteArray.empty]).getD n ByteArray.empty = ss.getD n ByteArray.empty := by
        simp [List.getD, List.getElem?_append, show n < ss.length by omega]
      rw [this]
  rw [plainL, e1, e2 _ (Nat.le_refl _), plainL, List.take_append_of_le_length (trimN_le ss _)]
/-- what a page's size becomes -/
theorem sizeL_with {ss : List ByteArray} {K : Nat} {s : ByteArray} (hK : K ≤ (plainL ss).length) (he : emp (itemF ss K) = true) :
    sizeL (withL ss K s) = sizeL ss + (if s.size = 0 then 0 else s.size + (if (plainL ss).length ≤ K then 2 else 0)) := by
  have hi : itemF ss K = ByteArray.empty := (emp_iff _).1 he
  rcases Nat.lt_or_ge K (plainL ss).length with hlt | hge
  · have ew : withL ss K s = (plainL ss).set K s := by
      rw [withL, padTo, show K + 1 - (plainL ss).length = 0 by omega]
      simp
    have hg : (plainL ss)[K] = ByteArray.empty := by rw [plain_get hlt, hi]
    by_cases h0 : s.size = 0
    · have hs : s = ByteArray.empty := (emp_iff s).1 ((emp_size s).2 h0)
      rw [if_pos h0, ew, hs, ← hg, List.set_getElem_self, Nat.add_zero, sizeL, plain_plain, sizeL]
    · rw [if_neg h0, if_neg (by omega), ew]
      have hne : (plainL ss).set K s ≠ [] := by
        intro e
        have := congrArg List.length e
        simp at this
        rw [this] at hlt
        simp at hlt
      have hlast : emp (((plainL ss).set K s).getLast hne) = false := by
        rw [List.getLast_eq_getElem]
        simp only [List.length_set, List.getElem_set]
        split
        · exact Bool.eq_false_iff.2 fun e => h0 ((emp_size s).1 e)
        · rename_i hKn
          rw [plain_get (by omega)]
          have h1 := plainL_len ss
          have := trimN_last ss ss.length (by omega)
          rw [h1]; exact this
      have hset := sizeT_set (plainL ss) K s hlt
      rw [hg] at hset
      rw [sizeL, plain_full hne hlast, sizeL]
      have : (ByteArray.empty).size = 0 := rfl
      omega
  · have hKe : K = (plainL ss).length := by omega
    have ew : withL ss K s = plainL ss ++ [s] := by
      rw [withL, padTo, show K + 1 - (plainL ss).length = 1 by omega, hKe]
      simp
    by_cases h0 : s.size = 0
    · have hs : s = ByteArray.empty := (emp_iff s).1 ((emp_size s).2 h0)
      rw [if_pos h0, ew, hs, Nat.add_zero, sizeL, plain_trail, plain_plain, sizeL]
    · rw [if_neg h0, if_pos hge, ew]
      have hne : plainL ss ++ [s] ≠ [] := by simp
      have hlast : emp ((plainL ss ++ [s]).getLast hne) = false := by
        rw [List.getLast_concat]
        exact Bool.eq_false_iff.2 fun e => h0 ((emp_size s).1 e)
      rw [sizeL, plain_full hne hlast, sizeT_append, sizeL]
      simp [sizeT]
      omega
end
end Go.Proofs.YtjnplglnnamfdaaGreatDoor
namespace Go.Proofs.YtjnplglnnamfdaaGreatDoor
section
open Go.RowKit
set_option linter.unusedVariables false
set_option linter.unusedSimpArgs false
theorem sizeL_plain (ss : List ByteArray) : sizeL (plainL ss) = sizeL ss := by rw [sizeL, plain_plain, sizeL]
def dF (ss : List ByteArray) (K : Nat) : Nat := if (plainL ss).length ≤ K then 2 else 0
/-- what Room's trial weighs -/
theorem room_ref {k l : Int} {ss : List ByteArray} (hr : rightB k l ss = true) :
    (freeF k l ss 0 = -1 ∧ roomF k l ss = 0) ∨ ∃ K : Nat, freeF k l ss 0 = K ∧ K < 24 ∧ (∀ s : ByteArray, 0 < s.size → sizeL (withL ss K s) = sizeL ss + s.size + dF ss K) ∧
      roomF k l ss = max 0 (min (512 - (sizeL ss : Int) - (dF ss K : Int)) 400) := by
  have hf : freeF k l ss 0 = frL ss 24 0 := by rw [freeF, hr, if_pos rfl]; rfl
  rcases frL_spec ss 24 0 with ⟨h1, h2⟩ | ⟨K, h1, _, h3, h4, h5⟩
  · left
    exact ⟨by rw [hf, h1], by rw [roomF, hf, h1]; rfl⟩
  · right
    have hK : K ≤ (plainL ss).length := by
      rcases Nat.lt_or_ge (plainL ss).length K with h | h
      · exfalso
        have hp := plainL_len ss
        have hn := h5 (plainL ss).length (by omega) h
        have he : emp (itemF ss (plainL ss).length) = true := by
          rcases Nat.lt_or_ge (plainL ss).length ss.length with g | g
          · exact trimN_emp ss ss.length _ (by omega) g
          · exact item_ge ss _ g
        rw [he] at hn; cases hn
      · exact h
    refine ⟨K, by rw [hf, h1], by omega, fun s hs => ?_, ?_⟩
    · rw [sizeL_with hK h4, if_neg (by omega), dF]; omega
    · rw [roomF, hf, h1, if_neg (by omega), dF]
      by_cases g : (plainL ss).length ≤ K
      · rw [if_pos (by omega), if_pos g]; rfl
      · rw [if_neg (by omega), if_neg g]; simp
theorem small_plain_with {ss : List ByteArray} (h : ss.length ≤ 24 ∧ ∀ s ∈ ss, s.size ≤ 400) (K : Nat) (hK : K < 24) (s : ByteArray) (hs : s.size ≤ 400) : Small (plainL (withL ss K s)) := Small.plain (small_with h K hK s hs)
set_option maxRecDepth 100000 in
set_option maxHeartbeats 2000000 in
theorem rroom_any (k l : Int) (A : Option Addr) (n c : Nat) (ss : List ByteArray) (w : World) (hn : n = ss.length) (h : At w A (ss.map Value.string)) (hs : Small ss) (hc : n ≤ c) :
    Calls Tryz.prog 125 #[.agg #[.int .i64 k, .int .i64 l, .slice A n c]] w (Ret1 (.int .i64 (roomF k l ss)) w) := by
  subst hn
  have H := Lib.hid h; clear h
  have hcz := hc
  have HS := Lib.hid hs; clear hs
  have X0 := Lib.hid ((Ext.refl w).alloc (.cells #[.int .i64 k, .int .i64 l, .slice A ss.length c] 64))
  rcases hr : rightB k l ss with _ | _
  · have hf : freeF k l ss 0 = -1 := by rw [freeF, hr]; rfl
    have HZ := Lib.hid (show roomF k l ss = 0 by rw [roomF, hf]; rfl)
    have HF := Lib.hid hf
    clear hf hr
    go_enter Tryz.func125, Tryz.ntmps125
    go_wp2_with fail
    refine (rfree_any _ _ _ _ _ _ _ _ rfl (H.out.ext X0.out) HS.out hc).mono ?_
    rw [HF.out]
    rintro e w1 ⟨rfl, hx⟩
    have X1 := Lib.hid (X0.out.trans hx)
    clear hx
    go_wp2
    go_ret
    exact Ret1.int HZ.out.symm X1.out
  · rcases room_ref hr with ⟨hf, hz⟩ | ⟨K, hf, hK, hw, hz⟩
    · have HZ := Lib.hid hz
      have HF := Lib.hid hf
      clear hf hr hz
      go_enter Tryz.func125, Tryz.ntmps125
      go_wp2_with fail
      refine (rfree_any _ _ _ _ _ _ _ _ rfl (H.out.ext X0.out) HS.out hc).mono ?_
      rw [HF.out]
      rintro e w1 ⟨rfl, hx⟩
      have X1 := Lib.hid (X0.out.trans hx)
      clear hx
      go_wp2
      go_ret
      exact Ret1.int HZ.out.symm X1.out
    · have HZ := Lib.hid hz
      have HF := Lib.hid hf
      have HW := Lib.hid hw
      have HR := Lib.hid hr
      clear hf hr hz hw
      obtain ⟨z, hz⟩ : ∃ z, z = sizeL ss + dF ss K := ⟨_, rfl⟩
      have HD := Lib.hid hz
      clear hz
      go_enter Tryz.func125, Tryz.ntmps125
      go_wp2_with fail
      refine (rfree_any _ _ _ _ _ _ _ _ rfl (H.out.ext X0.out) HS.out hc).mono ?_
      rw [HF.out]
      rintro e w1 ⟨rfl, hx⟩
      have X1 := Lib.hid (X0.out.trans hx)
      have B0 := Lib.hid ((Blk.new w 64 #[.int .i64 k, .int .i64 l, .slice A ss.length c]).ext hx)
      clear hx
      go_wp2
      go_loop [4] (fun v => ∃ s : ByteArray, v = .string s ∧ s.size ≤ 400) (fun v => match v with | .string s => 400 - s.size | _ => 0)
      case atStart => exact ⟨_, rfl, by decide⟩
      case round =>
        obtain ⟨s, rfl, hs⟩ := hrel
        rcases Nat.lt_or_ge s.size 400 with hlt | hge
        · have hlt' : (s.size : Int) < 400 := by omega
          go_wp2
          go_round
          case rel => exact ⟨_, rfl, by rw [ByteArray.size_append]; show s.size + 1 ≤ 400; omega⟩
          case measure =>
            show 400 - (s ++ ⟨#[120]⟩ : ByteArray).size < 400 - s.size
            rw [ByteArray.size_append]
            have e : (⟨#[120]⟩ : ByteArray).size = 1 := rfl
            omega
        · have hge' : ¬ (s.size : Int) < 400 := by omega
          have hse : s.size = 400 := by omega
          have HSe := Lib.hid hse
          clear hse hge
          go_wp2
          go_loopw [5] (fun v wr => ∃ j : Nat, v = .int .i64 j ∧ j ≤ 400 ∧ (∀ m : Nat, j < m → m ≤ 400 → 512 < z + m) ∧ Ext w1 wr) (fun v _ => (intOf v).toNat)
          case atStart => exact ⟨400, rfl, by omega, fun m h1 h2 => by omega, Ext.refl _⟩
          case round =>
            obtain ⟨j, rfl, hj, hm, hx⟩ := hrel
            have HM := Lib.hid hm
            have XR := Lib.hid hx
            clear hm hx
            rcases Nat.eq_zero_or_pos j with h0 | h0
            · subst h0
              go_wp2
              go_ret
              exact Ret1.int (by
                have h1 := HM.out 1 (by omega) (by omega)
                have h2 := HD.out
                rw [HZ.out]; omega) (X1.out.trans XR.out)
            · have h0' : (0 : Int) < (j : Int) := by omega
              have hj' : (j : Int) ≤ 400 := by omega
              obtain ⟨x, hx⟩ : ∃ x, x = s.extract 0 j := ⟨_, rfl⟩
              have hxs : x.size = j := by rw [hx, ByteArray.size_extract]; have := HSe.out; omega
              have hzx := HW.out x (by omega)
              rw [hxs] at hzx
              have hzz := HD.out
              obtain ⟨q, hq⟩ : ∃ q, q = sizeL (plainL (withL ss K x)) := ⟨_, rfl⟩
              have hqz : q = z + j := by rw [hq, sizeL_plain, hzx]; omega
              have Hx := Lib.hid hx
              have Hq := Lib.hid hq
              have Hxs := Lib.hid hxs
              have hjs : (j : Int) ≤ (s.size : Int) := by have := HSe.out; omega
              have HSW := Lib.hid (small_plain_with (ss := ss) (right_parts HR.out).2.2.1 K hK x (by omega))
              clear hx hq hxs hzx hzz
              by_cases hq5 : q ≤ 512
              · have hq5' : decide ((q : Int) ≤ 512) = true := by simp; omega
                go_wp2_with fail
                refine wp_region_E (by kernel_rfl) [0, 0, 0, 0, 12, 31, 63, 127] (fun ix v W => match ix with | 0 => v = .agg #[.int .i64 k, .int .i64 l, .slice A ss.length c] | 1 => v = .int .i64 K | 2 => v = .string s | 3 => v = .int .i64 j | 4 => v = .string x | 5 => ∃ (A24 : Option Addr) (c24 : Nat), v = .agg #[.int .i64 k, .int .i64 l, .slice A24 ((plainL (withL ss K x)).length) c24] ∧ W.ownsRow 0 9 1 (.slice A24 (plainL (withL ss K x)).length c24) (plainL (withL ss K x)).length ((plainL (withL ss K x)).map Value.string) | 6 => v = .int .i64 q | 7 => v = .bool true | _ => True) (by kernel_rfl) (by kernel_rfl) ?_ ?_ ?_
                · intro ix v W W' h hx
                  match ix, h with
                  | 0, h => exact h
                  | 1, h => exact h
                  | 2, h => exact h
                  | 3, h => exact h
                  | 4, h => exact h
                  | 5, h => exact let ⟨A24, c24, he, ho24⟩ := h; ⟨A24, c24, he, own_ext ho24 hx⟩
                  | 6, h => exact h
                  | 7, h => exact h
                  | _ + 8, _ => trivial
                · refine ⟨⟨⟨⟨⟨⟨⟨⟨trivial, ?_⟩, ?_⟩, ?_⟩, ?_⟩, ?_⟩, ?_⟩, ?_⟩, ?_⟩
                  · intro ρ W hS hx hout hpre
                    refine GSay.none rfl ?_
                    have f1 : ρ (.tmp 1) = .pointer (some ⟨w.heap.size, 0, none⟩) := hout 1 (by kernel_rfl)
                    exact DoesU.value (v := .agg #[.int .i64 k, .int .i64 l, .slice A ss.length c]) (w' := W) (by simp [go_sem, f1, (show W.cell? ⟨w.heap.size, 0, none⟩ = some (.int .i64 k) from ((B0.out.ext (XR.out.trans hx))).cell 0), (show W.cell? ⟨w.heap.size, 1, none⟩ = some (.int .i64 l) from ((B0.out.ext (XR.out.trans hx))).cell 1), (show W.cell? ⟨w.heap.size, 2, none⟩ = some (.slice A ss.length c) from ((B0.out.ext (XR.out.trans hx))).cell 2)]) ⟨rfl, Ext.refl _⟩
                  · intro ρ W hS hx hout hpre
                    refine GSay.none rfl ?_
                    have f3 : ρ (.tmp 3) = .int .i64 K := hout 3 (by kernel_rfl)
                    exact DoesU.value (v := .int .i64 K) (w' := W) (by simp [go_sem, f3]) ⟨rfl, Ext.refl _⟩
                  · intro ρ W hS hx hout hpre
                    refine GSay.none rfl ?_
                    have f4 : ρ (.tmp 4) = .string s := hout 4 (by kernel_rfl)
                    exact DoesU.value (v := .string s) (w' := W) (by simp [go_sem, f4]) ⟨rfl, Ext.refl _⟩
                  · intro ρ W hS hx hout hpre
                    refine GSay.none rfl ?_
                    have f5 : ρ (.tmp 5) = .int .i64 j := hout 5 (by kernel_rfl)
                    exact DoesU.value (v := .int .i64 j) (w' := W) (by simp [go_sem, f5]) ⟨rfl, Ext.refl _⟩
                  · intro ρ W hS hx hout hpre
                    refine GSay.none rfl ?_
                    have f21 : ρ (.tmp 21) = .string s := hpre 2 21 (by kernel_rfl)
                    have f22 : ρ (.tmp 22) = .int .i64 j := hpre 3 22 (by kernel_rfl)
                    exact DoesU.value (v := .string x) (w' := W) (by simp [go_sem, f21, f22, hjs, Hx.out]) ⟨rfl, Ext.refl _⟩
                  · intro ρ W hS hx hout hpre
                    refine GSay.none rfl ?_
                    have f19 : ρ (.tmp 19) = .agg #[.int .i64 k, .int .i64 l, .slice A ss.length c] := hpre 0 19 (by kernel_rfl)
                    have f20 : ρ (.tmp 20) = .int .i64 K := hpre 1 20 (by kernel_rfl)
                    have f23 : ρ (.tmp 23) = .string x := hpre 4 23 (by kernel_rfl)
                    refine DoesU.call (f := 195) (args := #[.agg #[.int .i64 k, .int .i64 l, .slice A ss.length c], .int .i64 K, .string x]) (w' := W) (by simp [go_sem, hS.func, f19, f20, f23]) ?_
                    refine (rwith_any _ _ _ _ _ _ K x _ rfl (H.out.ext (X1.out.trans (XR.out.trans hx))) HS.out hcz hK).mono ?_
                    rintro e w6 ⟨A24, c24, rfl, ho24, hx6⟩
                    exact ⟨_, rfl, ⟨A24, c24, rfl, own_mono ho24 (Nat.zero_le _)⟩, hx6⟩
                  · intro ρ W hS hx hout hpre
                    refine GSay.none rfl ?_
                    obtain ⟨A24, c24, f24, ho24⟩ := hpre 5 24 (by kernel_rfl)
                    refine DoesU.call (f := 196) (args := #[.agg #[.int .i64 k, .int .i64 l, .slice A24 ((plainL (withL ss K x)).length) c24]]) (w' := W) (by simp [go_sem, hS.func, f24]) ?_
                    refine (rsize_any _ _ _ _ _ _ _ rfl (At.of_own ho24) HSW.out (own_cap ho24)).mono ?_
                    rw [← Hq.out]
                    rintro e w6 ⟨rfl, hx6⟩
                    exact ⟨_, rfl, rfl, hx6⟩
                  · intro ρ W hS hx hout hpre
                    refine GSay.none rfl ?_
                    have f25 : ρ (.tmp 25) = .int .i64 q := hpre 6 25 (by kernel_rfl)
                    exact DoesU.value (v := .bool true) (w' := W) (by simp [go_sem, hS.const, f25]; omega) ⟨rfl, Ext.refl _⟩
                intro vs W hl hD hx
                replace hl := hl.trans (show (idxU _).length = 8 by kernel_rfl)
                rcases vs with _ | ⟨v19, vs⟩; · simp at hl
                rcases vs with _ | ⟨v20, vs⟩; · simp at hl
                rcases vs with _ | ⟨v21, vs⟩; · simp at hl
                rcases vs with _ | ⟨v22, vs⟩; · simp at hl
                rcases vs with _ | ⟨v23, vs⟩; · simp at hl
                rcases vs with _ | ⟨v24, vs⟩; · simp at hl
                rcases vs with _ | ⟨v25, vs⟩; · simp at hl
                rcases vs with _ | ⟨v26, vs⟩; · simp at hl
                obtain rfl : vs = [] := List.eq_nil_of_length_eq_zero (by simpa using hl)
                clear hl
                obtain rfl : v19 = .agg #[.int .i64 k, .int .i64 l, .slice A ss.length c] := hD 0 0 v19 (by kernel_rfl) rfl
                obtain rfl : v20 = .int .i64 K := hD 1 1 v20 (by kernel_rfl) rfl
                obtain rfl : v21 = .string s := hD 2 2 v21 (by kernel_rfl) rfl
                obtain rfl : v22 = .int .i64 j := hD 3 3 v22 (by kernel_rfl) rfl
                obtain rfl : v23 = .string x := hD 4 4 v23 (by kernel_rfl) rfl
                obtain ⟨A24, c24, rfl, ho24⟩ := hD 5 5 v24 (by kernel_rfl) rfl
                obtain rfl : v25 = .int .i64 q := hD 6 6 v25 (by kernel_rfl) rfl
                obtain rfl : v26 = .bool true := hD 7 7 v26 (by kernel_rfl) rfl
                clear hD
                rw [show dstsU _ = [19, 20, 21, 22, 23, 24, 25, 26] by kernel_rfl]
                simp only [putAll, List.setIfInBounds_toArray, List.set_cons_succ, List.set_cons_zero]
                have XW := Lib.hid (XR.out.trans hx)
                clear hx ho24
                go_wp2
                go_ret
                exact Ret1.int (by
                  have h2 := HD.out
                  have h3 : ∀ m : Nat, m = j + 1 → m ≤ 400 → 512 < z + m := fun m h1 h2 => HM.out m (by omega) h2
                  have h4 := h3 (j + 1) rfl
                  rw [HZ.out]; omega) (X1.out.trans XW.out)
              · have hq5' : decide ((q : Int) ≤ 512) = false := by simp; omega
                go_wp2_with fail
                refine wp_region_E (by kernel_rfl) [0, 0, 0, 0, 12, 31, 63, 127] (fun ix v W => match ix with | 0 => v = .agg #[.int .i64 k, .int .i64 l, .slice A ss.length c] | 1 => v = .int .i64 K | 2 => v = .string s | 3 => v = .int .i64 j | 4 => v = .string x | 5 => ∃ (A24 : Option Addr) (c24 : Nat), v = .agg #[.int .i64 k, .int .i64 l, .slice A24 ((plainL (withL ss K x)).length) c24] ∧ W.ownsRow 0 9 1 (.slice A24 (plainL (withL ss K x)).length c24) (plainL (withL ss K x)).length ((plainL (withL ss K x)).map Value.string) | 6 => v = .int .i64 q | 7 => v = .bool false | _ => True) (by kernel_rfl) (by kernel_rfl) ?_ ?_ ?_
                · intro ix v W W' h hx
                  match ix, h with
                  | 0, h => exact h
                  | 1, h => exact h
                  | 2, h => exact h
                  | 3, h => exact h
                  | 4, h => exact h
                  | 5, h => exact let ⟨A24, c24, he, ho24⟩ := h; ⟨A24, c24, he, own_ext ho24 hx⟩
                  | 6, h => exact h
                  | 7, h => exact h
                  | _ + 8, _ => trivial
                · refine ⟨⟨⟨⟨⟨⟨⟨⟨trivial, ?_⟩, ?_⟩, ?_⟩, ?_⟩, ?_⟩, ?_⟩, ?_⟩, ?_⟩
                  · intro ρ W hS hx hout hpre
                    refine GSay.none rfl ?_
                    have f1 : ρ (.tmp 1) = .pointer (some ⟨w.heap.size, 0, none⟩) := hout 1 (by kernel_rfl)
                    exact DoesU.value (v := .agg #[.int .i64 k, .int .i64 l, .slice A ss.length c]) (w' := W) (by simp [go_sem, f1, (show W.cell? ⟨w.heap.size, 0, none⟩ = some (.int .i64 k) from ((B0.out.ext (XR.out.trans hx))).cell 0), (show W.cell? ⟨w.heap.size, 1, none⟩ = some (.int .i64 l) from ((B0.out.ext (XR.out.trans hx))).cell 1), (show W.cell? ⟨w.heap.size, 2, none⟩ = some (.slice A ss.length c) from ((B0.out.ext (XR.out.trans hx))).cell 2)]) ⟨rfl, Ext.refl _⟩
                  · intro ρ W hS hx hout hpre
                    refine GSay.none rfl ?_
                    have f3 : ρ (.tmp 3) = .int .i64 K := hout 3 (by kernel_rfl)
                    exact DoesU.value (v := .int .i64 K) (w' := W) (by simp [go_sem, f3]) ⟨rfl, Ext.refl _⟩
                  · intro ρ W hS hx hout hpre
                    refine GSay.none rfl ?_
                    have f4 : ρ (.tmp 4) = .string s := hout 4 (by kernel_rfl)
                    exact DoesU.value (v := .string s) (w' := W) (by simp [go_sem, f4]) ⟨rfl, Ext.refl _⟩
                  · intro ρ W hS hx hout hpre
                    refine GSay.none rfl ?_
                    have f5 : ρ (.tmp 5) = .int .i64 j := hout 5 (by kernel_rfl)
                    exact DoesU.value (v := .int .i64 j) (w' := W) (by simp [go_sem, f5]) ⟨rfl, Ext.refl _⟩
                  · intro ρ W hS hx hout hpre
                    refine GSay.none rfl ?_
                    have f21 : ρ (.tmp 21) = .string s := hpre 2 21 (by kernel_rfl)
                    have f22 : ρ (.tmp 22) = .int .i64 j := hpre 3 22 (by kernel_rfl)
                    exact DoesU.value (v := .string x) (w' := W) (by simp [go_sem, f21, f22, hjs, Hx.out]) ⟨rfl, Ext.refl _⟩
                  · intro ρ W hS hx hout hpre
                    refine GSay.none rfl ?_
                    have f19 : ρ (.tmp 19) = .agg #[.int .i64 k, .int .i64 l, .slice A ss.length c] := hpre 0 19 (by kernel_rfl)
                    have f20 : ρ (.tmp 20) = .int .i64 K := hpre 1 20 (by kernel_rfl)
                    have f23 : ρ (.tmp 23) = .string x := hpre 4 23 (by kernel_rfl)
                    refine DoesU.call (f := 195) (args := #[.agg #[.int .i64 k, .int .i64 l, .slice A ss.length c], .int .i64 K, .string x]) (w' := W) (by simp [go_sem, hS.func, f19, f20, f23]) ?_
                    refine (rwith_any _ _ _ _ _ _ K x _ rfl (H.out.ext (X1.out.trans (XR.out.trans hx))) HS.out hcz hK).mono ?_
                    rintro e w6 ⟨A24, c24, rfl, ho24, hx6⟩
                    exact ⟨_, rfl, ⟨A24, c24, rfl, own_mono ho24 (Nat.zero_le _)⟩, hx6⟩
                  · intro ρ W hS hx hout hpre
                    refine GSay.none rfl ?_
                    obtain ⟨A24, c24, f24, ho24⟩ := hpre 5 24 (by kernel_rfl)
                    refine DoesU.call (f := 196) (args := #[.agg #[.int .i64 k, .int .i64 l, .slice A24 ((plainL (withL ss K x)).length) c24]]) (w' := W) (by simp [go_sem, hS.func, f24]) ?_
                    refine (rsize_any _ _ _ _ _ _ _ rfl (At.of_own ho24) HSW.out (own_cap ho24)).mono ?_
                    rw [← Hq.out]
                    rintro e w6 ⟨rfl, hx6⟩
                    exact ⟨_, rfl, rfl, hx6⟩
                  · intro ρ W hS hx hout hpre
                    refine GSay.none rfl ?_
                    have f25 : ρ (.tmp 25) = .int .i64 q := hpre 6 25 (by kernel_rfl)
                    exact DoesU.value (v := .bool false) (w' := W) (by simp [go_sem, hS.const, f25]; omega) ⟨rfl, Ext.refl _⟩
                intro vs W hl hD hx
                replace hl := hl.trans (show (idxU _).length = 8 by kernel_rfl)
                rcases vs with _ | ⟨v19, vs⟩; · simp at hl
                rcases vs with _ | ⟨v20, vs⟩; · simp at hl
                rcases vs with _ | ⟨v21, vs⟩; · simp at hl
                rcases vs with _ | ⟨v22, vs⟩; · simp at hl
                rcases vs with _ | ⟨v23, vs⟩; · simp at hl
                rcases vs with _ | ⟨v24, vs⟩; · simp at hl
                rcases vs with _ | ⟨v25, vs⟩; · simp at hl
                rcases vs with _ | ⟨v26, vs⟩; · simp at hl
                obtain rfl : vs = [] := List.eq_nil_of_length_eq_zero (by simpa using hl)
                clear hl
                obtain rfl : v19 = .agg #[.int .i64 k, .int .i64 l, .slice A ss.length c] := hD 0 0 v19 (by kernel_rfl) rfl
                obtain rfl : v20 = .int .i64 K := hD 1 1 v20 (by kernel_rfl) rfl
                obtain rfl : v21 = .string s := hD 2 2 v21 (by kernel_rfl) rfl
                obtain rfl : v22 = .int .i64 j := hD 3 3 v22 (by kernel_rfl) rfl
                obtain rfl : v23 = .string x := hD 4 4 v23 (by kernel_rfl) rfl
                obtain ⟨A24, c24, rfl, ho24⟩ := hD 5 5 v24 (by kernel_rfl) rfl
                obtain rfl : v25 = .int .i64 q := hD 6 6 v25 (by kernel_rfl) rfl
                obtain rfl : v26 = .bool false := hD 7 7 v26 (by kernel_rfl) rfl
                clear hD
                rw [show dstsU _ = [19, 20, 21, 22, 23, 24, 25, 26] by kernel_rfl]
                simp only [putAll, List.setIfInBounds_toArray, List.set_cons_succ, List.set_cons_zero]
                have XW := Lib.hid (XR.out.trans hx)
                clear hx ho24
                have hsub : (j : Int) - 1 = ((j - 1 : Nat) : Int) := by omega
                have HSub := Lib.hid hsub
                clear hsub
                go_wp2
                go_roundw
                case rel => exact ⟨j - 1, by rw [HSub.out], by omega, fun m h1 h2 => by
                  rcases Nat.lt_or_ge j m with h3 | h3
                  · exact HM.out m h3 h2
                  · have : m = j := by omega
                    omega, XW.out⟩
                case measure => simp [intOf]; omega
end
end Go.Proofs.YtjnplglnnamfdaaGreatDoor
namespace Go.Proofs.YtjnplglnnamfdaaGreatDoor
section
open Go.RowKit
set_option linter.unusedVariables false
set_option linter.unusedSimpArgs false
def eFnd (t : TypeId) (v : Value) (l : List (Nat × VerD)) (n : Int) : Ent := ⟨v.ownBlock.toList, fun W => ∃ ks : List FK, ks.map Prod.fst = l ∧ W.ownsRow 0 t 8 v l.length (ks.flatMap (cellsF n))⟩
theorem eFnd_loc (t : TypeId) (v : Value) (l : List (Nat × VerD)) (n : Int) : (eFnd t v l n).loc := fun W W' hk h => by
  obtain ⟨ks, h1, h2⟩ := h
  exact ⟨ks, h1, eO_loc t 8 v l.length (ks.flatMap (cellsF n)) W W' hk h2⟩
theorem eFnd_new {W W' : World} {t : TypeId} {v : Value} {l : List (Nat × VerD)} {n : Int} {ks : List FK} (hk : ks.map Prod.fst = l) (h : W'.ownsRow W.heap.size t 8 v l.length (ks.flatMap (cellsF n))) :
    (eFnd t v l n).holds W' ∧ (eFnd t v l n).loc ∧ ∀ k ∈ (eFnd t v l n).fp, W.heap.size ≤ k ∧ k < W'.heap.size := by
  have h2 := eO_new (W := W) h
  exact ⟨⟨ks, hk, h2.1⟩, eFnd_loc _ _ _ _, h2.2.2⟩
def anyF (g : Int → Int) (hz : Int) (f : Nat × VerD) : Bool := !(allF g hz f.2.1 f.2.2.1)
theorem fcon_fnd {A : Option Addr} {c : Nat} {l : List (Nat × VerD)} {n : Int} {w : World} {p1 p2 : Nat} {hz : Int} {tt : TypeId} {tv : Value} {g : Int → Int} (h : (eFnd 43 (.slice A l.length c) l n).holds w)
    (h1 : Blk w p1 3 #[.int .i64 hz]) (h2 : Blk w p2 138 #[.iface tt tv]) (hS : StOk w tt tv g) (hl : l.length ≤ 100000 := by omega) :
    Calls Tryz.prog 85 #[.slice A l.length c, .func (.func 122) #[] #[.pointer (some ⟨p1, 0, none⟩), .pointer (some ⟨p2, 0, none⟩)]] w (Ret (.bool (l.any (anyF g hz))) w) := by
  obtain ⟨ks, rfl, ho⟩ := h
  have e : (ks.map Prod.fst).any (anyF g hz) = ks.any (notF g hz) := by rw [List.any_map]; rfl
  have hll : (ks.map Prod.fst).length = ks.length := List.length_map _
  rw [hll] at ho hl
  rw [e, hll]
  exact fcon_any A c n ks p1 p2 hz tt tv g w (At.of_ownN ho) hl h1 h2 hS
def roomV (v : PV) : Int := roomF v.k v.l (v.its.map Prod.fst)
theorem PV.small {v : PV} (h : v.wf) : Small (v.its.map Prod.fst) := by
  refine ⟨by rw [List.length_map]; have := h.1; omega, fun s hs => ?_⟩
  obtain ⟨i, hi, rfl⟩ := List.mem_map.1 hs
  have := (h.2 i hi).le
  omega
theorem strs_map (its : List Itm) : strs its = (its.map Prod.fst).map Value.string := by simp [strs]
theorem hroom_any (v : PV) (A : Option Addr) (c : Nat) (w : World) (h : v.wf) (hA : At w A (strs v.its)) : Calls Tryz.prog 121 #[.agg #[.int .i64 v.k, .int .i64 v.l, .slice A v.its.length c]] w (Ret (.int .i64 (roomV v)) w) := by
  rw [strs_map] at hA
  have hl : v.its.length = (v.its.map Prod.fst).length := (List.length_map _).symm
  rw [hl]
  exact room_any v.k v.l A c _ w hA (PV.small h)
def lookF (g : Int → Int) (hz : Int) (v : PV) : KN := (hdF v && !((allF' v).any (anyF g hz)), if v.ok then roomV v else 0)
theorem St.repl {w0 W : World} {bor : List Nat} {L1 L2 : List Ent} {E E' : Ent} (h : St w0 bor (L1 ++ E :: L2) W) (hfp : E'.fp = E.fp) (hh : E.holds W → E'.holds W) (hl : E'.loc) : St w0 bor (L1 ++ E' :: L2) W := by
  refine ⟨h.upd, fun x hx => ?_, ?_⟩
  · rcases List.mem_append.1 hx with hx | hx
    · exact h.ok x (List.mem_append_left _ hx)
    · rcases List.mem_cons.1 hx with e | hx
      · rw [e]
        have h1 := h.ok E (by simp)
        exact ⟨hh h1.holds, hl, fun k hk => h1.own k (hfp ▸ hk)⟩
      · exact h.ok x (by simp [hx])
  · have ha := h.apart
    rw [List.pairwise_append, List.pairwise_cons] at ha ⊢
    refine ⟨ha.1, ⟨fun b hb k hk hk' => ha.2.1.1 b hb k (hfp ▸ hk) hk', ha.2.1.2⟩, fun a ha' b hb => ?_⟩
    rcases List.mem_cons.1 hb with e | hb
    · rw [e]
      exact fun k hk hk' => ha.2.2 a ha' E (by simp) k hk (hfp ▸ hk')
    · exact ha.2.2 a ha' b (by simp [hb])
theorem allF_len {v : PV} (h : v.wf) : (allF' v).length ≤ 24 := by
  rw [← hits_all h]; exact fnd_le _ _
set_option maxRecDepth 100000 in
set_option maxHeartbeats 4000000 in
theorem vlook_any (b q n : Nat) (m : Int → Option KN) (tt : TypeId) (tv : Value) (pv : Int → PV) (p hz : Int) (t2 : TypeId) (tv2 : Value) (g : Int → Int) (w : World) (hV : VM w b q n m) (hn : n < 1000000) (hp : -9223372036854775808 ≤ p ∧ p ≤ 9223372036854775807) (hS : PgsOk w tt tv pv) (hS2 : StOk w t2 tv2 g) (hN : NoneAt w) :
    Calls Tryz.prog 50 #[.pointer (some ⟨b, 0, none⟩), .iface tt (tv), .int .i64 p, .int .i64 hz, .iface t2 (tv2)] w (VPost b q (n + 1) (putM m p (some (lookF g hz (pv p)))) w) := by
  have st0 := St.lentR hV
  have hro := hV.ro
  obtain ⟨f0, rv, hM, hC, hG⟩ := hS.ex
  have hwf := hS.wf p
  have hwl := hwf.1
  have hal := allF_len hwf
  go_enter Tryz.func50, Tryz.ntmps50
  have hst0 := st0
  refine wp_seq (wp_region_Y [0, 0] [] [[2], [3]] [] [.a 8, .a 9] (fun ix σ β X => match ix with | 0 => σ 8 = vp (pb (β 8)) ∧ X 2 = eB (pb (β 8)) 3 #[vi hz] | 1 => σ 9 = vp (pb (β 9)) ∧ X 3 = eB (pb (β 9)) 138 #[.iface t2 (tv2)] | _ => True) [0, 1, 2, 3] [0, 1] [(8, 0, 2, 10)] hst0 ?_ ?_ ?_)
  · exact fun ix _ _ _ _ _ _ hs hb hx h => match ix, h with
    | 0, h => by dsimp only at h ⊢; rw [← hs 8 rfl, ← hb 8 rfl, ← hx 2 rfl]; exact h
    | 1, h => by dsimp only at h ⊢; rw [← hs 9 rfl, ← hb 9 rfl, ← hx 3 rfl]; exact h
    | _ + 2, _ => trivial
  · refine ⟨?_, ?_, trivial⟩
    · refine sv_any rfl rfl fun ρ β W X cx => ?_
      exact dv_box (cs := #[vi hz]) rfl (cx.ou 3) rfl rfl rfl (fun σ β' X' hs hb hv hx => ⟨hv, hx⟩)
    · refine sv_any rfl rfl fun ρ β W X cx => ?_
      exact dv_box (cs := #[.iface t2 (tv2)]) rfl (cx.ou 4) rfl rfl rfl (fun σ β' X' hs hb hv hx => ⟨hv, hx⟩)
  intro σ β X W1 hD hst1 fr hfr
  obtain ⟨B8_1, hu_B8_1⟩ : ∃ z, pb (β 8) = z := ⟨_, rfl⟩
  obtain ⟨B9_1, hu_B9_1⟩ : ∃ z, pb (β 9) = z := ⟨_, rfl⟩
  simp only [exq 2 ((dTn (hD 0 lq)).2), exq 3 ((dTn (hD 1 lq)).2), hu_B8_1, hu_B9_1] at hst1
  simp only [ed 8 ((dTn (hD 0 lq)).1), ed 9 ((dTn (hD 1 lq)).1), hu_B8_1, hu_B9_1] at hfr
  clear hD hu_B8_1 hu_B9_1; subst hfr; clear σ β X
  refine then_normal (wp_seq (wp_seq (wp_region_Z [0, 1] [] [.k 14 (vp b), .c 15 (.bool false)] [0, 1, 2, 3] [1] [(14, 0, 2, 16)] hst1 ?_ fun W2 hst2 => ?_)))
  · refine ⟨?_, trivial⟩
    · exact sv0 rfl rfl rfl rfl rfl (fun _ _ _ h => h) fun ρ β W X cx => by
        have fF14 : ρ (.tmp 14) = vp b := (cx.an 0)
        simp [go_sem, cx.sees.const, fF14]
  refine then_normal (wp_cond_false (show Act.eval _ _ = .bool false from rfl) (wp_skip (then_normal (wp_seq (wp_seq (wp_region_Z [0, 1, 3, 7, 15] [[], [], [], [0]] [.k 16 (vp b), .k 17 (vp b), .k 18 (vp b), .c 19 (.map (some q)), .c 20 (.bool false)] [0, 1, 2, 3] [3, 4] [(16, 0, 5, 21)] hst2 ?_ fun W3 hst3 => ?_))))))
  · refine ⟨?_, ?_, trivial⟩
    · exact xs4 rfl id fun cx => run_load1 rfl (by kernel_rfl) (cx.an 2) ((cx.bi 0 rfl).cell 0)
    · exact xs4 rfl id fun cx => run_eqMap rfl (cx.an 3) (cx.co _) (fun _ => by kernel_rfl)
  refine then_normal (wp_cond_false (show Act.eval _ _ = .bool false from rfl) (wp_skip (then_normal (wp_seq (wp_region_Y [0, 0, 3] [[], [], [4]] [[], [4], [5]] [[], [], [4]] [.k 25 (.agg #[.bool false, vi 0]), .a 10, .n] (fun ix σ β X => match ix with | 0 => True | 1 => σ 10 = vp (pb (β 10)) ∧ X 4 = eB (pb (β 10)) 230 #[.bool false, vi 0] | 2 => X 5 = eB (pb (β 10)) 230 #[.bool false, vi 0] | _ => True) [0, 1, 2, 3, 5] [1, 2] [(10, 1, 1, 11), (14, 0, 1, 15)] hst3 ?_ ?_ ?_)))))
  · exact fun ix _ _ _ _ _ _ hs hb hx h => match ix, h with
    | 1, h => by dsimp only at h ⊢; rw [← hs 10 rfl, ← hb 10 rfl, ← hx 4 rfl]; exact h
    | 2, h => by dsimp only at h ⊢; rw [← hb 10 rfl, ← hx 5 rfl]; exact h
    | 0, _ | _ + 3, _ => trivial
  · refine ⟨?_, ?_, trivial⟩
    · refine sv_any rfl rfl fun ρ β W X cx => ?_
      exact dv_alloc (cs := #[.bool false, vi 0]) rfl (by kernel_rfl) rfl rfl (fun σ β' X' hs hb hv hx => ⟨hv, hx⟩)
    · refine sv_any rfl rfl fun ρ β W X cx => ?_
      exact dv_store (n := 2) rfl (dTn (cx.an 1)).1 (cx.an 0) (by kernel_rfl) (by kernel_rfl) (by kernel_rfl) cx (dTn (cx.an 1)).2 rfl (nle rfl) (by kernel_rfl) rfl rfl rfl (fun σ β' X' hs hb hx => by rw [hb 10]; exact hx)
  intro σ β X W4 hD hst4 fr hfr
  obtain ⟨B10_4, hu_B10_4⟩ : ∃ z, pb (β 10) = z := ⟨_, rfl⟩
  simp only [exq 5 ((dTn (hD 2 lq))), hu_B10_4] at hst4
  simp only [ed 10 ((dTn (hD 1 lq)).1), hu_B10_4] at hfr
  clear hD hu_B10_4; subst hfr; clear σ β X
  refine then_normal (wp_seq (wp_region_Y [0, 0, 3, 7, 15, 15, 63, 127] [[], [], [0, 1], [], [], [], [], [4]] [[], [], [], [], [], [], [], [5]] [[], [], [], [], [], [], [], [4]] [.k 27 (.iface tt (tv)), .k 28 (vi p), .c 29 (.tuple #[vi ((ofF (pv p))), .bool ((hdF (pv p)))]), .k 26 (.tuple #[vi ((ofF (pv p))), .bool ((hdF (pv p)))]), .k 30 (vi ((ofF (pv p)))), .k 31 (.bool ((hdF (pv p)))), .k 32 (vp B10_4), .n] (fun ix σ β X => match ix with | 0 => True | 1 => True | 2 => True | 3 => True | 4 => True | 5 => True | 6 => True | 7 => X 5 = eB B10_4 230 #[.bool ((hdF (pv p))), vi 0] | _ => True) [0, 1, 2, 3, 5] [2, 7] [(26, 3, 1, 27), (0, 0, 3, 3), (0, 4, 3, 3)] hst4 ?_ ?_ ?_))
  · exact fun ix _ _ _ _ _ _ hs hb hx h => match ix, h with
    | 7, h => by dsimp only at h ⊢; rw [← hx 5 rfl]; exact h
    | 0, _ | 1, _ | 2, _ | 3, _ | 4, _ | 5, _ | 6, _ | _ + 8, _ => trivial
  · refine ⟨?_, ?_, trivial⟩
    · exact xsc rfl id rfl rfl fun cx => ⟨_, of_any _ _ pv p _ (hS.ext (cx.upd.same2 ((cx.bi 0 rfl).trans hV.1.symm) (CtxV.holdE cx (cx.init 1 _ rfl) rfl))), (map2 (cx.an 0) (cx.an 1))⟩
    · refine sv_any rfl rfl fun ρ β W X cx => ?_
      exact dv_store (n := 1) rfl (cx.an 6) (cx.an 5) (by kernel_rfl) (by kernel_rfl) (by kernel_rfl) cx (cx.init 4 _ rfl) rfl (nle rfl) (by kernel_rfl) rfl rfl rfl (fun σ β' X' hs hb hx => hx)
  intro σ β X W5 hD hst5 fr hfr
  simp only [exq 5 ((dTn (hD 7 lq)))] at hst5
  clear hD; subst hfr; clear σ β X
  refine then_normal (wp_seq (wp_seq (wp_region_Y [0, 0, 3, 7, 15, 15, 0, 95, 255] [[], [], [0, 1], [], [], [], [], [6]] [[], [], [5], [], [], [], [6], [7]] [[], [], [], [], [], [], [], [6]] [.k 34 (.iface tt (tv)), .k 35 (vi p), .a 36, .a 33, .a 37, .c 38 (.bool ((pv p).ok)), .a 11, .n, .k 12 (.bool ((pv p).ok))] (fun ix σ β X => match ix with | 0 => True | 1 => True | 2 => σ 36 = .tuple #[.agg #[vi ((pv p).k), vi ((pv p).l), .slice (sA (tg (tg (β 36) 0) 2)) ((pv p).its.length) (sC (tg (tg (β 36) 0) 2))], .bool ((pv p).ok)] ∧ X 5 = eO 9 1 (.slice (sA (tg (tg (β 36) 0) 2)) ((pv p).its.length) (sC (tg (tg (β 36) 0) 2))) ((pv p).its.length) (strs (pv p).its) | 3 => σ 33 = .tuple #[.agg #[vi ((pv p).k), vi ((pv p).l), .slice (sA (tg (tg (β 36) 0) 2)) ((pv p).its.length) (sC (tg (tg (β 36) 0) 2))], .bool ((pv p).ok)] | 4 => σ 37 = .agg #[vi ((pv p).k), vi ((pv p).l), .slice (sA (tg (tg (β 36) 0) 2)) ((pv p).its.length) (sC (tg (tg (β 36) 0) 2))] | 5 => True | 6 => σ 11 = vp (pb (β 11)) ∧ X 6 = eB (pb (β 11)) 64 #[vi 0, vi 0, .slice none 0 0] | 7 => X 7 = eB (pb (β 11)) 64 #[vi ((pv p).k), vi ((pv p).l), .slice (sA (tg (tg (β 36) 0) 2)) ((pv p).its.length) (sC (tg (tg (β 36) 0) 2))] | _ => True) [0, 1, 2, 3, 4, 5, 7] [2, 3, 4, 5, 6, 7] [(11, 6, 3, 13), (20, 3, 1, 21), (0, 0, 3, 3), (0, 4, 2, 2)] hst5 ?_ ?_ ?_)))
  · exact fun ix _ _ _ _ _ _ hs hb hx h => match ix, h with
    | 2, h => by dsimp only at h ⊢; rw [← hs 36 rfl, ← hb 36 rfl, ← hx 5 rfl]; exact h
    | 3, h => by dsimp only at h ⊢; rw [← hs 33 rfl, ← hb 36 rfl]; exact h
    | 4, h => by dsimp only at h ⊢; rw [← hs 37 rfl, ← hb 36 rfl]; exact h
    | 6, h => by dsimp only at h ⊢; rw [← hs 11 rfl, ← hb 11 rfl, ← hx 6 rfl]; exact h
    | 7, h => by dsimp only at h ⊢; rw [← hb 11 rfl, ← hb 36 rfl, ← hx 7 rfl]; exact h
    | 0, _ | 1, _ | 5, _ | _ + 8, _ => trivial
  · refine ⟨?_, ?_, ?_, ?_, ?_, ?_, trivial⟩
    · refine sv_any rfl rfl fun ρ β W X cx => ?_
      refine DoesU.call (run_invoke (args := #[vi p]) (args' := #[rv, vi p]) rfl rfl (cx.an 0) hM hC (map1 (cx.an 1)) rfl) ?_
      refine (hG _ p (cx.upd.same2 ((cx.bi 0 rfl).trans hV.1.symm) (CtxV.holdE cx (cx.init 1 _ rfl) rfl))).mono ?_
      rintro e W1 ⟨A4, c4, rfl, ho, hx⟩
      refine ⟨_, rfl, post_call [eO 9 1 (.slice A4 (pv p).its.length c4) (pv p).its.length (strs (pv p).its)] rfl rfl hx (one_new (eO_new ho)) (List.pairwise_singleton _ _) (fun σ β' X' hs hb hv hN => ?_)⟩
      have hv1 := (hv 36 rfl).1; have hv2 := (hv 36 rfl).2
      exact ⟨hv1.trans (by rw [hv2]; rfl), (by rw [hv2]; exact (List.cons.inj hN).1)⟩
    · exact sv rfl rfl rfl rfl rfl _ (fun _ _ _ h => h) (fun β β' h => by rw [h 36 (by decide)]) fun ρ β W X cx => run_move' rfl (dTn (cx.an 2)).1
    · exact sv rfl rfl rfl rfl rfl _ (fun _ _ _ h => h) (fun β β' h => by rw [h 36 (by decide)]) fun ρ β W X cx => run_extract' rfl (dTn (cx.an 3)) rfl
    · exact xs4 rfl id fun cx => run_extract' rfl (dTn (cx.an 3)) rfl
    · refine sv_any rfl rfl fun ρ β W X cx => ?_
      exact dv_alloc (cs := #[vi 0, vi 0, .slice none 0 0]) rfl (by kernel_rfl) rfl rfl (fun σ β' X' hs hb hv hx => ⟨hv, hx⟩)
    · refine sv_any rfl rfl fun ρ β W X cx => ?_
      exact dv_store (n := 3) rfl (dTn (cx.an 6)).1 (dTn (cx.an 4)) (by kernel_rfl) (by kernel_rfl) (by kernel_rfl) cx (dTn (cx.an 6)).2 rfl (nle rfl) (by kernel_rfl) rfl rfl rfl (fun σ β' X' hs hb hx => by rw [hb 11, hb 36]; exact hx)
  intro σ β X W6 hD hst6 fr hfr
  obtain ⟨A36_6, hu_A36_6⟩ : ∃ z, sA (tg (tg (β 36) 0) 2) = z := ⟨_, rfl⟩
  obtain ⟨c36_6, hu_c36_6⟩ : ∃ z, sC (tg (tg (β 36) 0) 2) = z := ⟨_, rfl⟩
  obtain ⟨B11_6, hu_B11_6⟩ : ∃ z, pb (β 11) = z := ⟨_, rfl⟩
  simp only [exq 5 ((dTn (hD 2 lq)).2), exq 7 ((dTn (hD 7 lq))), hu_A36_6, hu_c36_6, hu_B11_6] at hst6
  simp only [ed 36 ((dTn (hD 2 lq)).1), ed 33 ((dTn (hD 3 lq))), ed 37 ((dTn (hD 4 lq))), ed 11 ((dTn (hD 6 lq)).1), hu_A36_6, hu_c36_6, hu_B11_6] at hfr
  clear hD hu_A36_6 hu_c36_6 hu_B11_6; subst hfr; clear σ β X
  refine then_normal (wp_seq (wp_region_P [0] [.k 39 (.bool ((pv p).ok))] [(39, 0, 1, 40)] hst6 fun W7 hst7 => ?_))
  refine then_normal ?_
  rcases Bool.eq_false_or_eq_true ((pv p).ok) with hs8 | hs8
  · skip
    refine wp_cond_true (show Act.eval _ _ = .bool true from (congrArg Value.bool hs8)) (wp_region_Y [0, 1, 3, 7] [[6], [5], [], [4]] [[], [], [], [7]] [[], [], [], [4]] [.c 40 (.agg #[vi ((pv p).k), vi ((pv p).l), .slice A36_6 ((pv p).its.length) c36_6]), .c 41 (vi ((roomV (pv p)))), .k 42 (.pointer (some ⟨B10_4, 1, none⟩)), .n] (fun ix σ β X => match ix with | 0 => True | 1 => True | 2 => True | 3 => X 7 = eB B10_4 230 #[.bool ((hdF (pv p))), vi ((roomV (pv p)))] | _ => True) [0, 1, 2, 3, 5, 6, 7] [0, 1, 3] [(40, 0, 3, 43)] hst7 ?_ ?_ ?_)
    · exact fun ix _ _ _ _ _ _ hs hb hx h => match ix, h with
      | 3, h => by dsimp only at h ⊢; rw [← hx 7 rfl]; exact h
      | 0, _ | 1, _ | 2, _ | _ + 4, _ => trivial
    · refine ⟨?_, ?_, ?_, trivial⟩
      · exact xs4 rfl id fun cx => run_loadB (n := 3) rfl (by kernel_rfl) (by kernel_rfl) (cx.ou 11) (cx.bi 6 rfl) (nle rfl) rfl
      · exact xsc rfl id rfl rfl fun cx => ⟨_, hroom_any (pv p) _ _ _ hwf (At.of_own (cx.ri 5 rfl)), (map1 (cx.an 0))⟩
      · refine sv_any rfl rfl fun ρ β W X cx => ?_
        exact dv_store (n := 1) rfl (cx.an 2) (cx.an 1) (by kernel_rfl) (by kernel_rfl) (by kernel_rfl) cx (cx.init 4 _ rfl) rfl (nle rfl) (by kernel_rfl) rfl rfl rfl (fun σ β' X' hs hb hx => hx)
    intro σ β X W9 hD hst9 fr hfr
    simp only [exq 7 ((dTn (hD 3 lq)))] at hst9
    clear hD; subst hfr; clear σ β X
    refine then_normal (wp_seq (wp_region_Z [0, 1] [] [.c 43 (.func (.func 122) #[] #[vp B8_1, vp B9_1]), .k 13 (.func (.func 122) #[] #[vp B8_1, vp B9_1])] [0, 1, 2, 3, 4, 5, 6] [0] [(13, 1, 1, 14), (29, 0, 1, 30)] hst9 ?_ fun W10 hst10 => ?_))
    · refine ⟨?_, trivial⟩
      · exact sv0 rfl rfl rfl rfl rfl (fun _ _ _ h => h) fun ρ β W X cx => by
          have fF8 : ρ (.tmp 8) = vp B8_1 := (cx.ou 8)
          have fF9 : ρ (.tmp 9) = vp B9_1 := (cx.ou 9)
          simp [go_sem, Instr.makeFunc, fF8, fF9]
    refine then_normal (wp_seq ?_)
    rcases Bool.eq_false_or_eq_true ((hdF (pv p))) with hs12 | hs12
    · skip
      refine wp_region_Y [0, 1, 3, 7, 7, 31, 7, 127, 255, 511, 1023, 2047] [[], [6], [], [], [], [0, 1], [], [7, 2, 3, 0, 1], [], [], [], [6]] [[], [], [], [], [], [7], [], [], [], [], [], [8]] [[], [], [], [], [], [], [], [], [], [], [], [6]] [.k 44 (vp B10_4), .c 45 (.bool true), .k 46 (.bool true), .k 47 (.iface tt (tv)), .k 48 (vi p), .a 49, .k 50 (.func (.func 122) #[] #[vp B8_1, vp B9_1]), .c 51 (.bool (((allF' (pv p)).any (anyF g hz)))), .k 52 (.bool (!(((allF' (pv p)).any (anyF g hz))))), .k 53 (.bool (!(((allF' (pv p)).any (anyF g hz))))), .k 54 (vp B10_4), .n] (fun ix σ β X => match ix with | 0 => True | 1 => True | 2 => True | 3 => True | 4 => True | 5 => σ 49 = .slice (sA (β 49)) ((allF' (pv p)).length) (sC (β 49)) ∧ X 7 = eFnd 43 (.slice (sA (β 49)) ((allF' (pv p)).length) (sC (β 49))) (allF' (pv p)) p | 6 => True | 7 => True | 8 => True | 9 => True | 10 => True | 11 => X 8 = eB B10_4 230 #[.bool (!(((allF' (pv p)).any (anyF g hz)))), vi ((roomV (pv p)))] | _ => True) [0, 1, 2, 3, 4, 5, 7, 8] [1, 5, 7, 11] [(44, 0, 11, 55)] hst10 ?_ ?_ ?_
      · exact fun ix _ _ _ _ _ _ hs hb hx h => match ix, h with
        | 5, h => by dsimp only at h ⊢; rw [← hs 49 rfl, ← hb 49 rfl, ← hx 7 rfl]; exact h
        | 11, h => by dsimp only at h ⊢; rw [← hx 8 rfl]; exact h
        | 0, _ | 1, _ | 2, _ | 3, _ | 4, _ | 6, _ | 7, _ | 8, _ | 9, _ | 10, _ | _ + 12, _ => trivial
      · refine ⟨?_, ?_, ?_, ?_, trivial⟩
        · exact s4 rfl (fun _ _ _ h => h.trans (congrArg Value.bool hs12)) fun cx => run_load1 rfl (by kernel_rfl) (cx.an 0) ((cx.bi 6 rfl).cell 0)
        · refine sv_any_on rfl rfl rfl (fun _ _ _ _ cx => (cx.an 2)) fun ρ β W X cx => ?_
          refine DoesU.call (run_callF (args := #[.iface tt (tv), vi p]) rfl cx.sees rfl (by kernel_rfl) (map2 (cx.an 3) (cx.an 4))) ?_
          refine (hall_any _ _ pv p _ (hS.ext (cx.upd.same2 ((cx.bi 0 rfl).trans hV.1.symm) (CtxV.holdE cx (cx.init 1 _ rfl) rfl))) (hN.ext (cx.upd.same2 ((cx.bi 0 rfl).trans hV.1.symm) (CtxV.holdE cx (cx.init 1 _ rfl) rfl)))).mono ?_
          rintro e W1 ⟨A4, c4, ks4, hks4, rfl, ho, hx⟩
          refine ⟨_, rfl, post_call [eFnd 43 (.slice A4 (allF' (pv p)).length c4) (allF' (pv p)) p] rfl rfl hx (one_new (eFnd_new hks4 ho)) (List.pairwise_singleton _ _) (fun σ β' X' hs hb hv hN => ?_)⟩
          have hv1 := (hv 49 rfl).1; have hv2 := (hv 49 rfl).2
          exact ⟨hv1.trans (by rw [hv2]; rfl), (by rw [hv2]; exact (List.cons.inj hN).1)⟩
        · exact sv_call_on rfl rfl rfl rfl rfl rfl (fun _ _ _ h => h) (fun _ _ _ _ cx => (cx.an 2)) fun ρ β W X cx => ⟨_, _, run_callF (args := #[.slice (sA (β 49)) ((allF' (pv p)).length) (sC (β 49)), .func (.func 122) #[] #[vp B8_1, vp B9_1]]) rfl cx.sees rfl (by kernel_rfl) (map2 (dTn (cx.an 5)).1 (cx.an 6)), fcon_fnd (CtxV.holdE cx (dTn (cx.an 5)).2 rfl) (cx.bi 2 rfl) (cx.bi 3 rfl) (hS2.ext (cx.upd.same2 ((cx.bi 0 rfl).trans hV.1.symm) (CtxV.holdE cx (cx.init 1 _ rfl) rfl)))⟩
        · refine sv_any rfl rfl fun ρ β W X cx => ?_
          exact dv_store (n := 1) rfl (cx.an 10) (cx.an 9) (by kernel_rfl) (by kernel_rfl) (by kernel_rfl) cx (cx.init 6 _ rfl) rfl (nle rfl) (by kernel_rfl) rfl rfl rfl (fun σ β' X' hs hb hx => hx)
      intro σ β X W13 hD hst13 fr hfr
      obtain ⟨A49_13, hu_A49_13⟩ : ∃ z, sA (β 49) = z := ⟨_, rfl⟩
      obtain ⟨c49_13, hu_c49_13⟩ : ∃ z, sC (β 49) = z := ⟨_, rfl⟩
      simp only [exq 7 ((dTn (hD 5 lq)).2), exq 8 ((dTn (hD 11 lq))), hu_A49_13, hu_c49_13] at hst13
      simp only [ed 49 ((dTn (hD 5 lq)).1), hu_A49_13, hu_c49_13] at hfr
      clear hD hu_A49_13 hu_c49_13; subst hfr; clear σ β X
      refine then_normal ?_
      have hm14 := St.repl (L1 := [eB b 228 #[.map (some q)]]) (L2 := [eB B8_1 3 #[vi hz], eB B9_1 138 #[.iface t2 (tv2)], eO 9 1 (.slice A36_6 ((pv p).its.length) c36_6) ((pv p).its.length) (strs (pv p).its), eB B11_6 64 #[vi ((pv p).k), vi ((pv p).l), .slice A36_6 ((pv p).its.length) c36_6], eFnd 43 (.slice A49_13 ((allF' (pv p)).length) c49_13) (allF' (pv p)) p, eB B10_4 230 #[.bool (!(((allF' (pv p)).any (anyF g hz)))), vi ((roomV (pv p)))]]) (E' := eMg knC Tryz.prog 3 q n (m)) hst13 rfl (fun h_ => hro _ h_) (eMg_loc _ _ _ _ _)
      simp only [List.cons_append, List.nil_append] at hm14
      refine wp_region_Y [0, 1, 3, 7, 0, 0, 63] [[], [], [], [0], [], [7], [1]] [[], [], [], [], [], [], [8]] [[], [], [], [], [], [], [1]] [.k 55 (vp b), .k 56 (vp b), .k 57 (vp b), .c 58 (.map (some q)), .k 59 (vi p), .c 60 (.agg #[.bool (!(((allF' (pv p)).any (anyF g hz)))), vi ((roomV (pv p)))]), .n] (fun ix σ β X => match ix with | 0 => True | 1 => True | 2 => True | 3 => True | 4 => True | 5 => True | 6 => X 8 = eMg knC Tryz.prog 3 q (n + 1) (putM m p (some (!(((allF' (pv p)).any (anyF g hz))), (roomV (pv p))))) | _ => True) [0, 2, 3, 4, 5, 6, 7, 8] [3, 5, 6] [(55, 0, 6, 61)] hm14 ?_ ?_ ?_
      · exact fun ix _ _ _ _ _ _ hs hb hx h => match ix, h with
        | 6, h => by dsimp only at h ⊢; rw [← hx 8 rfl]; exact h
        | 0, _ | 1, _ | 2, _ | 3, _ | 4, _ | 5, _ | _ + 7, _ => trivial
      · refine ⟨?_, ?_, ?_, trivial⟩
        · exact xs4 rfl id fun cx => run_load1 rfl (by kernel_rfl) (cx.an 2) ((cx.bi 0 rfl).cell 0)
        · exact xs4 rfl id fun cx => run_loadB (n := 2) rfl (by kernel_rfl) (by kernel_rfl) (cx.ou 10) (cx.bi 7 rfl) (nle rfl) rfl
        · refine sv_any rfl rfl fun ρ β W X cx => ?_
          exact dv_setMg (e := 230) (v := (!(((allF' (pv p)).any (anyF g hz))), (roomV (pv p)))) (.inl rfl) (cx.an 3) (cx.an 4) (show ρ _ = .agg #[.bool (!(((allF' (pv p)).any (anyF g hz)))), vi ((roomV (pv p)))] from (cx.an 5)) cx (cx.init 1 _ rfl) rfl (by omega) (by omega) rfl rfl rfl (fun σ β' X' hs hb hx => hx)
      intro σ β X W15 hD hst15 fr hfr
      simp only [exq 8 ((dTn (hD 6 lq)))] at hst15
      clear hD; subst hfr; clear σ β X
      refine bodyPost_end (v := .tuple #[]) (by simp [results, Tryz.results50, go_sem]) rfl ?_
      have hlk : lookF g hz (pv p) = (!(((allF' (pv p)).any (anyF g hz))), (roomV (pv p))) := by simp [lookF, *]
      rw [hlk]
      exact ⟨rfl, (hst15.get 7 rfl).holds, hst15.upd.snd ((hst15.blk 0 rfl).trans hV.1.symm)⟩
    refine wp_region_Y [0, 1, 3, 7, 7, 31, 7, 127, 255, 511, 1023, 2047] [[], [6], [], [], [], [], [], [], [], [], [], [6]] [[], [], [], [], [], [], [], [], [], [], [], [7]] [[], [], [], [], [], [], [], [], [], [], [], [6]] [.k 44 (vp B10_4), .c 45 (.bool false), .k 46 (.bool false), .u 47, .u 48, .u 49, .u 50, .u 51, .u 52, .k 53 (.bool false), .k 54 (vp B10_4), .n] (fun ix σ β X => match ix with | 0 => True | 1 => True | 2 => True | 3 => True | 4 => True | 5 => True | 6 => True | 7 => True | 8 => True | 9 => True | 10 => True | 11 => X 7 = eB B10_4 230 #[.bool false, vi ((roomV (pv p)))] | _ => True) [0, 1, 2, 3, 4, 5, 7] [1, 11] [(44, 0, 11, 55)] hst10 ?_ ?_ ?_
    · exact fun ix _ _ _ _ _ _ hs hb hx h => match ix, h with
      | 11, h => by dsimp only at h ⊢; rw [← hx 7 rfl]; exact h
      | 0, _ | 1, _ | 2, _ | 3, _ | 4, _ | 5, _ | 6, _ | 7, _ | 8, _ | 9, _ | 10, _ | _ + 12, _ => trivial
    · refine ⟨?_, ?_, trivial⟩
      · exact s4 rfl (fun _ _ _ h => h.trans (congrArg Value.bool hs12)) fun cx => run_load1 rfl (by kernel_rfl) (cx.an 0) ((cx.bi 6 rfl).cell 0)
      · refine sv_any rfl rfl fun ρ β W X cx => ?_
        exact dv_store (n := 1) rfl (cx.an 10) (cx.an 9) (by kernel_rfl) (by kernel_rfl) (by kernel_rfl) cx (cx.init 6 _ rfl) rfl (nle rfl) (by kernel_rfl) rfl rfl rfl (fun σ β' X' hs hb hx => hx)
    intro σ β X W16 hD hst16 fr hfr
    simp only [exq 7 ((dTn (hD 11 lq)))] at hst16
    clear hD; subst hfr; clear σ β X
    refine then_normal ?_
    have hm17 := St.repl (L1 := [eB b 228 #[.map (some q)]]) (L2 := [eB B8_1 3 #[vi hz], eB B9_1 138 #[.iface t2 (tv2)], eO 9 1 (.slice A36_6 ((pv p).its.length) c36_6) ((pv p).its.length) (strs (pv p).its), eB B11_6 64 #[vi ((pv p).k), vi ((pv p).l), .slice A36_6 ((pv p).its.length) c36_6], eB B10_4 230 #[.bool false, vi ((roomV (pv p)))]]) (E' := eMg knC Tryz.prog 3 q n (m)) hst16 rfl (fun h_ => hro _ h_) (eMg_loc _ _ _ _ _)
    simp only [List.cons_append, List.nil_append] at hm17
    refine wp_region_Y [0, 1, 3, 7, 0, 0, 63] [[], [], [], [0], [], [6], [1]] [[], [], [], [], [], [], [7]] [[], [], [], [], [], [], [1]] [.k 55 (vp b), .k 56 (vp b), .k 57 (vp b), .c 58 (.map (some q)), .k 59 (vi p), .c 60 (.agg #[.bool false, vi ((roomV (pv p)))]), .n] (fun ix σ β X => match ix with | 0 => True | 1 => True | 2 => True | 3 => True | 4 => True | 5 => True | 6 => X 7 = eMg knC Tryz.prog 3 q (n + 1) (putM m p (some (false, (roomV (pv p))))) | _ => True) [0, 2, 3, 4, 5, 6, 7] [3, 5, 6] [(55, 0, 6, 61)] hm17 ?_ ?_ ?_
    · exact fun ix _ _ _ _ _ _ hs hb hx h => match ix, h with
      | 6, h => by dsimp only at h ⊢; rw [← hx 7 rfl]; exact h
      | 0, _ | 1, _ | 2, _ | 3, _ | 4, _ | 5, _ | _ + 7, _ => trivial
    · refine ⟨?_, ?_, ?_, trivial⟩
      · exact xs4 rfl id fun cx => run_load1 rfl (by kernel_rfl) (cx.an 2) ((cx.bi 0 rfl).cell 0)
      · exact xs4 rfl id fun cx => run_loadB (n := 2) rfl (by kernel_rfl) (by kernel_rfl) (cx.ou 10) (cx.bi 6 rfl) (nle rfl) rfl
      · refine sv_any rfl rfl fun ρ β W X cx => ?_
        exact dv_setMg (e := 230) (v := (false, (roomV (pv p)))) (.inl rfl) (cx.an 3) (cx.an 4) (show ρ _ = .agg #[.bool false, vi ((roomV (pv p)))] from (cx.an 5)) cx (cx.init 1 _ rfl) rfl (by omega) (by omega) rfl rfl rfl (fun σ β' X' hs hb hx => hx)
    intro σ β X W18 hD hst18 fr hfr
    simp only [exq 7 ((dTn (hD 6 lq)))] at hst18
    clear hD; subst hfr; clear σ β X
    refine bodyPost_end (v := .tuple #[]) (by simp [results, Tryz.results50, go_sem]) rfl ?_
    have hlk : lookF g hz (pv p) = (false, (roomV (pv p))) := by simp [lookF, *]
    rw [hlk]
    exact ⟨rfl, (hst18.get 6 rfl).holds, hst18.upd.snd ((hst18.blk 0 rfl).trans hV.1.symm)⟩
  refine wp_cond_false (show Act.eval _ _ = .bool false from (congrArg Value.bool hs8)) (wp_skip (then_normal (wp_seq (wp_region_Z [0, 1] [] [.c 43 (.func (.func 122) #[] #[vp B8_1, vp B9_1]), .k 13 (.func (.func 122) #[] #[vp B8_1, vp B9_1])] [0, 1, 2, 3, 4, 5, 6] [0] [(13, 1, 1, 14), (29, 0, 1, 30)] hst7 ?_ fun W19 hst19 => ?_))))
  · refine ⟨?_, trivial⟩
    · exact sv0 rfl rfl rfl rfl rfl (fun _ _ _ h => h) fun ρ β W X cx => by
        have fF8 : ρ (.tmp 8) = vp B8_1 := (cx.ou 8)
        have fF9 : ρ (.tmp 9) = vp B9_1 := (cx.ou 9)
        simp [go_sem, Instr.makeFunc, fF8, fF9]
  refine then_normal (wp_seq ?_)
  rcases Bool.eq_false_or_eq_true ((hdF (pv p))) with hs21 | hs21
  · skip
    refine wp_region_Y [0, 1, 3, 7, 7, 31, 7, 127, 255, 511, 1023, 2047] [[], [4], [], [], [], [0, 1], [], [7, 2, 3, 0, 1], [], [], [], [4]] [[], [], [], [], [], [7], [], [], [], [], [], [8]] [[], [], [], [], [], [], [], [], [], [], [], [4]] [.k 44 (vp B10_4), .c 45 (.bool true), .k 46 (.bool true), .k 47 (.iface tt (tv)), .k 48 (vi p), .a 49, .k 50 (.func (.func 122) #[] #[vp B8_1, vp B9_1]), .c 51 (.bool (((allF' (pv p)).any (anyF g hz)))), .k 52 (.bool (!(((allF' (pv p)).any (anyF g hz))))), .k 53 (.bool (!(((allF' (pv p)).any (anyF g hz))))), .k 54 (vp B10_4), .n] (fun ix σ β X => match ix with | 0 => True | 1 => True | 2 => True | 3 => True | 4 => True | 5 => σ 49 = .slice (sA (β 49)) ((allF' (pv p)).length) (sC (β 49)) ∧ X 7 = eFnd 43 (.slice (sA (β 49)) ((allF' (pv p)).length) (sC (β 49))) (allF' (pv p)) p | 6 => True | 7 => True | 8 => True | 9 => True | 10 => True | 11 => X 8 = eB B10_4 230 #[.bool (!(((allF' (pv p)).any (anyF g hz)))), vi 0] | _ => True) [0, 1, 2, 3, 5, 6, 7, 8] [1, 5, 7, 11] [(44, 0, 11, 55)] hst19 ?_ ?_ ?_
    · exact fun ix _ _ _ _ _ _ hs hb hx h => match ix, h with
      | 5, h => by dsimp only at h ⊢; rw [← hs 49 rfl, ← hb 49 rfl, ← hx 7 rfl]; exact h
      | 11, h => by dsimp only at h ⊢; rw [← hx 8 rfl]; exact h
      | 0, _ | 1, _ | 2, _ | 3, _ | 4, _ | 6, _ | 7, _ | 8, _ | 9, _ | 10, _ | _ + 12, _ => trivial
    · refine ⟨?_, ?_, ?_, ?_, trivial⟩
      · exact s4 rfl (fun _ _ _ h => h.trans (congrArg Value.bool hs21)) fun cx => run_load1 rfl (by kernel_rfl) (cx.an 0) ((cx.bi 4 rfl).cell 0)
      · refine sv_any_on rfl rfl rfl (fun _ _ _ _ cx => (cx.an 2)) fun ρ β W X cx => ?_
        refine DoesU.call (run_callF (args := #[.iface tt (tv), vi p]) rfl cx.sees rfl (by kernel_rfl) (map2 (cx.an 3) (cx.an 4))) ?_
        refine (hall_any _ _ pv p _ (hS.ext (cx.upd.same2 ((cx.bi 0 rfl).trans hV.1.symm) (CtxV.holdE cx (cx.init 1 _ rfl) rfl))) (hN.ext (cx.upd.same2 ((cx.bi 0 rfl).trans hV.1.symm) (CtxV.holdE cx (cx.init 1 _ rfl) rfl)))).mono ?_
        rintro e W1 ⟨A4, c4, ks4, hks4, rfl, ho, hx⟩
        refine ⟨_, rfl, post_call [eFnd 43 (.slice A4 (allF' (pv p)).length c4) (allF' (pv p)) p] rfl rfl hx (one_new (eFnd_new hks4 ho)) (List.pairwise_singleton _ _) (fun σ β' X' hs hb hv hN => ?_)⟩
        have hv1 := (hv 49 rfl).1; have hv2 := (hv 49 rfl).2
        exact ⟨hv1.trans (by rw [hv2]; rfl), (by rw [hv2]; exact (List.cons.inj hN).1)⟩
      · exact sv_call_on rfl rfl rfl rfl rfl rfl (fun _ _ _ h => h) (fun _ _ _ _ cx => (cx.an 2)) fun ρ β W X cx => ⟨_, _, run_callF (args := #[.slice (sA (β 49)) ((allF' (pv p)).length) (sC (β 49)), .func (.func 122) #[] #[vp B8_1, vp B9_1]]) rfl cx.sees rfl (by kernel_rfl) (map2 (dTn (cx.an 5)).1 (cx.an 6)), fcon_fnd (CtxV.holdE cx (dTn (cx.an 5)).2 rfl) (cx.bi 2 rfl) (cx.bi 3 rfl) (hS2.ext (cx.upd.same2 ((cx.bi 0 rfl).trans hV.1.symm) (CtxV.holdE cx (cx.init 1 _ rfl) rfl)))⟩
      · refine sv_any rfl rfl fun ρ β W X cx => ?_
        exact dv_store (n := 1) rfl (cx.an 10) (cx.an 9) (by kernel_rfl) (by kernel_rfl) (by kernel_rfl) cx (cx.init 4 _ rfl) rfl (nle rfl) (by kernel_rfl) rfl rfl rfl (fun σ β' X' hs hb hx => hx)
    intro σ β X W22 hD hst22 fr hfr
    obtain ⟨A49_22, hu_A49_22⟩ : ∃ z, sA (β 49) = z := ⟨_, rfl⟩
    obtain ⟨c49_22, hu_c49_22⟩ : ∃ z, sC (β 49) = z := ⟨_, rfl⟩
    simp only [exq 7 ((dTn (hD 5 lq)).2), exq 8 ((dTn (hD 11 lq))), hu_A49_22, hu_c49_22] at hst22
    simp only [ed 49 ((dTn (hD 5 lq)).1), hu_A49_22, hu_c49_22] at hfr
    clear hD hu_A49_22 hu_c49_22; subst hfr; clear σ β X
    refine then_normal ?_
    have hm23 := St.repl (L1 := [eB b 228 #[.map (some q)]]) (L2 := [eB B8_1 3 #[vi hz], eB B9_1 138 #[.iface t2 (tv2)], eO 9 1 (.slice A36_6 ((pv p).its.length) c36_6) ((pv p).its.length) (strs (pv p).its), eB B11_6 64 #[vi ((pv p).k), vi ((pv p).l), .slice A36_6 ((pv p).its.length) c36_6], eFnd 43 (.slice A49_22 ((allF' (pv p)).length) c49_22) (allF' (pv p)) p, eB B10_4 230 #[.bool (!(((allF' (pv p)).any (anyF g hz)))), vi 0]]) (E' := eMg knC Tryz.prog 3 q n (m)) hst22 rfl (fun h_ => hro _ h_) (eMg_loc _ _ _ _ _)
    simp only [List.cons_append, List.nil_append] at hm23
    refine wp_region_Y [0, 1, 3, 7, 0, 0, 63] [[], [], [], [0], [], [7], [1]] [[], [], [], [], [], [], [8]] [[], [], [], [], [], [], [1]] [.k 55 (vp b), .k 56 (vp b), .k 57 (vp b), .c 58 (.map (some q)), .k 59 (vi p), .c 60 (.agg #[.bool (!(((allF' (pv p)).any (anyF g hz)))), vi 0]), .n] (fun ix σ β X => match ix with | 0 => True | 1 => True | 2 => True | 3 => True | 4 => True | 5 => True | 6 => X 8 = eMg knC Tryz.prog 3 q (n + 1) (putM m p (some (!(((allF' (pv p)).any (anyF g hz))), 0))) | _ => True) [0, 2, 3, 4, 5, 6, 7, 8] [3, 5, 6] [(55, 0, 6, 61)] hm23 ?_ ?_ ?_
    · exact fun ix _ _ _ _ _ _ hs hb hx h => match ix, h with
      | 6, h => by dsimp only at h ⊢; rw [← hx 8 rfl]; exact h
      | 0, _ | 1, _ | 2, _ | 3, _ | 4, _ | 5, _ | _ + 7, _ => trivial
    · refine ⟨?_, ?_, ?_, trivial⟩
      · exact xs4 rfl id fun cx => run_load1 rfl (by kernel_rfl) (cx.an 2) ((cx.bi 0 rfl).cell 0)
      · exact xs4 rfl id fun cx => run_loadB (n := 2) rfl (by kernel_rfl) (by kernel_rfl) (cx.ou 10) (cx.bi 7 rfl) (nle rfl) rfl
      · refine sv_any rfl rfl fun ρ β W X cx => ?_
        exact dv_setMg (e := 230) (v := (!(((allF' (pv p)).any (anyF g hz))), 0)) (.inl rfl) (cx.an 3) (cx.an 4) (show ρ _ = .agg #[.bool (!(((allF' (pv p)).any (anyF g hz)))), vi 0] from (cx.an 5)) cx (cx.init 1 _ rfl) rfl (by omega) (by omega) rfl rfl rfl (fun σ β' X' hs hb hx => hx)
    intro σ β X W24 hD hst24 fr hfr
    simp only [exq 8 ((dTn (hD 6 lq)))] at hst24
    clear hD; subst hfr; clear σ β X
    refine bodyPost_end (v := .tuple #[]) (by simp [results, Tryz.results50, go_sem]) rfl ?_
    have hlk : lookF g hz (pv p) = (!(((allF' (pv p)).any (anyF g hz))), 0) := by simp [lookF, *]
    rw [hlk]
    exact ⟨rfl, (hst24.get 7 rfl).holds, hst24.upd.snd ((hst24.blk 0 rfl).trans hV.1.symm)⟩
  refine wp_region_Y [0, 1, 3, 7, 7, 31, 7, 127, 255, 511, 1023, 2047] [[], [4], [], [], [], [], [], [], [], [], [], [4]] [[], [], [], [], [], [], [], [], [], [], [], [7]] [[], [], [], [], [], [], [], [], [], [], [], [4]] [.k 44 (vp B10_4), .c 45 (.bool false), .k 46 (.bool false), .u 47, .u 48, .u 49, .u 50, .u 51, .u 52, .k 53 (.bool false), .k 54 (vp B10_4), .n] (fun ix σ β X => match ix with | 0 => True | 1 => True | 2 => True | 3 => True | 4 => True | 5 => True | 6 => True | 7 => True | 8 => True | 9 => True | 10 => True | 11 => X 7 = eB B10_4 230 #[.bool false, vi 0] | _ => True) [0, 1, 2, 3, 5, 6, 7] [1, 11] [(44, 0, 11, 55)] hst19 ?_ ?_ ?_
  · exact fun ix _ _ _ _ _ _ hs hb hx h => match ix, h with
    | 11, h => by dsimp only at h ⊢; rw [← hx 7 rfl]; exact h
    | 0, _ | 1, _ | 2, _ | 3, _ | 4, _ | 5, _ | 6, _ | 7, _ | 8, _ | 9, _ | 10, _ | _ + 12, _ => trivial
  · refine ⟨?_, ?_, trivial⟩
    · exact s4 rfl (fun _ _ _ h => h.trans (congrArg Value.bool hs21)) fun cx => run_load1 rfl (by kernel_rfl) (cx.an 0) ((cx.bi 4 rfl).cell 0)
    · refine sv_any rfl rfl fun ρ β W X cx => ?_
      exact dv_store (n := 1) rfl (cx.an 10) (cx.an 9) (by kernel_rfl) (by kernel_rfl) (by kernel_rfl) cx (cx.init 4 _ rfl) rfl (nle rfl) (by kernel_rfl) rfl rfl rfl (fun σ β' X' hs hb hx => hx)
  intro σ β X W25 hD hst25 fr hfr
  simp only [exq 7 ((dTn (hD 11 lq)))] at hst25
  clear hD; subst hfr; clear σ β X
  refine then_normal ?_
  have hm26 := St.repl (L1 := [eB b 228 #[.map (some q)]]) (L2 := [eB B8_1 3 #[vi hz], eB B9_1 138 #[.iface t2 (tv2)], eO 9 1 (.slice A36_6 ((pv p).its.length) c36_6) ((pv p).its.length) (strs (pv p).its), eB B11_6 64 #[vi ((pv p).k), vi ((pv p).l), .slice A36_6 ((pv p).its.length) c36_6], eB B10_4 230 #[.bool false, vi 0]]) (E' := eMg knC Tryz.prog 3 q n (m)) hst25 rfl (fun h_ => hro _ h_) (eMg_loc _ _ _ _ _)
  simp only [List.cons_append, List.nil_append] at hm26
  refine wp_region_Y [0, 1, 3, 7, 0, 0, 63] [[], [], [], [0], [], [6], [1]] [[], [], [], [], [], [], [7]] [[], [], [], [], [], [], [1]] [.k 55 (vp b), .k 56 (vp b), .k 57 (vp b), .c 58 (.map (some q)), .k 59 (vi p), .c 60 (.agg #[.bool false, vi 0]), .n] (fun ix σ β X => match ix with | 0 => True | 1 => True | 2 => True | 3 => True | 4 => True | 5 => True | 6 => X 7 = eMg knC Tryz.prog 3 q (n + 1) (putM m p (some (false, 0))) | _ => True) [0, 2, 3, 4, 5, 6, 7] [3, 5, 6] [(55, 0, 6, 61)] hm26 ?_ ?_ ?_
  · exact fun ix _ _ _ _ _ _ hs hb hx h => match ix, h with
    | 6, h => by dsimp only at h ⊢; rw [← hx 7 rfl]; exact h
    | 0, _ | 1, _ | 2, _ | 3, _ | 4, _ | 5, _ | _ + 7, _ => trivial
  · refine ⟨?_, ?_, ?_, trivial⟩
    · exact xs4 rfl id fun cx => run_load1 rfl (by kernel_rfl) (cx.an 2) ((cx.bi 0 rfl).cell 0)
    · exact xs4 rfl id fun cx => run_loadB (n := 2) rfl (by kernel_rfl) (by kernel_rfl) (cx.ou 10) (cx.bi 6 rfl) (nle rfl) rfl
    · refine sv_any rfl rfl fun ρ β W X cx => ?_
      exact dv_setMg (e := 230) (v := (false, 0)) (.inl rfl) (cx.an 3) (cx.an 4) (show ρ _ = .agg #[.bool false, vi 0] from (cx.an 5)) cx (cx.init 1 _ rfl) rfl (by omega) (by omega) rfl rfl rfl (fun σ β' X' hs hb hx => hx)
  intro σ β X W27 hD hst27 fr hfr
  simp only [exq 7 ((dTn (hD 6 lq)))] at hst27
  clear hD; subst hfr; clear σ β X
  refine bodyPost_end (v := .tuple #[]) (by simp [results, Tryz.results50, go_sem]) rfl ?_
  have hlk : lookF g hz (pv p) = (false, 0) := by simp [lookF, *]
  rw [hlk]
  exact ⟨rfl, (hst27.get 6 rfl).holds, hst27.upd.snd ((hst27.blk 0 rfl).trans hV.1.symm)⟩
end
end Go.Proofs.YtjnplglnnamfdaaGreatDoor

/- HeapAtOnceRow9: part 3 of the proof. -/
import Derived.Test.YtjnplglnnamfdaaDoorZ2
import Derived.Deep.RegionHeld3
set_option linter.unusedVariables false
set_option linter.unusedSimpArgs false
namespace Go.Proofs.YtjnplglnnamfdaaDoor
section
open Go.RowKit
set_option linter.unusedVariables false
set_option linter.unusedSimpArgs false
abbrev Itm := ByteArray × Option VerD
/-- a page as it lies in a row of pages -/
structure PgD where
  k : Int
  l : Int
  A : Option Addr
  c : Nat
  its : List Itm
def p0 : PgD := ⟨0, 0, none, 0, []⟩
def strs (its : List Itm) : List Value := its.map fun i => .string i.1
theorem strs_len (its : List Itm) : (strs its).length = its.length := by simp [strs]
theorem strs_one (its : List Itm) : ∀ u ∈ strs its, Value.oneCell' u = true := by
  intro u hu
  obtain ⟨i, _, rfl⟩ := List.mem_map.1 hu
  rfl
def pgC (p : PgD) : List Value := [.int .i64 p.k, .int .i64 p.l, .slice p.A p.its.length p.c]
theorem pgC_len (p : PgD) : (pgC p).length = 3 := rfl
structure PgsAt (w : World) (A : Option Addr) (Ps : List PgD) : Prop where
  at_ : At w A (Ps.flatMap pgC)
  len : Ps.length ≤ 1000
  its : ∀ p ∈ Ps, At w p.A (strs p.its) ∧ p.its.length ≤ 24 ∧ p.its.length ≤ p.c ∧ ∀ i ∈ p.its, Desc i.1 i.2
theorem PgsAt.ext {w W : World} {A : Option Addr} {Ps : List PgD} (h : PgsAt w A Ps) (hx : Ext w W) : PgsAt W A Ps :=
  ⟨h.at_.ext hx, h.len, fun p hp => ⟨(h.its p hp).1.ext hx, (h.its p hp).2⟩⟩
/-- what Page answers: kind, LSN, items, whether there is such a page -/
structure PV where
  k : Int
  l : Int
  its : List Itm
  ok : Bool
def pvF (Ps : List PgD) (n : Int) : PV := if 0 ≤ n ∧ n < Ps.length then ⟨(Ps.getD n.toNat p0).k, (Ps.getD n.toNat p0).l, (Ps.getD n.toNat p0).its, true⟩ else ⟨0, 0, [], false⟩
def PV.wf (v : PV) : Prop := v.its.length ≤ 24 ∧ ∀ i ∈ v.its, Desc i.1 i.2
theorem PgsAt.get {w : World} {A : Option Addr} {Ps : List PgD} (h : PgsAt w A Ps) {n : Nat} (hn : n < Ps.length) : At w (Ps.getD n p0).A (strs (Ps.getD n p0).its) ∧ (Ps.getD n p0).its.length ≤ 24 ∧ (Ps.getD n p0).its.length ≤ (Ps.getD n p0).c ∧ ∀ i ∈ (Ps.getD n p0).its, Desc i.1 i.2 := by
  refine h.its _ ?_
  rw [List.getD_eq_getElem?_getD, List.getElem?_eq_getElem hn, Option.getD_some]
  exact List.getElem_mem _
theorem PgsAt.wf {w : World} {A : Option Addr} {Ps : List PgD} (h : PgsAt w A Ps) (n : Int) : (pvF Ps n).wf := by
  rw [pvF]
  split
  · have := h.get (n := n.toNat) (by omega)
    exact ⟨this.2.1, this.2.2.2⟩
  · exact ⟨by simp, fun i hi => by cases hi⟩
def PagePost (v : PV) (w : World) (e : Ending) (w' : World) : Prop := ∃ A c, e = .returned (.tuple #[.agg #[.int .i64 v.k, .int .i64 v.l, .slice A v.its.length c], .bool v.ok]) ∧
  w'.ownsRow w.heap.size 9 1 (.slice A v.its.length c) v.its.length (strs v.its) ∧ Ext w w'
/-- the interface value .iface tt tv has these pages -/
structure PgsOk (w : World) (tt : TypeId) (tv : Value) (pv : Int → PV) : Prop where
  ex : ∃ f rv, Meth Tryd.prog tt tv "Page" f rv ∧ callP Tryd.prog f = true ∧ ∀ W x, Ext w W → Calls Tryd.prog f #[rv, .int .i64 x] W (PagePost (pv x) W)
  wf : ∀ n, (pv n).wf
theorem PgsOk.ext {w W : World} {tt : TypeId} {tv : Value} {pv : Int → PV} (h : PgsOk w tt tv pv) (hx : Ext w W) : PgsOk W tt tv pv := by
  obtain ⟨f, rv, h1, h2, h3⟩ := h.ex
  exact ⟨⟨f, rv, h1, h2, fun W' x hx' => h3 W' x (hx.trans hx')⟩, h.wf⟩
set_option maxRecDepth 100000 in
set_option maxHeartbeats 2000000 in
theorem rpage_any (PA : Option Addr) (pc : Nat) (Ps : List PgD) (n : Int) (w : World) (hP : PgsAt w PA Ps) :
    Calls Tryd.prog 28 #[.agg #[.slice PA Ps.length pc], .int .i64 n] w (PagePost (pvF Ps n) w) := by
  have hPl := hP.len
  go_enter Tryd.func28, Tryd.ntmps28
  have hst0 := St.start w
  refine wp_seq (wp_region_Y [0, 0, 0] [] [[0], [1]] [] [.a 2, .a 4, .k 5 (.bool false)] (fun ix σ β X => match ix with | 0 => σ 2 = vp (pb (β 2)) ∧ X 0 = eB (pb (β 2)) 30 #[.slice PA Ps.length pc] | 1 => σ 4 = vp (pb (β 4)) ∧ X 1 = eB (pb (β 4)) 86 #[vi 0, vi 0, .slice none 0 0] | _ => True) [0, 1] [0, 1] [(2, 0, 1, 3), (1, 1, 2, 3)] hst0 ?_ ?_ ?_)
  · exact fun ix _ _ _ _ _ _ hs hb hx h => match ix, h with
    | 0, h => by dsimp only at h ⊢; rw [← hs 2 rfl, ← hb 2 rfl, ← hx 0 rfl]; exact h
    | 1, h => by dsimp only at h ⊢; rw [← hs 4 rfl, ← hb 4 rfl, ← hx 1 rfl]; exact h
    | _ + 2, _ => trivial
  · refine ⟨?_, ?_, trivial⟩
    · refine sv_any rfl rfl fun ρ β W X cx => ?_
      exact dv_box (cs := #[.slice PA Ps.length pc]) rfl (cx.ou 0) rfl rfl rfl (fun σ β' X' hs hb hv hx => ⟨hv, hx⟩)
    · refine sv_any rfl rfl fun ρ β W X cx => ?_
      exact dv_alloc (cs := #[vi 0, vi 0, .slice none 0 0]) rfl (by kernel_rfl) rfl rfl (fun σ β' X' hs hb hv hx => ⟨hv, hx⟩)
  intro σ β X W1 hD hst1 fr hfr
  obtain ⟨B2_1, hu_B2_1⟩ : ∃ z, pb (β 2) = z := ⟨_, rfl⟩
  obtain ⟨B4_1, hu_B4_1⟩ : ∃ z, pb (β 4) = z := ⟨_, rfl⟩
  simp only [exq 0 ((dTn (hD 0 lq)).2), exq 1 ((dTn (hD 1 lq)).2), hu_B2_1, hu_B4_1] at hst1
  simp only [ed 2 ((dTn (hD 0 lq)).1), ed 4 ((dTn (hD 1 lq)).1), hu_B2_1, hu_B4_1] at hfr
  clear hD hu_B2_1 hu_B4_1; subst hfr; clear σ β X
  refine then_normal (wp_seq (wp_seq (wp_region_Z [0, 1, 3, 7, 7, 23, 55, 127, 255] [[], [], [], [], [], [0]] [.k 7 (vi n), .k 8 (.bool (decide (n < 0))), .k 9 (.bool (decide (n < 0))), .z 10 (!(decide (n < 0))) (vi n), .z 11 (!(decide (n < 0))) (vp B2_1), .y 12 (!(decide (n < 0))) (.slice PA Ps.length pc), .z 13 (!(decide (n < 0))) (vi ((Ps.length : Int))), .z 14 (!(decide (n < 0))) (.bool (decide ((Ps.length : Int) ≤ n))), tO 15 (decide (n < 0)) (decide ((Ps.length : Int) ≤ n))] [0, 1] [5] [(7, 0, 9, 16)] hst1 ?_ fun W2 hst2 => ?_)))
  · refine ⟨?_, trivial⟩
    · exact m2 rfl (fun _ _ _ h => h) (fun cx => (cx.an 2)) fun cx hq => run_load1 rfl (by kernel_rfl) (mbv (cx.an 4) hq) ((cx.bi 0 rfl).cell 0)
  refine then_normal ?_
  rcases Bool.eq_false_or_eq_true ((decide (n < 0)) || (decide ((Ps.length : Int) ≤ n))) with hs3 | hs3
  · skip
    have hs3p := hs3
    simp only [zB] at hs3p
    refine wp_cond_true (show Act.eval _ _ = .bool true from (congrArg Value.bool hs3)) (wp_seq (wp_region_Y [0, 1, 3] [[], [1]] [[], [2]] [[], [1]] [.k 16 (.agg #[vi 0, vi 0, .slice none 0 0]), .n, .k 5 (.bool false)] (fun ix σ β X => match ix with | 0 => True | 1 => X 2 = eB B4_1 86 #[vi 0, vi 0, .slice none 0 0] | _ => True) [0, 2] [1] [(5, 2, 1, 6), (10, 0, 1, 11)] hst2 ?_ ?_ ?_))
    · exact fun ix _ _ _ _ _ _ hs hb hx h => match ix, h with
      | 1, h => by dsimp only at h ⊢; rw [← hx 2 rfl]; exact h
      | 0, _ | _ + 2, _ => trivial
    · refine ⟨?_, trivial⟩
      · refine sv_any rfl rfl fun ρ β W X cx => ?_
        exact dv_store (n := 3) rfl (cx.ou 4) (cx.an 0) (by kernel_rfl) (by kernel_rfl) (by kernel_rfl) cx (cx.init 1 _ rfl) rfl (nle rfl) (by kernel_rfl) rfl rfl rfl (fun σ β' X' hs hb hx => hx)
    intro σ β X W4 hD hst4 fr hfr
    simp only [exq 2 ((dTn (hD 1 lq)))] at hst4
    clear hD; subst hfr; clear σ β X
    refine then_normal (wp_ret (then_ret ?_))
    have hr5 : W4.cell? ⟨B4_1, 0, none⟩ = some (vi 0) := (hst4.blk 1 rfl).cell 0
    have hr6 : W4.cell? ⟨B4_1, 1, none⟩ = some (vi 0) := (hst4.blk 1 rfl).cell 1
    have hr7 : W4.cell? ⟨B4_1, 2, none⟩ = some (.slice none 0 0) := (hst4.blk 1 rfl).cell 2
    refine bodyPost_ret (v := .tuple #[.agg #[vi 0, vi 0, .slice none 0 0], .bool false]) (by simp [results, Tryd.results28, go_sem, hr5, hr6, hr7]) rfl ?_
    have hpv : pvF Ps n = ⟨0, 0, [], false⟩ := by rw [pvF, if_neg (by omega)]
    rw [hpv]
    exact ⟨none, 0, rfl, World.ownsRow_nil _ _ _ _, hst4.ext⟩
  have hs3p := hs3
  simp only [zB] at hs3p
  obtain ⟨hs3p1, hs3p2⟩ := hs3p
  refine wp_cond_false (show Act.eval _ _ = .bool false from (congrArg Value.bool hs3)) (wp_skip (then_normal (wp_seq ?_)))
  obtain ⟨N, rfl⟩ : ∃ N : Nat, n = (N : Int) := ⟨n.toNat, by omega⟩
  have hG := hP.get (n := N) (by omega)
  refine wp_region_Y [0, 1, 0, 7, 15, 0, 63] [[], [0], [], [], [], [], [2]] [[], [], [], [], [], [2], [3]] [[], [], [], [], [], [], [2]] [.k 17 (vp B2_1), .c 18 (.slice PA Ps.length pc), .k 19 (vi (N : Int)), .c 20 (.pointer (some ((ad PA).add (N * 3)))), .c 21 (.agg #[vi ((Ps.getD N p0).k), vi ((Ps.getD N p0).l), .slice ((Ps.getD N p0).A) ((Ps.getD N p0).its.length) ((Ps.getD N p0).c)]), .a 6, .n] (fun ix σ β X => match ix with | 0 => True | 1 => True | 2 => True | 3 => True | 4 => True | 5 => σ 6 = vp (pb (β 6)) ∧ X 2 = eB (pb (β 6)) 86 #[vi 0, vi 0, .slice none 0 0] | 6 => X 3 = eB (pb (β 6)) 86 #[vi ((Ps.getD N p0).k), vi ((Ps.getD N p0).l), .slice ((Ps.getD N p0).A) ((Ps.getD N p0).its.length) ((Ps.getD N p0).c)] | _ => True) [0, 1, 3] [1, 3, 4, 5, 6] [(6, 5, 1, 7), (10, 0, 5, 15)] hst2 ?_ ?_ ?_
  · exact fun ix _ _ _ _ _ _ hs hb hx h => match ix, h with
    | 5, h => by dsimp only at h ⊢; rw [← hs 6 rfl, ← hb 6 rfl, ← hx 2 rfl]; exact h
    | 6, h => by dsimp only at h ⊢; rw [← hb 6 rfl, ← hx 3 rfl]; exact h
    | 0, _ | 1, _ | 2, _ | 3, _ | 4, _ | _ + 7, _ => trivial
  · refine ⟨?_, ?_, ?_, ?_, ?_, trivial⟩
    · exact xs4 rfl id fun cx => run_load1 rfl (by kernel_rfl) (cx.an 0) ((cx.bi 0 rfl).cell 0)
    · exact xs4 rfl id fun cx => run_indexSlM (e := 86) (m := N) (sz := 3) rfl (by kernel_rfl) (by kernel_rfl) (cx.an 1) (cx.an 2) (by omega) (by omega) (hP.at_.ext cx.upd.to_ext) (by have h_ := flatLen (f := pgC) (sz := 3) pgC_len Ps; show 0 < (List.flatMap pgC Ps).length; omega)
    · exact xs4 rfl id fun cx => run_loadElt (f := pgC) (m := N) (sz := 3) (off := 0) (n := 3) rfl (by kernel_rfl) (by kernel_rfl) (cx.an 3) rfl pgC_len (hP.at_.ext cx.upd.to_ext) (getD_some (ts := Ps) (m := N) p0 (by omega)) (fun k hk => match k, hk with | 0, _ => rfl | 1, _ => rfl | 2, _ => rfl | k + 3, hk => absurd hk (by omega))
    · refine sv_any rfl rfl fun ρ β W X cx => ?_
      exact dv_alloc (cs := #[vi 0, vi 0, .slice none 0 0]) rfl (by kernel_rfl) rfl rfl (fun σ β' X' hs hb hv hx => ⟨hv, hx⟩)
    · refine sv_any rfl rfl fun ρ β W X cx => ?_
      exact dv_store (n := 3) rfl (dTn (cx.an 5)).1 (cx.an 4) (by kernel_rfl) (by kernel_rfl) (by kernel_rfl) cx (dTn (cx.an 5)).2 rfl (nle rfl) (by kernel_rfl) rfl rfl rfl (fun σ β' X' hs hb hx => by rw [hb 6]; exact hx)
  intro σ β X W8 hD hst8 fr hfr
  obtain ⟨B6_8, hu_B6_8⟩ : ∃ z, pb (β 6) = z := ⟨_, rfl⟩
  simp only [exq 3 ((dTn (hD 6 lq))), hu_B6_8] at hst8
  simp only [ed 6 ((dTn (hD 5 lq)).1), hu_B6_8] at hfr
  clear hD hu_B6_8; subst hfr; clear σ β X
  refine then_normal (wp_seq (wp_region_Y [0, 0, 2, 7, 15, 31] [[], [], [2], [3], [], [2]] [[3], [], [], [4], [], [5]] [[], [], [], [3], [], [2]] [.a 22, .k 23 (.pointer (some ⟨B6_8, 2, none⟩)), .c 24 (.slice ((Ps.getD N p0).A) ((Ps.getD N p0).its.length) ((Ps.getD N p0).c)), .a 25, .k 26 (.pointer (some ⟨B6_8, 2, none⟩)), .n] (fun ix σ β X => match ix with | 0 => σ 22 = .slice (sA (β 22)) 0 0 ∧ X 3 = eO 9 1 (.slice (sA (β 22)) 0 0) 0 ([]) | 1 => True | 2 => True | 3 => σ 25 = .slice (sA (β 25)) ((Ps.getD N p0).its.length) (sC (β 25)) ∧ X 4 = eO 9 1 (.slice (sA (β 25)) ((Ps.getD N p0).its.length) (sC (β 25))) ((Ps.getD N p0).its.length) (strs (Ps.getD N p0).its) | 4 => True | 5 => X 5 = eB B6_8 86 #[vi ((Ps.getD N p0).k), vi ((Ps.getD N p0).l), .slice (sA (β 25)) ((Ps.getD N p0).its.length) (sC (β 25))] | _ => True) [0, 1, 4, 5] [0, 2, 3, 5] [(22, 0, 5, 27)] hst8 ?_ ?_ ?_))
  · exact fun ix _ _ _ _ _ _ hs hb hx h => match ix, h with
    | 0, h => by dsimp only at h ⊢; rw [← hs 22 rfl, ← hb 22 rfl, ← hx 3 rfl]; exact h
    | 3, h => by dsimp only at h ⊢; rw [← hs 25 rfl, ← hb 25 rfl, ← hx 4 rfl]; exact h
    | 5, h => by dsimp only at h ⊢; rw [← hb 25 rfl, ← hx 5 rfl]; exact h
    | 1, _ | 2, _ | 4, _ | _ + 6, _ => trivial
  · refine ⟨?_, ?_, ?_, ?_, trivial⟩
    · refine sv_any rfl rfl fun ρ β W X cx => ?_
      exact dv_lit (e := 9) (xs := []) rfl (by simp [go_sem]) rfl (by decide) rfl rfl (fun σ β' X' hs hb hv hx => ⟨hv, hx⟩)
    · exact xs4 rfl id fun cx => run_load1 rfl (by kernel_rfl) (cx.an 1) ((cx.bi 2 rfl).cell 2)
    · refine sv_any rfl rfl fun ρ β W X cx => ?_
      obtain ⟨i0, hi0, hz0, hz1, hz2⟩ := info_parts Tryd.infoStr
      refine dv_append (n := 0) (m := (Ps.getD N p0).its.length) (nm := (Ps.getD N p0).its.length) (xs := []) (news := strs (Ps.getD N p0).its) (xs' := strs (Ps.getD N p0).its) rfl (ty := 84) rfl (by kernel_rfl) hi0 hz0 hz1 hz2 rfl (dTn (cx.an 0)).1 cx (dTn (cx.an 0)).2 rfl (cx.an 2) (strs_len _) (hG.1.ext cx.upd.to_ext) (strs_one _) (by simp only [maxLen]; omega) (by omega) rfl rfl rfl (by omega) (rfl) (fun σ β' X' hs hb hv hx => ?_)
      exact ⟨hv, hx⟩
    · refine sv_any rfl rfl fun ρ β W X cx => ?_
      exact dv_store (n := 1) rfl (cx.an 4) (dTn (cx.an 3)).1 (by kernel_rfl) (by kernel_rfl) (by kernel_rfl) cx (cx.init 2 _ rfl) rfl (nle rfl) (by kernel_rfl) rfl rfl rfl (fun σ β' X' hs hb hx => by rw [hb 25]; exact hx)
  intro σ β X W9 hD hst9 fr hfr
  obtain ⟨A22_9, hu_A22_9⟩ : ∃ z, sA (β 22) = z := ⟨_, rfl⟩
  obtain ⟨A25_9, hu_A25_9⟩ : ∃ z, sA (β 25) = z := ⟨_, rfl⟩
  obtain ⟨c25_9, hu_c25_9⟩ : ∃ z, sC (β 25) = z := ⟨_, rfl⟩
  simp only [exq 4 ((dTn (hD 3 lq)).2), exq 5 ((dTn (hD 5 lq))), hu_A22_9, hu_A25_9, hu_c25_9] at hst9
  simp only [ed 22 ((dTn (hD 0 lq)).1), ed 25 ((dTn (hD 3 lq)).1), hu_A22_9, hu_A25_9, hu_c25_9] at hfr
  clear hD hu_A22_9 hu_A25_9 hu_c25_9; subst hfr; clear σ β X
  refine then_normal (wp_seq (wp_region_Y [0, 1, 3] [[3], [1]] [[], [4]] [[], [1]] [.c 27 (.agg #[vi ((Ps.getD N p0).k), vi ((Ps.getD N p0).l), .slice A25_9 ((Ps.getD N p0).its.length) c25_9]), .n, .k 5 (.bool true)] (fun ix σ β X => match ix with | 0 => True | 1 => X 4 = eB B4_1 86 #[vi ((Ps.getD N p0).k), vi ((Ps.getD N p0).l), .slice A25_9 ((Ps.getD N p0).its.length) c25_9] | _ => True) [0, 2, 3, 4] [0, 1] [(5, 2, 1, 6), (21, 0, 1, 22)] hst9 ?_ ?_ ?_))
  · exact fun ix _ _ _ _ _ _ hs hb hx h => match ix, h with
    | 1, h => by dsimp only at h ⊢; rw [← hx 4 rfl]; exact h
    | 0, _ | _ + 2, _ => trivial
  · refine ⟨?_, ?_, trivial⟩
    · exact xs4 rfl id fun cx => run_loadB (n := 3) rfl (by kernel_rfl) (by kernel_rfl) (cx.ou 6) (cx.bi 3 rfl) (nle rfl) rfl
    · refine sv_any rfl rfl fun ρ β W X cx => ?_
      exact dv_store (n := 3) rfl (cx.ou 4) (cx.an 0) (by kernel_rfl) (by kernel_rfl) (by kernel_rfl) cx (cx.init 1 _ rfl) rfl (nle rfl) (by kernel_rfl) rfl rfl rfl (fun σ β' X' hs hb hx => hx)
  intro σ β X W10 hD hst10 fr hfr
  simp only [exq 4 ((dTn (hD 1 lq)))] at hst10
  clear hD; subst hfr; clear σ β X
  refine then_normal (wp_ret ?_)
  have hr11 : W10.cell? ⟨B4_1, 0, none⟩ = some (vi ((Ps.getD N p0).k)) := (hst10.blk 3 rfl).cell 0
  have hr12 : W10.cell? ⟨B4_1, 1, none⟩ = some (vi ((Ps.getD N p0).l)) := (hst10.blk 3 rfl).cell 1
  have hr13 : W10.cell? ⟨B4_1, 2, none⟩ = some (.slice A25_9 ((Ps.getD N p0).its.length) c25_9) := (hst10.blk 3 rfl).cell 2
  refine bodyPost_ret (v := .tuple #[.agg #[vi ((Ps.getD N p0).k), vi ((Ps.getD N p0).l), .slice A25_9 ((Ps.getD N p0).its.length) c25_9], .bool true]) (by simp [results, Tryd.results28, go_sem, hr11, hr12, hr13]) rfl ?_
  have ho_ := hst10.own' 1 rfl
  have hpv : pvF Ps (N : Int) = ⟨(Ps.getD N p0).k, (Ps.getD N p0).l, (Ps.getD N p0).its, true⟩ := by rw [pvF, if_pos (by omega)]; rfl
  rw [hpv]
  exact ⟨_, _, rfl, ho_, hst10.ext⟩
theorem rpages_ok (PA : Option Addr) (pc : Nat) (Ps : List PgD) (w : World) (h : PgsAt w PA Ps) : PgsOk w 30 (.agg #[.slice PA Ps.length pc]) (pvF Ps) :=
  ⟨⟨28, _, fun W => by kernel_rfl, by kernel_rfl, fun W x hx => rpage_any PA pc Ps x W (h.ext hx)⟩, h.wf⟩
end
end Go.Proofs.YtjnplglnnamfdaaDoor
namespace Go.Proofs.YtjnplglnnamfdaaDoor
section
open Go.RowKit
set_option linter.unusedVariables false
set_option linter.unusedSimpArgs false
def it0 : Itm := (ByteArray.empty, none)
theorem getD_strs {its : List Itm} {m : Nat} (h : m < its.length) : (strs its)[m]? = some (.string (its.getD m it0).1) := by
  rw [strs, List.getElem?_map, List.getElem?_eq_getElem h, List.getD_eq_getElem?_getD, List.getElem?_eq_getElem h]; rfl
def hdF (v : PV) : Bool := !((((!(v.ok)) || ((v.k) != 1)) || ((v.its.length : Int) == 0)) || ((((v.its.getD 0 it0).1).size : Int) != 2))
def ofF (v : PV) : Int := if hdF v then (numS (v.its.getD 0 it0).1 0 2 : Int) else 0
def tbF (v : PV) : Int := if hdF v then (numS (v.its.getD 0 it0).1 0 2 : Int) else -1
set_option maxRecDepth 100000 in
set_option maxHeartbeats 2000000 in
theorem of_any (tt : TypeId) (tv : Value) (pv : Int → PV) (n : Int) (w : World) (hS : PgsOk w tt tv pv) :
    Calls Tryd.prog 31 #[.iface tt (tv), .int .i64 n] w (Ret (.tuple #[.int .i64 (ofF (pv n)), .bool (hdF (pv n))]) w) := by
  obtain ⟨f0, rv, hM, hC, hG⟩ := hS.ex
  have hwl := (hS.wf n).1
  go_enter Tryd.func31, Tryd.ntmps31
  have hst0 := St.start w
  refine wp_seq (wp_region_P [0, 1] [.k 4 (vi 0), .k 5 (.bool false)] [(4, 0, 2, 6)] hst0 fun W1 hst1 => ?_)
  refine then_normal (wp_seq (wp_region_Y [0, 0, 3, 7, 15, 15, 0, 95, 255] [[], [], [], [], [], [], [], [1]] [[], [], [0], [], [], [], [1], [2]] [[], [], [], [], [], [], [], [1]] [.k 8 (.iface tt (tv)), .k 9 (vi n), .a 10, .a 7, .a 11, .c 12 (.bool ((pv n).ok)), .a 6, .n, .k 5 (.bool ((pv n).ok))] (fun ix σ β X => match ix with | 0 => True | 1 => True | 2 => σ 10 = .tuple #[.agg #[vi ((pv n).k), vi ((pv n).l), .slice (sA (tg (tg (β 10) 0) 2)) ((pv n).its.length) (sC (tg (tg (β 10) 0) 2))], .bool ((pv n).ok)] ∧ X 0 = eO 9 1 (.slice (sA (tg (tg (β 10) 0) 2)) ((pv n).its.length) (sC (tg (tg (β 10) 0) 2))) ((pv n).its.length) (strs (pv n).its) | 3 => σ 7 = .tuple #[.agg #[vi ((pv n).k), vi ((pv n).l), .slice (sA (tg (tg (β 10) 0) 2)) ((pv n).its.length) (sC (tg (tg (β 10) 0) 2))], .bool ((pv n).ok)] | 4 => σ 11 = .agg #[vi ((pv n).k), vi ((pv n).l), .slice (sA (tg (tg (β 10) 0) 2)) ((pv n).its.length) (sC (tg (tg (β 10) 0) 2))] | 5 => True | 6 => σ 6 = vp (pb (β 6)) ∧ X 1 = eB (pb (β 6)) 86 #[vi 0, vi 0, .slice none 0 0] | 7 => X 2 = eB (pb (β 6)) 86 #[vi ((pv n).k), vi ((pv n).l), .slice (sA (tg (tg (β 10) 0) 2)) ((pv n).its.length) (sC (tg (tg (β 10) 0) 2))] | _ => True) [0, 2] [2, 3, 4, 5, 6, 7] [(5, 8, 1, 6), (0, 6, 1, 1), (0, 3, 1, 1), (0, 0, 3, 3), (0, 4, 2, 2)] hst1 ?_ ?_ ?_))
  · exact fun ix _ _ _ _ _ _ hs hb hx h => match ix, h with
    | 2, h => by dsimp only at h ⊢; rw [← hs 10 rfl, ← hb 10 rfl, ← hx 0 rfl]; exact h
    | 3, h => by dsimp only at h ⊢; rw [← hs 7 rfl, ← hb 10 rfl]; exact h
    | 4, h => by dsimp only at h ⊢; rw [← hs 11 rfl, ← hb 10 rfl]; exact h
    | 6, h => by dsimp only at h ⊢; rw [← hs 6 rfl, ← hb 6 rfl, ← hx 1 rfl]; exact h
    | 7, h => by dsimp only at h ⊢; rw [← hb 6 rfl, ← hb 10 rfl, ← hx 2 rfl]; exact h
    | 0, _ | 1, _ | 5, _ | _ + 8, _ => trivial
  · refine ⟨?_, ?_, ?_, ?_, ?_, ?_, trivial⟩
    · refine sv_any rfl rfl fun ρ β W X cx => ?_
      refine DoesU.call (run_invoke (args := #[vi n]) (args' := #[rv, vi n]) rfl rfl (cx.an 0) hM hC (map1 (cx.an 1)) rfl) ?_
      refine (hG _ n cx.upd.to_ext).mono ?_
      rintro e W1 ⟨A4, c4, rfl, ho, hx⟩
      refine ⟨_, rfl, post_call [eO 9 1 (.slice A4 (pv n).its.length c4) (pv n).its.length (strs (pv n).its)] rfl rfl hx (one_new (eO_new ho)) (List.pairwise_singleton _ _) (fun σ β' X' hs hb hv hN => ?_)⟩
      have hv1 := (hv 10 rfl).1; have hv2 := (hv 10 rfl).2
      exact ⟨hv1.trans (by rw [hv2]; rfl), (by rw [hv2]; exact (List.cons.inj hN).1)⟩
    · exact sv rfl rfl rfl rfl rfl _ (fun _ _ _ h => h) (fun β β' h => by rw [h 10 (by decide)]) fun ρ β W X cx => run_move' rfl (dTn (cx.an 2)).1
    · exact sv rfl rfl rfl rfl rfl _ (fun _ _ _ h => h) (fun β β' h => by rw [h 10 (by decide)]) fun ρ β W X cx => run_extract' rfl (dTn (cx.an 3)) rfl
    · exact xs4 rfl id fun cx => run_extract' rfl (dTn (cx.an 3)) rfl
    · refine sv_any rfl rfl fun ρ β W X cx => ?_
      exact dv_alloc (cs := #[vi 0, vi 0, .slice none 0 0]) rfl (by kernel_rfl) rfl rfl (fun σ β' X' hs hb hv hx => ⟨hv, hx⟩)
    · refine sv_any rfl rfl fun ρ β W X cx => ?_
      exact dv_store (n := 3) rfl (dTn (cx.an 6)).1 (dTn (cx.an 4)) (by kernel_rfl) (by kernel_rfl) (by kernel_rfl) cx (dTn (cx.an 6)).2 rfl (nle rfl) (by kernel_rfl) rfl rfl rfl (fun σ β' X' hs hb hx => by rw [hb 6, hb 10]; exact hx)
  intro σ β X W2 hD hst2 fr hfr
  obtain ⟨A10_2, hu_A10_2⟩ : ∃ z, sA (tg (tg (β 10) 0) 2) = z := ⟨_, rfl⟩
  obtain ⟨c10_2, hu_c10_2⟩ : ∃ z, sC (tg (tg (β 10) 0) 2) = z := ⟨_, rfl⟩
  obtain ⟨B6_2, hu_B6_2⟩ : ∃ z, pb (β 6) = z := ⟨_, rfl⟩
  simp only [exq 0 ((dTn (hD 2 lq)).2), exq 2 ((dTn (hD 7 lq))), hu_A10_2, hu_c10_2, hu_B6_2] at hst2
  simp only [ed 10 ((dTn (hD 2 lq)).1), ed 7 ((dTn (hD 3 lq))), ed 11 ((dTn (hD 4 lq))), ed 6 ((dTn (hD 6 lq)).1), hu_A10_2, hu_c10_2, hu_B6_2] at hfr
  clear hD hu_A10_2 hu_c10_2 hu_B6_2; subst hfr; clear σ β X
  refine then_normal (wp_seq (wp_seq (wp_region_Z [0, 1, 3, 7, 15, 31, 63, 127, 255, 511, 1023, 2047, 4095, 8191, 16383, 32767, 65535, 131071, 262143, 524287, 1048575] [[], [], [], [], [1], [], [], [], [], [1], [], [], [], [], [], [1], [0], [0]] [.k 13 (.bool ((pv n).ok)), .k 14 (.bool (!((pv n).ok))), .k 15 (.bool (!((pv n).ok))), .z 16 (!(!((pv n).ok))) (vp B6_2), .y 17 (!(!((pv n).ok))) (vi ((pv n).k)), .z 18 (!(!((pv n).ok))) (.bool (((pv n).k) != 1)), tO 19 (!((pv n).ok)) (((pv n).k) != 1), .k 20 (.bool ((!((pv n).ok)) || (((pv n).k) != 1))), .z 21 (!((!((pv n).ok)) || (((pv n).k) != 1))) (.pointer (some ⟨B6_2, 2, none⟩)), .y 22 (!((!((pv n).ok)) || (((pv n).k) != 1))) (.slice A10_2 ((pv n).its.length) c10_2), .z 23 (!((!((pv n).ok)) || (((pv n).k) != 1))) (vi (((pv n).its.length : Int))), .z 24 (!((!((pv n).ok)) || (((pv n).k) != 1))) (.bool (((pv n).its.length : Int) == 0)), tO 25 ((!((pv n).ok)) || (((pv n).k) != 1)) (((pv n).its.length : Int) == 0), .k 26 (.bool (((!((pv n).ok)) || (((pv n).k) != 1)) || (((pv n).its.length : Int) == 0))), .z 27 (!(((!((pv n).ok)) || (((pv n).k) != 1)) || (((pv n).its.length : Int) == 0))) (.pointer (some ⟨B6_2, 2, none⟩)), .y 28 (!(((!((pv n).ok)) || (((pv n).k) != 1)) || (((pv n).its.length : Int) == 0))) (.slice A10_2 ((pv n).its.length) c10_2), .y 29 (!(((!((pv n).ok)) || (((pv n).k) != 1)) || (((pv n).its.length : Int) == 0))) (.pointer (some ((ad A10_2).add 0))), .y 30 (!(((!((pv n).ok)) || (((pv n).k) != 1)) || (((pv n).its.length : Int) == 0))) (.string (((pv n).its.getD 0 it0).1)), .z 31 (!(((!((pv n).ok)) || (((pv n).k) != 1)) || (((pv n).its.length : Int) == 0))) (vi (((((pv n).its.getD 0 it0).1).size : Int))), .z 32 (!(((!((pv n).ok)) || (((pv n).k) != 1)) || (((pv n).its.length : Int) == 0))) (.bool (((((pv n).its.getD 0 it0).1).size : Int) != 2)), tO 33 (((!((pv n).ok)) || (((pv n).k) != 1)) || (((pv n).its.length : Int) == 0)) (((((pv n).its.getD 0 it0).1).size : Int) != 2)] [0, 1] [4, 9, 15, 16, 17] [(13, 0, 21, 34)] hst2 ?_ fun W3 hst3 => ?_)))
  · refine ⟨?_, ?_, ?_, ?_, ?_, trivial⟩
    · exact m2 rfl (fun _ _ _ h => h) (fun cx => (cx.an 2)) fun cx hq => run_load1 rfl (by kernel_rfl) (mbv (cx.an 3) hq) ((cx.bi 1 rfl).cell 0)
    · exact m2 rfl (fun _ _ _ h => h) (fun cx => (cx.an 7)) fun cx hq => run_load1 rfl (by kernel_rfl) (mbv (cx.an 8) hq) ((cx.bi 1 rfl).cell 2)
    · exact m2 rfl (fun _ _ _ h => h) (fun cx => (cx.an 13)) fun cx hq => run_load1 rfl (by kernel_rfl) (mbv (cx.an 14) hq) ((cx.bi 1 rfl).cell 2)
    · exact m2 rfl (fun _ _ _ h => h) (fun cx => (cx.an 13)) fun cx hq => run_indexSl (e := 9) (m := 0) rfl (by kernel_rfl) (by kernel_rfl) (mbv (cx.an 15) hq) (cx.co _) (by have hq_ := hq; simp only [zB] at hq_; omega) (by have hq_ := hq; simp only [zB] at hq_; omega) (At.of_own (cx.ri 0 rfl)) (strs_len _)
    · exact m2 rfl (fun _ _ _ h => h) (fun cx => (cx.an 13)) fun cx hq => run_load1 rfl (by kernel_rfl) (mbv (cx.an 16) hq) (At.cellAd (At.of_own (cx.ri 0 rfl)) (getD_strs (by have hq_ := hq; simp only [zB] at hq_; omega)))
  refine then_normal ?_
  rcases Bool.eq_false_or_eq_true ((((!((pv n).ok)) || (((pv n).k) != 1)) || (((pv n).its.length : Int) == 0)) || (((((pv n).its.getD 0 it0).1).size : Int) != 2)) with hs4 | hs4
  · skip
    have hs4p := hs4
    simp only [zB] at hs4p
    refine wp_cond_true (show Act.eval _ _ = .bool true from (congrArg Value.bool hs4)) (wp_seq (wp_region_P [0, 1] [.k 4 (vi 0), .k 5 (.bool false)] [(4, 0, 2, 6)] hst3 fun W5 hst5 => ?_))
    refine then_normal (wp_ret (then_ret ?_))
    refine bodyPost_ret (v := .tuple #[vi 0, .bool false]) (by simp [results, Tryd.results31, go_sem]) rfl ?_
    exact Ret.of (by rw [ofF, hdF, hs4]; rfl) hst5.ext
  have hs4p := hs4
  simp only [zB] at hs4p
  obtain ⟨⟨⟨hs4p1, hs4p2⟩, hs4p3⟩, hs4p4⟩ := hs4p
  refine wp_cond_false (show Act.eval _ _ = .bool false from (congrArg Value.bool hs4)) (wp_skip (then_normal (wp_seq (wp_region_Y [0, 1, 3, 7, 15, 31, 63, 127] [[], [1], [0], [0], [], [2]] [[], [], [], [], [2], [3]] [[], [], [], [], [], [2]] [.k 34 (.pointer (some ⟨B6_2, 2, none⟩)), .c 35 (.slice A10_2 ((pv n).its.length) c10_2), .c 36 (.pointer (some ((ad A10_2).add 0))), .c 37 (.string (((pv n).its.getD 0 it0).1)), .a 38, .a 39, .c 4 (vi ((numS (((pv n).its.getD 0 it0).1) 0 2 : Int))), .k 5 (.bool true)] (fun ix σ β X => match ix with | 0 => True | 1 => True | 2 => True | 3 => True | 4 => σ 38 = vp (pb (β 38)) ∧ X 2 = eB (pb (β 38)) 168 #[.string (((pv n).its.getD 0 it0).1), vi 0, .bool false] | 5 => σ 39 = vi ((numS (((pv n).its.getD 0 it0).1) 0 2 : Int)) ∧ X 3 = eB (pb (β 38)) 168 #[.string (((pv n).its.getD 0 it0).1), vi 2, .bool false] | _ => True) [0, 1, 3] [1, 2, 3, 4, 5, 6] [(4, 6, 2, 6), (28, 0, 6, 34)] hst3 ?_ ?_ ?_))))
  · exact fun ix _ _ _ _ _ _ hs hb hx h => match ix, h with
    | 4, h => by dsimp only at h ⊢; rw [← hs 38 rfl, ← hb 38 rfl, ← hx 2 rfl]; exact h
    | 5, h => by dsimp only at h ⊢; rw [← hs 39 rfl, ← hb 38 rfl, ← hx 3 rfl]; exact h
    | 0, _ | 1, _ | 2, _ | 3, _ | _ + 6, _ => trivial
  · refine ⟨?_, ?_, ?_, ?_, ?_, ?_, trivial⟩
    · exact xs4 rfl id fun cx => run_load1 rfl (by kernel_rfl) (cx.an 0) ((cx.bi 1 rfl).cell 2)
    · exact xs4 rfl id fun cx => run_indexSl (e := 9) (m := 0) rfl (by kernel_rfl) (by kernel_rfl) (cx.an 1) (cx.co _) (by omega) (by omega) (At.of_own (cx.ri 0 rfl)) (strs_len _)
    · exact xs4 rfl id fun cx => run_load1 rfl (by kernel_rfl) (cx.an 2) (At.cellAd (At.of_own (cx.ri 0 rfl)) (getD_strs (by omega)))
    · refine sv_any rfl rfl fun ρ β W X cx => ?_
      refine DoesU.call (run_callF (args := #[.string (((pv n).its.getD 0 it0).1)]) rfl cx.sees rfl (by kernel_rfl) (map1 (cx.an 3))) ?_
      refine (oread_b (((pv n).its.getD 0 it0).1) _).mono ?_
      rintro e W1 ⟨B4, rfl, ⟨hb4, hw4⟩, hx⟩
      refine ⟨_, rfl, post_call [eB B4 168 #[.string (((pv n).its.getD 0 it0).1), vi 0, .bool false]] rfl rfl hx (one_new ⟨hb4, eB_loc _ _ _, fun k hk => by simp [eB] at hk; subst hk; exact ⟨hw4, hb4.lt⟩⟩) (List.pairwise_singleton _ _) (fun σ β' X' hs hb hv hN => ?_)⟩
      have hv1 := (hv 38 rfl).1; have hv2 := (hv 38 rfl).2
      exact ⟨hv1.trans (by rw [hv2]; rfl), (by rw [hv2]; exact (List.cons.inj hN).1)⟩
    · refine sv_any rfl rfl fun ρ β W X cx => ?_
      refine DoesU.call (run_callF (args := #[vp (pb (β 38)), vi 2]) rfl cx.sees rfl (by kernel_rfl) (map2 (dTn (cx.an 4)).1 (cx.co _))) ?_
      refine (num_ok _ (((pv n).its.getD 0 it0).1) 0 2 _ ⟨(cx.blk (dTn (cx.an 4)).2 rfl), by omega, by omega⟩ (by omega) (by omega)).mono ?_
      rintro e W1 ⟨rfl, hrd, hu⟩
      refine ⟨_, rfl, post_mut (dTn (cx.an 4)).2 rfl rfl hu hrd.1 (fun σ β' X' hs hb hv hx => ?_)⟩
      rw [hb 38 (by decide)]
      exact ⟨(hv 39 rfl).1.trans rfl, hx⟩
    · exact xs4 rfl id fun cx => run_assign' rfl (dTn (cx.an 5)).1
  intro σ β X W6 hD hst6 fr hfr
  obtain ⟨B38_6, hu_B38_6⟩ : ∃ z, pb (β 38) = z := ⟨_, rfl⟩
  simp only [exq 3 ((dTn (hD 5 lq)).2), hu_B38_6] at hst6
  simp only [ed 38 ((dTn (hD 4 lq)).1), ed 39 ((dTn (hD 5 lq)).1), hu_B38_6] at hfr
  clear hD hu_B38_6; subst hfr; clear σ β X
  refine then_normal (wp_ret ?_)
  refine bodyPost_ret (v := .tuple #[vi ((numS (((pv n).its.getD 0 it0).1) 0 2 : Int)), .bool true]) (by simp [results, Tryd.results31, go_sem]) rfl ?_
  exact Ret.of (by rw [ofF, hdF, hs4]; rfl) hst6.ext
end
end Go.Proofs.YtjnplglnnamfdaaDoor
namespace Go.Proofs.YtjnplglnnamfdaaDoor
section
open Go.RowKit
set_option linter.unusedVariables false
set_option linter.unusedSimpArgs false
def atF (v : PV) (j : Int) : Option VerD := if 0 ≤ tbF v ∧ 1 ≤ j ∧ j < v.its.length then (v.its.getD j.toNat it0).2 else none
theorem eD_some (o : Option VerD) : (eD o == 0) = o.isSome := by cases o <;> rfl
def VerAt (o : Option VerD) (w : World) (e : Ending) (w' : World) : Prop := ∃ A c, e = .returned (.tuple #[.agg #[.int .i64 (vD o).1, .int .i64 (vD o).2.1, .int .i64 (vD o).2.2.1, .int .i64 (vD o).2.2.2.1, .bool (vD o).2.2.2.2.1, .slice A (vD o).2.2.2.2.2.length c], .bool o.isSome]) ∧
  w'.ownsRow w.heap.size 82 3 (.slice A (vD o).2.2.2.2.2.length c) (vD o).2.2.2.2.2.length (flatR (vD o).2.2.2.2.2) ∧ Ext w w'
theorem PV.desc {v : PV} (h : v.wf) {j : Nat} (hj : j < v.its.length) : Desc (v.its.getD j it0).1 (v.its.getD j it0).2 := by
  refine h.2 _ ?_
  rw [List.getD_eq_getElem?_getD, List.getElem?_eq_getElem hj, Option.getD_some]
  exact List.getElem_mem _
/-- the versions in the first k slots -/
def fndF (its : List Itm) (k : Nat) : List (Nat × VerD) := (List.range k).filterMap fun j => if 0 < j then (its.getD j it0).2.map (fun v => (j, v)) else none
theorem fnd_yes {its : List Itm} {j : Nat} (h : 0 < j) (h2 : (its.getD j it0).2.isSome = true) : fndF its (j + 1) = fndF its j ++ [(j, vD (its.getD j it0).2)] := by
  obtain ⟨v, hv⟩ := Option.isSome_iff_exists.1 h2
  rw [fndF, List.range_succ, List.filterMap_append, fndF, hv]
  congr 1
  simp only [List.filterMap_cons, List.filterMap_nil]
  rw [if_pos h, hv]; rfl
theorem fnd_no {its : List Itm} {j : Nat} (h : ¬ (0 < j ∧ (its.getD j it0).2.isSome = true)) : fndF its (j + 1) = fndF its j := by
  rw [fndF, List.range_succ, List.filterMap_append, ← fndF]
  have e : (if 0 < j then (its.getD j it0).2.map (fun v => (j, v)) else none) = none := by
    by_cases h1 : 0 < j
    · rw [if_pos h1]
      cases h2 : (its.getD j it0).2 with
      | none => rfl
      | some v => exact absurd ⟨h1, by rw [h2]; rfl⟩ h
    · rw [if_neg h1]
  simp only [List.filterMap_cons, List.filterMap_nil, e, List.append_nil]
def allF' (v : PV) : List (Nat × VerD) := if hdF v then fndF v.its v.its.length else []
abbrev FK := (Nat × VerD) × Option Addr × Nat
def fk0 : FK := ((0, zD), none, 0)
def cellsF (n : Int) (k : FK) : List Value := [.int .i64 n, .int .i64 (k.1.1 : Int), .int .i64 k.1.2.1, .int .i64 k.1.2.2.1, .int .i64 k.1.2.2.2.1, .int .i64 k.1.2.2.2.2.1, .bool k.1.2.2.2.2.2.1, .slice k.2.1 k.1.2.2.2.2.2.2.length k.2.2]
theorem cellsF_len (n : Int) (k : FK) : (cellsF n k).length = 8 := rfl
theorem found_snoc (n : Int) (ks : List FK) (k : FK) : ks.flatMap (cellsF n) ++ cellsF n k = (ks ++ [k]).flatMap (cellsF n) := by simp
def AllPost (t : TypeId) (v : PV) (n : Int) (w : World) (e : Ending) (w' : World) : Prop := ∃ A c, ∃ ks : List FK, ks.map Prod.fst = allF' v ∧ e = .returned (.slice A (allF' v).length c) ∧ w'.ownsRow w.heap.size t 8 (.slice A (allF' v).length c) (allF' v).length (ks.flatMap (cellsF n)) ∧ Ext w w'
theorem Tryd.infoFnd : (Tryd.prog.info? 78).map (fun i => (i.zero, i.size, i.bytes)) = some (some (.agg #[.int .i64 0, .int .i64 0, .int .i64 0, .int .i64 0, .int .i64 0, .int .i64 0, .bool false, .slice none 0 0]), 8, 80) := by kernel_rfl
theorem ks_len {ks : List FK} {l : List (Nat × VerD)} (h : ks.map Prod.fst = l) : ks.length = l.length := by rw [← h, List.length_map]
theorem ks_snoc {ks : List FK} {its : List Itm} {j : Nat} (h : ks.map Prod.fst = fndF its j) (h0 : 0 < j) (h2 : (its.getD j it0).2.isSome = true) (A : Option Addr) (c : Nat) : (ks ++ [((j, vD (its.getD j it0).2), A, c)]).map Prod.fst = fndF its (j + 1) := by
  rw [fnd_yes h0 h2, List.map_append, h]; rfl
theorem ks_keep {ks : List FK} {its : List Itm} {j : Nat} (h : ks.map Prod.fst = fndF its j) (h2 : ¬ (0 < j ∧ (its.getD j it0).2.isSome = true)) : ks.map Prod.fst = fndF its (j + 1) := by rw [fnd_no h2, h]
set_option maxRecDepth 100000 in
set_option maxHeartbeats 4000000 in
theorem hall_any (tt : TypeId) (tv : Value) (pv : Int → PV) (n : Int) (w : World) (hS : PgsOk w tt tv pv) (hN : NoneAt w) :
    Calls Tryd.prog 24 #[.iface tt (tv), .int .i64 n] w (AllPost 78 (pv n) n w) := by
  obtain ⟨f0, rv, hM, hC, hG⟩ := hS.ex
  have hwf := hS.wf n
  have hwl := hwf.1
  go_enter Tryd.func24, Tryd.ntmps24
  have hst0 := St.start w
  refine wp_seq (wp_region_P [0] [.k 4 (.slice none 0 0)] [(4, 0, 1, 5)] hst0 fun W1 hst1 => ?_)
  refine then_normal (wp_seq (wp_seq (wp_region_Z [0, 0, 3, 7, 15, 15, 31, 127] [] [.k 14 (.iface tt (tv)), .k 15 (vi n), .c 16 (.tuple #[vi ((ofF (pv n))), .bool ((hdF (pv n)))]), .k 13 (.tuple #[vi ((ofF (pv n))), .bool ((hdF (pv n)))]), .k 17 (vi ((ofF (pv n)))), .k 18 (.bool ((hdF (pv n)))), .k 5 (vi ((ofF (pv n)))), .k 6 (.bool ((hdF (pv n))))] [] [2] [(5, 6, 2, 7), (6, 3, 1, 7), (0, 0, 3, 3), (0, 4, 2, 2)] hst1 ?_ fun W2 hst2 => ?_)))
  · refine ⟨?_, trivial⟩
    · exact xsc rfl id rfl rfl fun cx => ⟨_, of_any _ _ pv n _ (hS.ext cx.upd.to_ext), (map2 (cx.an 0) (cx.an 1))⟩
  refine then_normal (wp_seq (wp_region_P [0, 1] [.k 19 (.bool ((hdF (pv n)))), .k 20 (.bool (!((hdF (pv n)))))] [(19, 0, 2, 21)] hst2 fun W3 hst3 => ?_))
  refine then_normal ?_
  rcases Bool.eq_false_or_eq_true ((hdF (pv n))) with hs4 | hs4
  · skip
    refine wp_cond_false (show Act.eval _ _ = .bool false from (congrArg Value.bool (by rw [hs4]; rfl))) (wp_skip (then_normal (wp_seq (wp_region_Y [0, 0, 3, 7, 15, 15, 0, 95, 255] [[], [], [], [], [], [], [], [1]] [[], [], [0], [], [], [], [1], [2]] [[], [], [], [], [], [], [], [1]] [.k 22 (.iface tt (tv)), .k 23 (vi n), .a 24, .a 21, .a 25, .c 26 (.bool ((pv n).ok)), .a 7, .n, .k 8 (.bool ((pv n).ok))] (fun ix σ β X => match ix with | 0 => True | 1 => True | 2 => σ 24 = .tuple #[.agg #[vi ((pv n).k), vi ((pv n).l), .slice (sA (tg (tg (β 24) 0) 2)) ((pv n).its.length) (sC (tg (tg (β 24) 0) 2))], .bool ((pv n).ok)] ∧ X 0 = eO 9 1 (.slice (sA (tg (tg (β 24) 0) 2)) ((pv n).its.length) (sC (tg (tg (β 24) 0) 2))) ((pv n).its.length) (strs (pv n).its) | 3 => σ 21 = .tuple #[.agg #[vi ((pv n).k), vi ((pv n).l), .slice (sA (tg (tg (β 24) 0) 2)) ((pv n).its.length) (sC (tg (tg (β 24) 0) 2))], .bool ((pv n).ok)] | 4 => σ 25 = .agg #[vi ((pv n).k), vi ((pv n).l), .slice (sA (tg (tg (β 24) 0) 2)) ((pv n).its.length) (sC (tg (tg (β 24) 0) 2))] | 5 => True | 6 => σ 7 = vp (pb (β 7)) ∧ X 1 = eB (pb (β 7)) 86 #[vi 0, vi 0, .slice none 0 0] | 7 => X 2 = eB (pb (β 7)) 86 #[vi ((pv n).k), vi ((pv n).l), .slice (sA (tg (tg (β 24) 0) 2)) ((pv n).its.length) (sC (tg (tg (β 24) 0) 2))] | _ => True) [0, 2] [2, 3, 4, 5, 6, 7] [(7, 6, 3, 9), (12, 3, 1, 13), (0, 0, 3, 3), (0, 4, 2, 2)] hst3 ?_ ?_ ?_))))
    · exact fun ix _ _ _ _ _ _ hs hb hx h => match ix, h with
      | 2, h => by dsimp only at h ⊢; rw [← hs 24 rfl, ← hb 24 rfl, ← hx 0 rfl]; exact h
      | 3, h => by dsimp only at h ⊢; rw [← hs 21 rfl, ← hb 24 rfl]; exact h
      | 4, h => by dsimp only at h ⊢; rw [← hs 25 rfl, ← hb 24 rfl]; exact h
      | 6, h => by dsimp only at h ⊢; rw [← hs 7 rfl, ← hb 7 rfl, ← hx 1 rfl]; exact h
      | 7, h => by dsimp only at h ⊢; rw [← hb 7 rfl, ← hb 24 rfl, ← hx 2 rfl]; exact h
      | 0, _ | 1, _ | 5, _ | _ + 8, _ => trivial
    · refine ⟨?_, ?_, ?_, ?_, ?_, ?_, trivial⟩
      · refine sv_any rfl rfl fun ρ β W X cx => ?_
        refine DoesU.call (run_invoke (args := #[vi n]) (args' := #[rv, vi n]) rfl rfl (cx.an 0) hM hC (map1 (cx.an 1)) rfl) ?_
        refine (hG _ n cx.upd.to_ext).mono ?_
        rintro e W1 ⟨A4, c4, rfl, ho, hx⟩
        refine ⟨_, rfl, post_call [eO 9 1 (.slice A4 (pv n).its.length c4) (pv n).its.length (strs (pv n).its)] rfl rfl hx (one_new (eO_new ho)) (List.pairwise_singleton _ _) (fun σ β' X' hs hb hv hN => ?_)⟩
        have hv1 := (hv 24 rfl).1; have hv2 := (hv 24 rfl).2
        exact ⟨hv1.trans (by rw [hv2]; rfl), (by rw [hv2]; exact (List.cons.inj hN).1)⟩
      · exact sv rfl rfl rfl rfl rfl _ (fun _ _ _ h => h) (fun β β' h => by rw [h 24 (by decide)]) fun ρ β W X cx => run_move' rfl (dTn (cx.an 2)).1
      · exact sv rfl rfl rfl rfl rfl _ (fun _ _ _ h => h) (fun β β' h => by rw [h 24 (by decide)]) fun ρ β W X cx => run_extract' rfl (dTn (cx.an 3)) rfl
      · exact xs4 rfl id fun cx => run_extract' rfl (dTn (cx.an 3)) rfl
      · refine sv_any rfl rfl fun ρ β W X cx => ?_
        exact dv_alloc (cs := #[vi 0, vi 0, .slice none 0 0]) rfl (by kernel_rfl) rfl rfl (fun σ β' X' hs hb hv hx => ⟨hv, hx⟩)
      · refine sv_any rfl rfl fun ρ β W X cx => ?_
        exact dv_store (n := 3) rfl (dTn (cx.an 6)).1 (dTn (cx.an 4)) (by kernel_rfl) (by kernel_rfl) (by kernel_rfl) cx (dTn (cx.an 6)).2 rfl (nle rfl) (by kernel_rfl) rfl rfl rfl (fun σ β' X' hs hb hx => by rw [hb 7, hb 24]; exact hx)
    intro σ β X W5 hD hst5 fr hfr
    obtain ⟨A24_5, hu_A24_5⟩ : ∃ z, sA (tg (tg (β 24) 0) 2) = z := ⟨_, rfl⟩
    obtain ⟨c24_5, hu_c24_5⟩ : ∃ z, sC (tg (tg (β 24) 0) 2) = z := ⟨_, rfl⟩
    obtain ⟨B7_5, hu_B7_5⟩ : ∃ z, pb (β 7) = z := ⟨_, rfl⟩
    simp only [exq 0 ((dTn (hD 2 lq)).2), exq 2 ((dTn (hD 7 lq))), hu_A24_5, hu_c24_5, hu_B7_5] at hst5
    simp only [ed 24 ((dTn (hD 2 lq)).1), ed 21 ((dTn (hD 3 lq))), ed 25 ((dTn (hD 4 lq))), ed 7 ((dTn (hD 6 lq)).1), hu_A24_5, hu_c24_5, hu_B7_5] at hfr
    clear hD hu_A24_5 hu_c24_5 hu_B7_5; subst hfr; clear σ β X
    refine then_normal (wp_seq (wp_seq (wp_region_Z [0, 1, 3, 0] [[], [1]] [.k 27 (.pointer (some ⟨B7_5, 2, none⟩)), .c 28 (.slice A24_5 ((pv n).its.length) c24_5), .k 29 (vi (((pv n).its.length : Int))), .k 30 (vi 0)] [0, 1] [1] [(27, 0, 4, 31)] hst5 ?_ fun W6 hst6 => ?_)))
    · refine ⟨?_, trivial⟩
      · exact xs4 rfl id fun cx => run_load1 rfl (by kernel_rfl) (cx.an 0) ((cx.bi 1 rfl).cell 2)
    refine then_normal (wp_block ?_)
    have hn_7 := nilrowN hst6 78 8
    refine wp_loopN (fun mz az W => ∃ j : Nat, ∃ m : Nat, ∃ FA : Option Addr, ∃ FC : Nat, ∃ ks : List FK, j ≤ (pv n).its.length ∧ ks.length = m ∧ ks.map Prod.fst = fndF (pv n).its j ∧ m ≤ j ∧ mz = (pv n).its.length - j ∧ az = ⟨#[.iface tt (tv), vi n, undef, undef, .slice FA m FC, vi ((ofF (pv n))), .bool ((hdF (pv n))), vp B7_5, .bool ((pv n).ok), jv az 9, jv az 10, jv az 11, jv az 12, .tuple #[vi ((ofF (pv n))), .bool ((hdF (pv n)))], .iface tt (tv), vi n, .tuple #[vi ((ofF (pv n))), .bool ((hdF (pv n)))], vi ((ofF (pv n))), .bool ((hdF (pv n))), .bool ((hdF (pv n))), .bool (!((hdF (pv n)))), .tuple #[.agg #[vi ((pv n).k), vi ((pv n).l), .slice A24_5 ((pv n).its.length) c24_5], .bool ((pv n).ok)], .iface tt (tv), vi n, .tuple #[.agg #[vi ((pv n).k), vi ((pv n).l), .slice A24_5 ((pv n).its.length) c24_5], .bool ((pv n).ok)], .agg #[vi ((pv n).k), vi ((pv n).l), .slice A24_5 ((pv n).its.length) c24_5], .bool ((pv n).ok), .pointer (some ⟨B7_5, 2, none⟩), .slice A24_5 ((pv n).its.length) c24_5, vi (((pv n).its.length : Int)), vi ((j : Int)), jv az 31, jv az 32, jv az 33, jv az 34, jv az 35, jv az 36, jv az 37, jv az 38, jv az 39, jv az 40, jv az 41, jv az 42, jv az 43, jv az 44, jv az 45, jv az 46, jv az 47, jv az 48, jv az 49, jv az 50, jv az 51, jv az 52, jv az 53, jv az 54, undef], []⟩ ∧ St w [] [eO 78 8 (.slice FA m FC) m (ks.flatMap (cellsF n)), eO 9 1 (.slice A24_5 ((pv n).its.length) c24_5) ((pv n).its.length) (strs (pv n).its)] W) ((pv n).its.length - 0) ?_ ?_
    · -- the loop begins
      have hp9 := hn_7.pick [2, 0] (by decide) rfl
      exact ⟨0, 0, none, 0, [], by omega, rfl, rfl, by omega, rfl, (by kernel_rfl), hp9⟩
    rintro n8 a8 W8 ⟨j, m, FA, FC, ks, hj, hkm, hkl, hmj, rfl, hj_, hst8⟩
    obtain ⟨u8_, hu_⟩ : ∃ z, jv a8 = z := ⟨_, rfl⟩
    rw [hu_] at hj_; clear hu_; subst hj_
    refine wp_seq (wp_region_P [0] [.k 31 (.bool (decide ((j : Int) < ((pv n).its.length : Int))))] [(31, 0, 1, 32)] hst8 fun W10 hst10 => ?_)
    refine then_normal (wp_seq ?_)
    rcases Bool.eq_false_or_eq_true (decide ((j : Int) < ((pv n).its.length : Int))) with hs11 | hs11
    · skip
      have hs11p : (j : Int) < ((pv n).its.length : Int) := by simpa using hs11
      refine wp_cond_true (show Act.eval _ _ = .bool true from (congrArg Value.bool hs11)) (wp_skip (then_normal (wp_seq (wp_block (wp_seq (wp_region_Z [0, 0, 2, 7, 15] [[], [1], [1]] [.k 32 (vi ((j : Int))), .c 33 (.pointer (some ((ad A24_5).add j))), .c 34 (.string (((pv n).its.getD j it0).1)), .k 9 (vi ((j : Int))), .k 10 (.string (((pv n).its.getD j it0).1))] [0, 1] [1, 2] [(9, 3, 2, 11), (21, 0, 3, 24)] hst10 ?_ fun W12 hst12 => ?_))))))
      · refine ⟨?_, ?_, trivial⟩
        · exact xs4 rfl id fun cx => run_indexSl (e := 9) (m := j) rfl (by kernel_rfl) (by kernel_rfl) (cx.ou 28) (cx.ou 30) (by omega) (by omega) (At.of_own (cx.ri 1 rfl)) (strs_len _)
        · exact xs4 rfl id fun cx => run_load1 rfl (by kernel_rfl) (cx.an 1) (At.cellAd (At.of_own (cx.ri 1 rfl)) (getD_strs (by omega)))
      refine then_normal (wp_seq ?_)
      have hdj := PV.desc hwf (j := j) (by omega)
      have hbd := hdj.bd
      refine wp_region_Y [0, 1, 3, 7, 7, 0, 47, 127] [[], [], [], [], [], [], [3]] [[], [2], [], [], [], [3], [4]] [[], [], [], [], [], [], [3]] [.k 36 (.string (((pv n).its.getD j it0).1)), .a 37, .a 35, .a 38, .c 39 (vi ((eD ((pv n).its.getD j it0).2))), .a 11, .n, .k 12 (vi ((eD ((pv n).its.getD j it0).2)))] (fun ix σ β X => match ix with | 0 => True | 1 => σ 37 = .tuple #[.agg #[vi ((vD ((pv n).its.getD j it0).2).1), vi ((vD ((pv n).its.getD j it0).2).2.1), vi ((vD ((pv n).its.getD j it0).2).2.2.1), vi ((vD ((pv n).its.getD j it0).2).2.2.2.1), .bool ((vD ((pv n).its.getD j it0).2).2.2.2.2.1), .slice (sA (tg (tg (β 37) 0) 5)) ((vD ((pv n).its.getD j it0).2).2.2.2.2.2.length) (sC (tg (tg (β 37) 0) 5))], vi ((eD ((pv n).its.getD j it0).2))] ∧ X 2 = eO 82 3 (.slice (sA (tg (tg (β 37) 0) 5)) ((vD ((pv n).its.getD j it0).2).2.2.2.2.2.length) (sC (tg (tg (β 37) 0) 5))) ((vD ((pv n).its.getD j it0).2).2.2.2.2.2.length) (flatR (vD ((pv n).its.getD j it0).2).2.2.2.2.2) | 2 => σ 35 = .tuple #[.agg #[vi ((vD ((pv n).its.getD j it0).2).1), vi ((vD ((pv n).its.getD j it0).2).2.1), vi ((vD ((pv n).its.getD j it0).2).2.2.1), vi ((vD ((pv n).its.getD j it0).2).2.2.2.1), .bool ((vD ((pv n).its.getD j it0).2).2.2.2.2.1), .slice (sA (tg (tg (β 37) 0) 5)) ((vD ((pv n).its.getD j it0).2).2.2.2.2.2.length) (sC (tg (tg (β 37) 0) 5))], vi ((eD ((pv n).its.getD j it0).2))] | 3 => σ 38 = .agg #[vi ((vD ((pv n).its.getD j it0).2).1), vi ((vD ((pv n).its.getD j it0).2).2.1), vi ((vD ((pv n).its.getD j it0).2).2.2.1), vi ((vD ((pv n).its.getD j it0).2).2.2.2.1), .bool ((vD ((pv n).its.getD j it0).2).2.2.2.2.1), .slice (sA (tg (tg (β 37) 0) 5)) ((vD ((pv n).its.getD j it0).2).2.2.2.2.2.length) (sC (tg (tg (β 37) 0) 5))] | 4 => True | 5 => σ 11 = vp (pb (β 11)) ∧ X 3 = eB (pb (β 11)) 41 #[vi 0, vi 0, vi 0, vi 0, .bool false, .slice none 0 0] | 6 => X 4 = eB (pb (β 11)) 41 #[vi ((vD ((pv n).its.getD j it0).2).1), vi ((vD ((pv n).its.getD j it0).2).2.1), vi ((vD ((pv n).its.getD j it0).2).2.2.1), vi ((vD ((pv n).its.getD j it0).2).2.2.2.1), .bool ((vD ((pv n).its.getD j it0).2).2.2.2.2.1), .slice (sA (tg (tg (β 37) 0) 5)) ((vD ((pv n).its.getD j it0).2).2.2.2.2.2.length) (sC (tg (tg (β 37) 0) 5))] | _ => True) [0, 1, 2, 4] [1, 2, 3, 4, 5, 6] [(11, 5, 3, 13), (22, 2, 1, 23), (0, 0, 2, 2), (0, 3, 2, 2)] hst12 ?_ ?_ ?_
      · exact fun ix _ _ _ _ _ _ hs hb hx h => match ix, h with
        | 1, h => by dsimp only at h ⊢; rw [← hs 37 rfl, ← hb 37 rfl, ← hx 2 rfl]; exact h
        | 2, h => by dsimp only at h ⊢; rw [← hs 35 rfl, ← hb 37 rfl]; exact h
        | 3, h => by dsimp only at h ⊢; rw [← hs 38 rfl, ← hb 37 rfl]; exact h
        | 5, h => by dsimp only at h ⊢; rw [← hs 11 rfl, ← hb 11 rfl, ← hx 3 rfl]; exact h
        | 6, h => by dsimp only at h ⊢; rw [← hb 11 rfl, ← hb 37 rfl, ← hx 4 rfl]; exact h
        | 0, _ | 4, _ | _ + 7, _ => trivial
      · refine ⟨?_, ?_, ?_, ?_, ?_, ?_, trivial⟩
        · refine sv_any rfl rfl fun ρ β W X cx => ?_
          refine DoesU.call (run_callF (args := #[.string (((pv n).its.getD j it0).1)]) rfl cx.sees rfl (by kernel_rfl) (map1 (cx.an 0))) ?_
          refine (tread_desc _ hdj (hN.ext cx.upd.to_ext)).mono ?_
          rintro e W1 ⟨A4, c4, rfl, ho, hx⟩
          refine ⟨_, rfl, post_call [eO 82 3 (.slice A4 (vD ((pv n).its.getD j it0).2).2.2.2.2.2.length c4) (vD ((pv n).its.getD j it0).2).2.2.2.2.2.length (flatR (vD ((pv n).its.getD j it0).2).2.2.2.2.2)] rfl rfl hx (one_new (eO_new ho)) (List.pairwise_singleton _ _) (fun σ β' X' hs hb hv hN => ?_)⟩
          have hv1 := (hv 37 rfl).1; have hv2 := (hv 37 rfl).2
          exact ⟨hv1.trans (by rw [hv2]; rfl), (by rw [hv2]; exact (List.cons.inj hN).1)⟩
        · exact sv rfl rfl rfl rfl rfl _ (fun _ _ _ h => h) (fun β β' h => by rw [h 37 (by decide)]) fun ρ β W X cx => run_move' rfl (dTn (cx.an 1)).1
        · exact sv rfl rfl rfl rfl rfl _ (fun _ _ _ h => h) (fun β β' h => by rw [h 37 (by decide)]) fun ρ β W X cx => run_extract' rfl (dTn (cx.an 2)) rfl
        · exact xs4 rfl id fun cx => run_extract' rfl (dTn (cx.an 2)) rfl
        · refine sv_any rfl rfl fun ρ β W X cx => ?_
          exact dv_alloc (cs := #[vi 0, vi 0, vi 0, vi 0, .bool false, .slice none 0 0]) rfl (by kernel_rfl) rfl rfl (fun σ β' X' hs hb hv hx => ⟨hv, hx⟩)
        · refine sv_any rfl rfl fun ρ β W X cx => ?_
          exact dv_store (n := 6) rfl (dTn (cx.an 5)).1 (dTn (cx.an 3)) (by kernel_rfl) (by kernel_rfl) (by kernel_rfl) cx (dTn (cx.an 5)).2 rfl (nle rfl) (by kernel_rfl) rfl rfl rfl (fun σ β' X' hs hb hx => by rw [hb 11, hb 37]; exact hx)
      intro σ β X W13 hD hst13 fr hfr
      obtain ⟨A37_13, hu_A37_13⟩ : ∃ z, sA (tg (tg (β 37) 0) 5) = z := ⟨_, rfl⟩
      obtain ⟨c37_13, hu_c37_13⟩ : ∃ z, sC (tg (tg (β 37) 0) 5) = z := ⟨_, rfl⟩
      obtain ⟨B11_13, hu_B11_13⟩ : ∃ z, pb (β 11) = z := ⟨_, rfl⟩
      simp only [exq 2 ((dTn (hD 1 lq)).2), exq 4 ((dTn (hD 6 lq))), hu_A37_13, hu_c37_13, hu_B11_13] at hst13
      simp only [ed 37 ((dTn (hD 1 lq)).1), ed 35 ((dTn (hD 2 lq))), ed 38 ((dTn (hD 3 lq))), ed 11 ((dTn (hD 5 lq)).1), hu_A37_13, hu_c37_13, hu_B11_13] at hfr
      clear hD hu_A37_13 hu_c37_13 hu_B11_13; subst hfr; clear σ β X
      refine then_normal (wp_seq (wp_region_P [0, 1, 3, 7, 15, 31] [.k 40 (vi ((j : Int))), .k 41 (.bool (decide (0 < (j : Int)))), .k 42 (.bool (decide (0 < (j : Int)))), .z 43 (decide (0 < (j : Int))) (vi ((eD ((pv n).its.getD j it0).2))), .z 44 (decide (0 < (j : Int))) (.bool ((eD ((pv n).its.getD j it0).2) == 0)), tA 45 (decide (0 < (j : Int))) ((eD ((pv n).its.getD j it0).2) == 0)] [(40, 0, 6, 46)] hst13 fun W14 hst14 => ?_))
      refine then_normal ?_
      rcases Bool.eq_false_or_eq_true ((decide (0 < (j : Int))) && ((eD ((pv n).its.getD j it0).2) == 0)) with hs15 | hs15
      · skip
        have hs15p := hs15
        simp only [zB] at hs15p
        obtain ⟨hs15p1, hs15p2⟩ := hs15p
        refine wp_cond_true (show Act.eval _ _ = .bool true from (congrArg Value.bool hs15)) (wp_region_Y [0, 0, 0, 6, 0, 30, 62, 127, 255] [[], [], [], [], [3], [], [], [4, 0]] [[], [], [], [], [], [], [4], [5]] [[], [], [], [], [], [], [], [0]] [.k 46 (.slice FA m FC), .k 47 (vi n), .k 48 (vi ((j : Int))), .k 49 (.agg #[vi n, vi ((j : Int))]), .c 50 (.agg #[vi ((vD ((pv n).its.getD j it0).2).1), vi ((vD ((pv n).its.getD j it0).2).2.1), vi ((vD ((pv n).its.getD j it0).2).2.2.1), vi ((vD ((pv n).its.getD j it0).2).2.2.2.1), .bool ((vD ((pv n).its.getD j it0).2).2.2.2.2.1), .slice A37_13 ((vD ((pv n).its.getD j it0).2).2.2.2.2.2.length) c37_13]), .k 51 (.agg #[vi n, vi ((j : Int)), vi ((vD ((pv n).its.getD j it0).2).1), vi ((vD ((pv n).its.getD j it0).2).2.1), vi ((vD ((pv n).its.getD j it0).2).2.2.1), vi ((vD ((pv n).its.getD j it0).2).2.2.2.1), .bool ((vD ((pv n).its.getD j it0).2).2.2.2.2.1), .slice A37_13 ((vD ((pv n).its.getD j it0).2).2.2.2.2.2.length) c37_13]), .a 52, .a 53, .a 4] (fun ix σ β X => match ix with | 0 => True | 1 => True | 2 => True | 3 => True | 4 => True | 5 => True | 6 => σ 52 = .slice ((some ⟨(pb' (β 52)), 0, none⟩)) 1 1 ∧ X 4 = eO 78 8 (.slice ((some ⟨(pb' (β 52)), 0, none⟩)) 1 1) 1 (cellsF n ((j, vD ((pv n).its.getD j it0).2), A37_13, c37_13)) | 7 => σ 53 = .slice (sA (β 53)) (m + 1) (sC (β 53)) ∧ X 5 = eO 78 8 (.slice (sA (β 53)) (m + 1) (sC (β 53))) (m + 1) ((ks ++ [((j, vD ((pv n).its.getD j it0).2), A37_13, c37_13)]).flatMap (cellsF n)) | 8 => σ 4 = .slice (sA (β 53)) (m + 1) (sC (β 53)) | _ => True) [1, 2, 3, 4, 5] [4, 6, 7, 8] [(4, 8, 1, 5), (41, 0, 8, 49)] hst14 ?_ ?_ ?_)
        · exact fun ix _ _ _ _ _ _ hs hb hx h => match ix, h with
          | 6, h => by dsimp only at h ⊢; rw [← hs 52 rfl, ← hb 52 rfl, ← hx 4 rfl]; exact h
          | 7, h => by dsimp only at h ⊢; rw [← hs 53 rfl, ← hb 53 rfl, ← hx 5 rfl]; exact h
          | 8, h => by dsimp only at h ⊢; rw [← hs 4 rfl, ← hb 53 rfl]; exact h
          | 0, _ | 1, _ | 2, _ | 3, _ | 4, _ | 5, _ | _ + 9, _ => trivial
        · refine ⟨?_, ?_, ?_, ?_, trivial⟩
          · exact xs4 rfl id fun cx => run_loadB (n := 6) rfl (by kernel_rfl) (by kernel_rfl) (cx.ou 11) (cx.bi 3 rfl) (nle rfl) rfl
          · refine sv_any rfl rfl fun ρ β W X cx => ?_
            have fF51 : ρ (.tmp 51) = .agg #[vi n, vi ((j : Int)), vi ((vD ((pv n).its.getD j it0).2).1), vi ((vD ((pv n).its.getD j it0).2).2.1), vi ((vD ((pv n).its.getD j it0).2).2.2.1), vi ((vD ((pv n).its.getD j it0).2).2.2.2.1), .bool ((vD ((pv n).its.getD j it0).2).2.2.2.2.1), .slice A37_13 ((vD ((pv n).its.getD j it0).2).2.2.2.2.2.length) c37_13] := (cx.an 5)
            exact dv_litN (e := 78) (sz := 8) (xs := [vi n, vi ((j : Int)), vi ((vD ((pv n).its.getD j it0).2).1), vi ((vD ((pv n).its.getD j it0).2).2.1), vi ((vD ((pv n).its.getD j it0).2).2.2.1), vi ((vD ((pv n).its.getD j it0).2).2.2.2.1), .bool ((vD ((pv n).its.getD j it0).2).2.2.2.2.1), .slice A37_13 ((vD ((pv n).its.getD j it0).2).2.2.2.2.2.length) c37_13]) rfl (by simp [go_sem, fF51]) rfl (by decide) rfl rfl (fun σ β' X' hs hb hv hx => ⟨hv, hx⟩)
          · refine sv_any rfl rfl fun ρ β W X cx => ?_
            obtain ⟨i0, hi0, hz0, hz1, hz2⟩ := info_parts Tryd.infoFnd
            refine dv_appendN (n := m) (m := 1) (nm := m + 1) (sz := 8) (xs := ks.flatMap (cellsF n)) (news := cellsF n ((j, vD ((pv n).its.getD j it0).2), A37_13, c37_13)) (xs' := (ks ++ [((j, vD ((pv n).its.getD j it0).2), A37_13, c37_13)]).flatMap (cellsF n)) rfl (ty := 75) rfl (by kernel_rfl) hi0 hz0 hz1 hz2 rfl (by decide) (cx.an 0) cx (cx.init 0 _ rfl) rfl (dTn (cx.an 6)).1 (by rfl) (At.of_ownN (cx.row (dTn (cx.an 6)).2 rfl)) (by simp [cellsF, Value.oneCell']) (by simp only [maxLen]; omega) (by omega) rfl rfl rfl (by omega) (found_snoc _ _ _) (fun σ β' X' hs hb hv hx => ?_)
            exact ⟨hv, hx⟩
          · exact sv rfl rfl rfl rfl rfl _ (fun _ _ _ h => h) (fun β β' h => by rw [h 53 (by decide)]) fun ρ β W X cx => run_assign' rfl (dTn (cx.an 7)).1
        intro σ β X W16 hD hst16 fr hfr
        obtain ⟨B52_16, hu_B52_16⟩ : ∃ z, pb' (β 52) = z := ⟨_, rfl⟩
        obtain ⟨A53_16, hu_A53_16⟩ : ∃ z, sA (β 53) = z := ⟨_, rfl⟩
        obtain ⟨c53_16, hu_c53_16⟩ : ∃ z, sC (β 53) = z := ⟨_, rfl⟩
        simp only [exq 4 ((dTn (hD 6 lq)).2), exq 5 ((dTn (hD 7 lq)).2), hu_B52_16, hu_A53_16, hu_c53_16] at hst16
        simp only [ed 52 ((dTn (hD 6 lq)).1), ed 53 ((dTn (hD 7 lq)).1), ed 4 ((dTn (hD 8 lq))), hu_B52_16, hu_A53_16, hu_c53_16] at hfr
        clear hD hu_B52_16 hu_A53_16 hu_c53_16; subst hfr; clear σ β X
        refine blk_normal (then_normal (wp_region_P [0, 1] [tI 54 ((j : Int) + 1) (by omega), .k 30 (vi ((j : Int) + 1))] [(30, 1, 1, 31), (23, 0, 1, 24)] hst16 fun W17 hst17 => ?_))
        refine then_normal ?_
        refine ⟨(pv n).its.length - ((j + 1)), by omega, ?_⟩
        have hp18 := hst17.pick [4, 0] (by decide) rfl
        exact ⟨(j + 1), (m + 1), A53_16, c53_16, (ks ++ [((j, vD ((pv n).its.getD j it0).2), A37_13, c37_13)]), by omega, by rw [List.length_append, hkm]; rfl, ks_snoc hkl (by omega) ((by have h_ := hs15; simp only [Bool.and_eq_true] at h_; rw [← eD_some]; exact h_.2)) _ _, by omega, rfl, (by kernel_rfl), hp18⟩
      have hs15p := hs15
      simp only [zB] at hs15p
      refine wp_cond_false (show Act.eval _ _ = .bool false from (congrArg Value.bool hs15)) (wp_skip (blk_normal (then_normal (wp_region_P [0, 1] [tI 54 ((j : Int) + 1) (by omega), .k 30 (vi ((j : Int) + 1))] [(30, 1, 1, 31), (23, 0, 1, 24)] hst14 fun W19 hst19 => ?_))))
      refine then_normal ?_
      refine ⟨(pv n).its.length - ((j + 1)), by omega, ?_⟩
      have hp20 := hst19.pick [0, 1] (by decide) rfl
      exact ⟨(j + 1), m, FA, FC, ks, by omega, hkm, ks_keep hkl ((by have h_ := hs15; rw [eD_some] at h_; rintro ⟨a_, b_⟩; rw [b_] at h_; simp at h_; omega)), by omega, rfl, (by kernel_rfl), hp20⟩
    have hs11p : ¬ ((j : Int) < ((pv n).its.length : Int)) := by simpa using hs11
    refine wp_cond_false (show Act.eval _ _ = .bool false from (congrArg Value.bool hs11)) (wp_exit (then_exit (then_exit (blk_eq (then_normal (wp_seq (wp_region_P [0, 1] [.k 55 (.slice FA m FC), .k 4 (.slice FA m FC)] [(4, 1, 1, 5), (50, 0, 1, 51)] hst10 fun W21 hst21 => ?_)))))))
    refine then_normal (wp_ret ?_)
    refine bodyPost_ret (v := .slice FA m FC) (results_tmp Tryd.results24 rfl) rfl ?_
    have hal : allF' (pv n) = fndF (pv n).its j := by rw [allF', if_pos (by simp_all), show j = (pv n).its.length by omega]
    have hlm : m = (allF' (pv n)).length := by rw [hal, ← ks_len hkl, hkm]
    have ho_ := hst21.own' 0 rfl
    unfold AllPost
    rw [← hlm, hal]
    exact ⟨_, _, ks, hkl, rfl, ho_, hst21.ext⟩
  refine wp_cond_true (show Act.eval _ _ = .bool true from (congrArg Value.bool (by rw [hs4]; rfl))) (wp_seq (wp_region_P [0] [.k 4 (.slice none 0 0)] [(4, 0, 1, 5)] hst3 fun W22 hst22 => ?_))
  refine then_normal (wp_ret (then_ret ?_))
  refine bodyPost_ret (v := .slice none 0 0) (results_tmp Tryd.results24 rfl) rfl ?_
  have hal : allF' (pv n) = [] := by rw [allF', if_neg (by simp [*])]
  unfold AllPost
  rw [hal]
  exact ⟨none, 0, [], rfl, rfl, World.ownsRow_nil _ _ _ _, hst22.ext⟩
theorem tbF_hd (v : PV) : (0 ≤ tbF v) ↔ hdF v = true := by
  rw [tbF]
  cases hdF v with
  | true => simp only [if_true, iff_true]; omega
  | false => simp
end
end Go.Proofs.YtjnplglnnamfdaaDoor
namespace Go.Proofs.YtjnplglnnamfdaaDoor
section
set_option linter.unusedVariables false
set_option linter.unusedSimpArgs false
open Go.RowKit
/-- the first empty slot among the n slots from i on -/
def frL (ss : List ByteArray) : Nat → Nat → Int
  | 0, _ => -1
  | n + 1, i => if ss.length ≤ i then i else if (ss.getD i ByteArray.empty).toList.isEmpty then i else frL ss n (i + 1)
theorem frL_succ (ss : List ByteArray) (n i : Nat) : frL ss (n + 1) i = if ss.length ≤ i then (i : Int) else if (ss.getD i ByteArray.empty).toList.isEmpty then (i : Int) else frL ss n (i + 1) := rfl
def freeF (k l : Int) (ss : List ByteArray) (from_ : Int) : Int := if rightB k l ss then frL ss (24 - (max from_ 0).toNat) (max from_ 0).toNat else -1
set_option maxRecDepth 100000 in
set_option maxHeartbeats 1000000 in
theorem free_any (k l : Int) (A : Option Addr) (c : Nat) (ss : List ByteArray) (fr : Int) (w : World) (h : At w A (ss.map Value.string)) (hs : Small ss) :
    Calls Tryd.prog 66 #[.agg #[.int .i64 k, .int .i64 l, .slice A ss.length c], .int .i64 fr] w (Ret1 (.int .i64 (freeF k l ss fr)) w) := by
  have H := Lib.hid h; clear h
  have hl := hs.1
  have HS := Lib.hid hs; clear hs
  have X0 := Lib.hid ((Ext.refl w).alloc (.cells #[.int .i64 k, .int .i64 l, .slice A ss.length c] 86))
  rcases hr : rightB k l ss with _ | _
  · have HR := Lib.hid hr; clear hr
    go_enter Tryd.func66, Tryd.ntmps66
    go_wp2_with (go_at_call 97; refine (right_any _ _ _ _ _ _ (H.out.ext X0.out) HS.out).mono ?_; rw [HR.out]; rintro e w1 ⟨rfl, hx⟩; have X1 := Lib.hid (X0.out.trans hx); clear hx)
    go_ret
    exact Ret1.int (by rw [freeF, HR.out]; rfl) X1.out
  · have HR := Lib.hid hr; clear hr
    obtain ⟨K, hK⟩ : ∃ K, K = (max fr 0).toNat := ⟨_, rfl⟩
    have HF := Lib.hid (show freeF k l ss fr = frL ss (24 - K) K by rw [freeF, HR.out, if_pos rfl, hK])
    have HK := Lib.hid hK
    clear hK
    rcases Int.lt_or_le fr 0 with hfr | hfr
    all_goals
      go_enter Tryd.func66, Tryd.ntmps66
      go_wp2_with (go_at_call 97; refine (right_any _ _ _ _ _ _ (H.out.ext X0.out) HS.out).mono ?_; rw [HR.out]; rintro e w1 ⟨rfl, hx⟩; have X1 := Lib.hid (X0.out.trans hx); have hc2 : w1.cell? ⟨w.heap.size, 2, none⟩ = some (.slice A ss.length c) := hx.cell_new 2; clear hx)
      go_loop [5] (fun i => ∃ k' : Nat, i = .int .i64 k' ∧ freeF k l ss fr = frL ss (24 - k') k') (fun i => 24 - (intOf i).toNat)
      case atStart => exact ⟨K, by rw [HK.out]; go_num, HF.out⟩
      case round =>
        obtain ⟨k', rfl, hk⟩ := hrel
        have Hk := Lib.hid hk
        clear hk
        rcases Nat.lt_or_ge k' 24 with h24 | h24
        · obtain ⟨n, hn⟩ : ∃ n, 24 - k' = n + 1 := ⟨23 - k', by omega⟩
          have Hn := Lib.hid (show freeF k l ss fr = frL ss (n + 1) k' by rw [Hk.out, hn])
          have HN := Lib.hid (show 24 - (k' + 1) = n by omega)
          clear hn Hk
          rcases Nat.lt_or_ge k' ss.length with hlt | hge
          · obtain ⟨ad, rfl, hblk, hc⟩ := (H.out.ext X1.out).get (k := k') (by simpa using hlt)
            rw [List.getElem_map] at hc
            have Hg := Lib.hid (show ss[k'] = ss.getD k' ByteArray.empty by simp [List.getD, hlt])
            obtain ⟨s, hs⟩ : ∃ s, s = ss[k'] := ⟨_, rfl⟩
            rw [← hs] at hc Hg
            clear hs
            rcases he : s.toList.isEmpty with _ | _
            · go_wp2
              go_round
              case rel => exact ⟨k' + 1, by go_num, by rw [Hn.out, frL_succ, if_neg (by omega), ← Hg.out, he, HN.out]; rfl⟩
              case measure => simp [intOf]; omega
            · go_wp2
              go_ret
              exact Ret1.int (by rw [Hn.out, frL_succ, if_neg (by omega), ← Hg.out, he]; rfl) X1.out
          · go_wp2
            go_ret
            exact Ret1.int (by rw [Hn.out, frL_succ, if_pos (by omega)]) X1.out
        · go_wp2
          go_ret
          exact Ret1.int (by rw [Hk.out, show 24 - k' = 0 by omega]; rfl) X1.out
end
end Go.Proofs.YtjnplglnnamfdaaDoor
namespace Go.Proofs.YtjnplglnnamfdaaDoor
section
set_option linter.unusedVariables false
set_option linter.unusedSimpArgs false
open Go.RowKit
theorem Ext.two {w w1 : World} {o : Obj} {cs : Array Value} {t : TypeId} (h : Ext ((w.alloc o).alloc (.cells cs t)) w1) :
    (∀ i, w1.cell? ⟨w.heap.size + 1, i, none⟩ = cs[i]?) ∧ (∀ i, w1.frozen? ⟨w.heap.size + 1, i, none⟩ = false) ∧ w.heap.size + 1 < w1.heap.size := by
  have e : (w.alloc o).heap.size = w.heap.size + 1 := World.size_alloc w o
  have h1 := fun i => h.cell_new i
  have h2 := fun i => h.frozen_new i
  have h3 := h.lt_new
  rw [e] at h1 h2 h3
  exact ⟨h1, h2, h3⟩
/-- the first of two new blocks -/
theorem Ext.two0 {w w1 : World} {o : Obj} {cs : Array Value} {t : TypeId} (h : Ext ((w.alloc (.cells cs t)).alloc o) w1) :
    (∀ i, w1.cell? ⟨w.heap.size, i, none⟩ = cs[i]?) ∧ (∀ i, w1.frozen? ⟨w.heap.size, i, none⟩ = false) :=
  have h0 : Ext (w.alloc (.cells cs t)) w1 := ((Ext.refl _).alloc o).trans h
  ⟨fun i => h0.cell_new i, fun i => h0.frozen_new i⟩
def padTo (l : List ByteArray) (n : Nat) : List ByteArray := l ++ List.replicate (n - l.length) ByteArray.empty
/-- the items with one put in -/
def withL (ss : List ByteArray) (slot : Nat) (s : ByteArray) : List ByteArray := (padTo (plainL ss) (slot + 1)).set slot s
def putErr (k l : Int) (ss : List ByteArray) (slot : Int) (s : ByteArray) : Int :=
  if rightB k l ss = false then 22 else if slot < 0 ∨ 24 ≤ slot ∨ 400 < s.size then 21 else if 512 < sizeL (withL ss slot.toNat s) then 20 else 0
/-- a page and an error, the page's items in new memory -/
def PgPost (k l : Int) (ss : List ByteArray) (err : Int) (w : World) (e : Ending) (w' : World) : Prop :=
  ∃ A c, e = .returned (.tuple #[.agg #[.int .i64 k, .int .i64 l, .slice A ss.length c], .int .i64 err]) ∧
    w'.ownsRow w.heap.size 9 1 (.slice A ss.length c) ss.length (ss.map Value.string) ∧ Ext w w'
def PutPost (k l : Int) (ss : List ByteArray) (slot : Int) (s : ByteArray) (w : World) : Ending → World → Prop :=
  if putErr k l ss slot s = 0 then PgPost k l (plainL (withL ss slot.toNat s)) 0 w else PgPost 0 0 [] (putErr k l ss slot s) w
theorem PgPost.zero {err : Int} {w w' : World} (h : Ext w w') : PgPost 0 0 [] err w (.returned (.tuple #[.agg #[.int .i64 0, .int .i64 0, .slice none 0 0], .int .i64 err])) w' :=
  ⟨none, 0, rfl, World.ownsRow_nil _ _ _ _, h⟩
set_option maxRecDepth 100000 in
set_option maxHeartbeats 1000000 in
theorem put_not (k l : Int) (A : Option Addr) (c : Nat) (ss : List ByteArray) (slot : Int) (s : ByteArray) (w : World) (h : At w A (ss.map Value.string)) (hs : Small ss) (hr : rightB k l ss = false) :
    Calls Tryd.prog 67 #[.agg #[.int .i64 k, .int .i64 l, .slice A ss.length c], .int .i64 slot, .string s] w (PgPost 0 0 [] 22 w) := by
  have H := Lib.hid h; clear h
  have HR := Lib.hid hr; clear hr
  have HS := Lib.hid hs; clear hs
  have X0 := Lib.hid (((Ext.refl w).alloc (.cells #[.int .i64 k, .int .i64 l, .slice A ss.length c] 86)).alloc (.cells #[.int .i64 0, .int .i64 0, .slice none 0 0] 86))
  go_enter Tryd.func67, Tryd.ntmps67
  go_wp2_with (go_at_call 97; refine (right_any _ _ _ _ _ _ (H.out.ext X0.out) HS.out).mono ?_; rw [HR.out]; rintro e w1 ⟨rfl, hx⟩; have X1 := Lib.hid (X0.out.trans hx); have q0 : w1.cell? ⟨w.heap.size + 1, 0, none⟩ = some (.int .i64 0) := hx.two.1 0; have q1 : w1.cell? ⟨w.heap.size + 1, 1, none⟩ = some (.int .i64 0) := hx.two.1 1; have q2 : w1.cell? ⟨w.heap.size + 1, 2, none⟩ = some (.slice none 0 0) := hx.two.1 2; have f0 := hx.two.2.1 0; have f1 := hx.two.2.1 1; have f2 := hx.two.2.1 2; have hz1 := hx.two.2.2; clear hx)
  refine bodyPost_ret (v := .tuple #[.agg #[.int .i64 0, .int .i64 0, .slice none 0 0], .int .i64 22]) (by simp [results, Tryd.results67, go_sem, q0, q1, q2]) rfl (PgPost.zero ?_)
  repeat (first | exact X1.out | refine Ext.set ?_ (by simp) _)
set_option maxRecDepth 100000 in
set_option maxHeartbeats 1000000 in
theorem put_item (k l : Int) (A : Option Addr) (c : Nat) (ss : List ByteArray) (slot : Int) (s : ByteArray) (w : World) (h : At w A (ss.map Value.string)) (hs : Small ss) (hr : rightB k l ss = true)
    (hb : slot < 0 ∨ 24 ≤ slot ∨ 400 < s.size) (hss : s.size ≤ 9223372036854775807) :
    Calls Tryd.prog 67 #[.agg #[.int .i64 k, .int .i64 l, .slice A ss.length c], .int .i64 slot, .string s] w (PgPost 0 0 [] 21 w) := by
  have H := Lib.hid h; clear h
  have HR := Lib.hid hr; clear hr
  have HS := Lib.hid hs; clear hs
  have X0 := Lib.hid (((Ext.refl w).alloc (.cells #[.int .i64 k, .int .i64 l, .slice A ss.length c] 86)).alloc (.cells #[.int .i64 0, .int .i64 0, .slice none 0 0] 86))
  have h3 : slot < 0 ∨ (0 ≤ slot ∧ 24 ≤ slot) ∨ (0 ≤ slot ∧ slot < 24 ∧ 400 < (s.size : Int)) := by omega
  clear hb
  rcases h3 with h1 | ⟨h0, h1⟩ | ⟨h0, h1, h2⟩
  all_goals
    go_enter Tryd.func67, Tryd.ntmps67
    go_wp2_with (go_at_call 97; refine (right_any _ _ _ _ _ _ (H.out.ext X0.out) HS.out).mono ?_; rw [HR.out]; rintro e w1 ⟨rfl, hx⟩; have X1 := Lib.hid (X0.out.trans hx); have q0 : w1.cell? ⟨w.heap.size + 1, 0, none⟩ = some (.int .i64 0) := hx.two.1 0; have q1 : w1.cell? ⟨w.heap.size + 1, 1, none⟩ = some (.int .i64 0) := hx.two.1 1; have q2 : w1.cell? ⟨w.heap.size + 1, 2, none⟩ = some (.slice none 0 0) := hx.two.1 2; have f0 := hx.two.2.1 0; have f1 := hx.two.2.1 1; have f2 := hx.two.2.1 2; have hz1 := hx.two.2.2; clear hx)
    refine bodyPost_ret (v := .tuple #[.agg #[.int .i64 0, .int .i64 0, .slice none 0 0], .int .i64 21]) (by simp [results, Tryd.results67, go_sem, q0, q1, q2]) rfl (PgPost.zero ?_)
    repeat (first | exact X1.out | refine Ext.set ?_ (by simp) _)
theorem small_with {ss : List ByteArray} (h : ss.length ≤ 24 ∧ ∀ s ∈ ss, s.size ≤ 400) (K : Nat) (hK : K < 24) (s : ByteArray) (hs : s.size ≤ 400) : Small (withL ss K s) := by
  have hp := plainL_len ss
  have ht := trimN_le ss ss.length
  refine ⟨by simp only [withL, padTo, List.length_set, List.length_append, List.length_replicate]; omega, fun x hx => ?_⟩
  have hx' : x = s ∨ x ∈ padTo (plainL ss) (K + 1) := by
    rcases List.mem_or_eq_of_mem_set hx with h | h
    · exact .inr h
    · exact .inl h
  rcases hx' with rfl | hx'
  · omega
  · rcases List.mem_append.1 hx' with h1 | h1
    · have := h.2 x (List.mem_of_mem_take h1); omega
    · have := (List.mem_replicate.1 h1).2
      subst this
      simp
theorem right_parts {k l : Int} {ss : List ByteArray} (h : rightB k l ss = true) : (0 ≤ k ∧ k ≤ 2) ∧ (0 ≤ l ∧ l ≤ 2147483647) ∧ (ss.length ≤ 24 ∧ ∀ s ∈ ss, s.size ≤ 400) ∧ sizeL ss ≤ 512 := by
  simp only [rightB, Bool.and_eq_true, decide_eq_true_eq, Bool.not_eq_true', longB, List.any_eq_false, Nat.not_lt] at h
  exact ⟨⟨h.1, h.2.1⟩, ⟨h.2.2.1, h.2.2.2.1⟩, ⟨h.2.2.2.2.1, h.2.2.2.2.2.1⟩, h.2.2.2.2.2.2⟩
def lenOf : Value → Nat | .slice _ n _ => n | _ => 0
theorem own_pos {w : World} {base : Nat} {e : TypeId} {A : Option Addr} {n c : Nat} {xs : List Value} (h : w.ownsRow base e 1 (.slice A n c) n xs) (hn : 0 < n) :
    ∃ g, A = some ⟨g, 0, none⟩ ∧ base ≤ g ∧ g < w.heap.size := by
  rcases h.2 with ⟨hv, h0⟩ | ⟨g, cap, cur, hv, hb, hg, _⟩
  · omega
  · injection hv with h1
    exact ⟨g, h1, hb, (Array.getElem?_eq_some_iff.1 hg).1⟩
theorem size_n (A : Option Addr) (n c : Nat) (ss : List ByteArray) (w : World) (hn : n = ss.length) (h : At w A (ss.map Value.string)) (hs : Small ss) :
    Calls Tryd.prog 99 #[.slice A n c] w fun e w' => e = .returned (.int .i64 (sizeL ss)) ∧ Ext w w' := by
  subst hn; exact size_any A c ss w h hs
theorem plain_n (A : Option Addr) (n c : Nat) (ss : List ByteArray) (w : World) (hn : n = ss.length) (h : At w A (ss.map Value.string)) (hl : ss.length ≤ 100000) :
    Calls Tryd.prog 98 #[.slice A n c] w fun e w' => e = .returned (.slice (some ⟨w.heap.size, 0, none⟩) (plainL ss).length (plainL ss).length) ∧
      w'.ownsRow w.heap.size 9 1 (.slice (some ⟨w.heap.size, 0, none⟩) (plainL ss).length (plainL ss).length) (plainL ss).length ((plainL ss).map Value.string) ∧ Ext w w' := by
  subst hn; exact plain_any A c ss w h hl
theorem with_stored {wr : World} {base g m c K : Nat} {ss : List ByteArray} {s : ByteArray}
    (h : wr.ownsRow base 9 1 (.slice (some ⟨g, 0, none⟩) m c) m ((plainL ss ++ List.replicate (m - (plainL ss).length) ByteArray.empty).map Value.string))
    (h1 : (plainL ss).length ≤ m) (h2 : m ≤ (plainL ss).length ∨ m ≤ K + 1) (h3 : K < m) :
    (wr.setCell ⟨g, K, none⟩ (.string s)).ownsRow base 9 1 (.slice (some ⟨g, 0, none⟩) m c) m ((withL ss K s).map Value.string) := by
  have e : m - (plainL ss).length = K + 1 - (plainL ss).length := by omega
  have := (h.stored K (.string s)).1
  rw [e, ← List.map_set] at this
  exact this
theorem put_held {w W : World} {k l : Int} {A : Option Addr} {n c : Nat}
    (h : Ext ((w.alloc (.cells #[.int .i64 k, .int .i64 l, .slice A n c] 86)).alloc (.cells #[.int .i64 0, .int .i64 0, .slice none 0 0] 86)) W) :
    W.cell? ⟨w.heap.size, 0, none⟩ = some (.int .i64 k) ∧ W.cell? ⟨w.heap.size, 1, none⟩ = some (.int .i64 l) ∧ W.cell? ⟨w.heap.size + 1, 0, none⟩ = some (.int .i64 0) ∧ W.cell? ⟨w.heap.size + 1, 1, none⟩ = some (.int .i64 0) ∧
      W.cell? ⟨w.heap.size + 1, 2, none⟩ = some (.slice none 0 0) ∧ W.frozen? ⟨w.heap.size + 1, 0, none⟩ = false ∧ W.frozen? ⟨w.heap.size + 1, 1, none⟩ = false ∧ W.frozen? ⟨w.heap.size + 1, 2, none⟩ = false :=
  ⟨h.two0.1 0, h.two0.1 1, h.two.1 0, h.two.1 1, h.two.1 2, h.two.2.1 0, h.two.2.1 1, h.two.2.1 2⟩
theorem put_20 {k l : Int} {ss : List ByteArray} {K : Nat} {s : ByteArray} {w : World} (hr : rightB k l ss = true) (hK : K < 24) (hs : s.size ≤ 400) (hz : 512 < sizeL (withL ss K s)) :
    PutPost k l ss K s w = PgPost 0 0 [] 20 w := by
  have e : putErr k l ss K s = 20 := by
    rw [putErr, hr, if_neg (by simp), if_neg (by omega), Int.toNat_natCast, if_pos hz]
  rw [PutPost, e, if_neg (by decide)]
theorem put_0 {k l : Int} {ss : List ByteArray} {K : Nat} {s : ByteArray} {w : World} (hr : rightB k l ss = true) (hK : K < 24) (hs : s.size ≤ 400) (hz : sizeL (withL ss K s) ≤ 512) :
    PutPost k l ss K s w = PgPost k l (plainL (withL ss K s)) 0 w := by
  have e : putErr k l ss K s = 0 := by
    rw [putErr, hr, if_neg (by simp), if_neg (by omega), Int.toNat_natCast, if_neg (by omega)]
  rw [PutPost, e, if_pos rfl, Int.toNat_natCast]
theorem pad_step {w2 : World} {base n : Nat} {v' : Value} {pl : List ByteArray} {u : Value} (hu : u = .string ByteArray.empty) (h : w2.ownsRow base 9 1 v' (n + 1) ((pl ++ List.replicate (n - pl.length) ByteArray.empty).map Value.string ++ [u])) (hl : pl.length ≤ n) :
    w2.ownsRow base 9 1 v' (n + 1) ((pl ++ List.replicate (n + 1 - pl.length) ByteArray.empty).map Value.string) := by
  subst hu
  have e : n + 1 - pl.length = (n - pl.length) + 1 := by omega
  rw [e, List.replicate_succ', ← List.append_assoc, List.map_append (l₂ := [ByteArray.empty])]
  exact h
/-- the relation of the loop that fills up with empty items -/
def PadRel (pl : List ByteArray) (K : Nat) (w1 : World) (v : Value) (wr : World) : Prop :=
  ∃ m A c, v = .slice A m c ∧ pl.length ≤ m ∧ (m ≤ pl.length ∨ m ≤ K + 1) ∧ wr.ownsRow w1.heap.size 9 1 (.slice A m c) m ((pl ++ List.replicate (m - pl.length) ByteArray.empty).map Value.string) ∧ Ext w1 wr
set_option maxRecDepth 100000 in
set_option maxHeartbeats 2000000 in
theorem put_main (k l : Int) (A : Option Addr) (c : Nat) (ss : List ByteArray) (K : Nat) (s : ByteArray) (w : World) (h : At w A (ss.map Value.string)) (hs : Small ss) (hr : rightB k l ss = true)
    (hK : K < 24) (hss : s.size ≤ 400) :
    Calls Tryd.prog 67 #[.agg #[.int .i64 k, .int .i64 l, .slice A ss.length c], .int .i64 K, .string s] w (PutPost k l ss K s w) := by
  have H := Lib.hid h; clear h
  have hpl := plainL_len ss
  have htr := trimN_le ss ss.length
  have hl24 := (right_parts hr).2.2.1.1
  have hp24 : (plainL ss).length ≤ 24 := by omega
  have hv24 := (right_parts hr).2.2.1
  clear hpl htr hl24
  have HR := Lib.hid hr; clear hr
  have HS := Lib.hid hs; clear hs
  obtain ⟨i0, hi0, hz0, hz1, hz2⟩ := info_parts Tryd.infoStr
  have X0 := Lib.hid (((Ext.refl w).alloc (.cells #[.int .i64 k, .int .i64 l, .slice A ss.length c] 86)).alloc (.cells #[.int .i64 0, .int .i64 0, .slice none 0 0] 86))
  go_enter Tryd.func67, Tryd.ntmps67
  go_wp2_with (first
    | (go_at_call 97; refine (right_any _ _ _ _ _ _ (H.out.ext X0.out) HS.out).mono ?_; rw [HR.out]; rintro e w1 ⟨rfl, hx⟩; have X1 := Lib.hid (X0.out.trans hx); have HX := Lib.hid hx; have p2 : w1.cell? ⟨w.heap.size, 2, none⟩ = some (.slice A ss.length c) := hx.two0.1 2; have hzz := hx.two.2.2; clear hx)
    | (go_at_call 98; refine (plain_any _ _ _ _ (H.out.ext X1.out) HS.out.1).mono ?_; rintro e w2 ⟨rfl, hown, hx⟩; have Hown := Lib.hid hown; have X2 := Lib.hid hx; clear hown hx))
  go_loopw [8] (fun v wr => PadRel (plainL ss) K w1 v wr) (fun v _ => K + 1 - lenOf v)
  case atStart => exact ⟨_, _, _, rfl, Nat.le_refl _, .inl (Nat.le_refl _), by simpa using Hown.out, X2.out⟩
  case round =>
    obtain ⟨m, A', c', rfl, hm1, hm2, hown, hx⟩ := hrel
    have Hw := Lib.hid hown
    have XR := Lib.hid hx
    clear hown hx
    rcases Nat.lt_or_ge K m with hlt | hge
    · obtain ⟨g, rfl, hg1, hg2⟩ := own_pos Hw.out (by omega)
      have hme : m = (withL ss K s).length := by simp [withL, padTo]; omega
      have ho := (At.of_own Hw.out).get0 (k := K) (by simp; omega)
      have hfz := Hw.out.frozenAt (xs := (plainL ss ++ List.replicate (m - (plainL ss).length) ByteArray.empty).map Value.string) K
      have hst := with_stored (s := s) Hw.out hm1 hm2 hlt
      generalize ((plainL ss ++ List.replicate (m - (plainL ss).length) ByteArray.empty).map Value.string)[K]'(by simp; omega) = ov at ho
      have Hst := Lib.hid hst
      have Hme := Lib.hid hme
      clear hst hme
      obtain ⟨z, hz⟩ : ∃ z, z = sizeL (withL ss K s) := ⟨_, rfl⟩
      have Hz := Lib.hid hz
      clear hz
      rcases Nat.lt_or_ge 512 z with h5 | h5
      · have h5' : 512 < (z : Int) := by omega
        go_wp2_with (go_at_call 99; refine (size_n _ _ _ _ _ Hme.out (At.of_own Hst.out) (small_with hv24 K hK s hss)).mono ?_; rw [← Hz.out]; rintro e w3 ⟨rfl, hx⟩; have hx3 := HX.out.trans ((XR.out.set (p := ⟨g, K, none⟩) hg1 (.string s)).trans hx); have X3 := Lib.hid (X0.out.trans hx3); obtain ⟨_, _, q0, q1, q2, f0, f1, f2⟩ := put_held hx3; have hz3 := hx3.two.2.2; clear hx hx3)
        refine bodyPost_ret (v := .tuple #[.agg #[.int .i64 0, .int .i64 0, .slice none 0 0], .int .i64 20]) (by simp [results, Tryd.results67, go_sem, q0, q1, q2]) rfl ?_
        rw [put_20 HR.out hK hss (by rw [← Hz.out]; exact h5)]
        refine PgPost.zero ?_
        repeat (first | exact X3.out | refine Ext.set ?_ (by simp) _)
      · have h5' : (z : Int) ≤ 512 := by omega
        go_wp2_with (go_at_call 99; refine (size_n _ _ _ _ _ Hme.out (At.of_own Hst.out) (small_with hv24 K hK s hss)).mono ?_; rw [← Hz.out]; rintro e w3 ⟨rfl, hx⟩; have hx3 := HX.out.trans ((XR.out.set (p := ⟨g, K, none⟩) hg1 (.string s)).trans hx); have X3 := Lib.hid hx3; have X3' := Lib.hid hx; obtain ⟨p0, p1, q0, q1, q2, f0, f1, f2⟩ := put_held hx3; have hz3 := hx3.two.2.2; clear hx hx3)
        have hatl := (At.of_own Hst.out).ext X3'.out
        have Hat := Lib.hid hatl
        clear hatl
        go_region_held3 (fun W => W.cell? ⟨w.heap.size, 0, none⟩ = some (.int .i64 k) ∧ W.cell? ⟨w.heap.size, 1, none⟩ = some (.int .i64 l))
          (first | exact ⟨p0, p1⟩ | exact ⟨p0', p1'⟩ | go_keep)
          (first | (go_at_call 98; refine (plain_n _ _ _ _ _ Hme.out (Hat.out.ext (Ext.refl _).drew) (small_with hv24 K hK s hss).1).mono ?_; rintro e w4 ⟨rfl, hown4, hx4⟩; have X4 := Lib.hid (X3.out.drew.trans hx4); obtain ⟨p0', p1', q0', q1', q2', f0', f1', f2'⟩ := put_held X4.out; have Hown4 := Lib.hid hown4; clear hx4 hown4))
        go_wp2
        refine bodyPost_ret (v := .tuple #[.agg #[.int .i64 k, .int .i64 l, .slice (some ⟨w3.heap.size, 0, none⟩) (plainL (withL ss K s)).length (plainL (withL ss K s)).length], .int .i64 0]) (by simp [results, Tryd.results67, go_sem, q0', q1', q2']) rfl ?_
        rw [put_0 HR.out hK hss (by rw [← Hz.out]; exact h5)]
        refine ⟨_, _, rfl, own_mono (ownsRow_setCell_below (ownsRow_setCell_below (ownsRow_setCell_below Hown4.out hz3 _) hz3 _) hz3 _) (by show _ ≤ w3.heap.size; omega), ?_⟩
        have X5 := X0.out.trans X4.out
        repeat (first | exact X5 | refine Ext.set ?_ (by simp) _)
    · go_wp2_with (at_builtin; go_must (refine wpList_append_own _ rfl (.tmp 32) (.tmp 33) 84 rfl w1.heap.size 9 i0 _ 1 16 Tryd.underlying84 hi0 hz0 hz1 hz2 rfl (by decide) _ _ _ rfl (Hw.out.alloc _) ⟨wr.heap.size, 0, none⟩ 1 1 [.string ⟨#[]⟩] rfl rfl (cell_one_new _ _ _) (by intro u hu; simp at hu; subst hu; rfl) (by simp only [maxLen]; omega) (by omega) (by have := XR.out.size; simp; omega) ?_); intro v' w4 hown' hg' _; have HO := Lib.hid hown'; have HG := Lib.hid hg'; clear hown' hg')
      go_roundw
      case rel =>
        obtain ⟨A2, c2, rfl, _⟩ := own_form HO.out
        exact ⟨m + 1, A2, c2, rfl, by omega, .inr (by omega), pad_step rfl HO.out hm1, ((XR.out.alloc _).grown HG.out (own_block Hw.out))⟩
      case measure =>
        obtain ⟨A2, c2, rfl, _⟩ := own_form HO.out
        simp [lenOf]; omega
theorem put_any (k l : Int) (A : Option Addr) (n c : Nat) (ss : List ByteArray) (slot : Int) (s : ByteArray) (w : World) (hn : n = ss.length) (h : At w A (ss.map Value.string)) (hs : Small ss) (hss : s.size ≤ 9223372036854775807) :
    Calls Tryd.prog 67 #[.agg #[.int .i64 k, .int .i64 l, .slice A n c], .int .i64 slot, .string s] w (PutPost k l ss slot s w) := by
  subst hn
  rcases hr : rightB k l ss with _ | _
  · have e : putErr k l ss slot s = 22 := by rw [putErr, if_pos hr]
    rw [PutPost, e, if_neg (by decide)]
    exact put_not k l A c ss slot s w h hs hr
  · by_cases hb : slot < 0 ∨ 24 ≤ slot ∨ 400 < s.size
    · have e : putErr k l ss slot s = 21 := by rw [putErr, hr, if_neg (by simp), if_pos hb]
      rw [PutPost, e, if_neg (by decide)]
      exact put_item k l A c ss slot s w h hs hr hb hss
    · obtain ⟨K, rfl⟩ := Int.eq_ofNat_of_zero_le (show 0 ≤ slot by omega)
      exact put_main k l A c ss K s w h hs hr (by omega) (by omega)
end
end Go.Proofs.YtjnplglnnamfdaaDoor
namespace Go.Proofs.YtjnplglnnamfdaaDoor
section
open Go.RowKit
set_option linter.unusedVariables false
set_option linter.unusedSimpArgs false
theorem PV.small {v : PV} (h : v.wf) : Small (v.its.map Prod.fst) := by
  refine ⟨by rw [List.length_map]; have := h.1; omega, fun s hs => ?_⟩
  obtain ⟨i, hi, rfl⟩ := List.mem_map.1 hs
  have := (h.2 i hi).le
  omega
theorem strs_map (its : List Itm) : strs its = (its.map Prod.fst).map Value.string := by simp [strs]
theorem St.repl {w0 W : World} {bor : List Nat} {L1 L2 : List Ent} {E E' : Ent} (h : St w0 bor (L1 ++ E :: L2) W) (hfp : E'.fp = E.fp) (hh : E.holds W → E'.holds W) (hl : E'.loc) : St w0 bor (L1 ++ E' :: L2) W := by
  refine ⟨h.upd, fun x hx => ?_, ?_⟩
  · rcases List.mem_append.1 hx with hx | hx
    · exact h.ok x (List.mem_append_left _ hx)
    · rcases List.mem_cons.1 hx with e | hx
      · rw [e]
        have h1 := h.ok E (by simp)
        exact ⟨hh h1.holds, hl, fun k hk => h1.own k (hfp ▸ hk)⟩
      · exact h.ok x (by simp [hx])
  · have ha := h.apart
    rw [List.pairwise_append, List.pairwise_cons] at ha ⊢
    refine ⟨ha.1, ⟨fun b hb k hk hk' => ha.2.1.1 b hb k (hfp ▸ hk) hk', ha.2.1.2⟩, fun a ha' b hb => ?_⟩
    rcases List.mem_cons.1 hb with e | hb
    · rw [e]
      exact fun k hk hk' => ha.2.2 a ha' E (by simp) k hk (hfp ▸ hk')
    · exact ha.2.2 a ha' b (by simp [hb])
end
end Go.Proofs.YtjnplglnnamfdaaDoor
namespace Go.Proofs.YtjnplglnnamfdaaDoor
section
set_option linter.unusedVariables false
set_option linter.unusedSimpArgs false
open Go.RowKit
/-- a page, its items in new memory -/
def PgOne (k l : Int) (ss : List ByteArray) (w : World) (e : Ending) (w' : World) : Prop :=
  ∃ A c, e = .returned (.agg #[.int .i64 k, .int .i64 l, .slice A ss.length c]) ∧ w'.ownsRow w.heap.size 9 1 (.slice A ss.length c) ss.length (ss.map Value.string) ∧ Ext w w'
theorem after_lit {w w5 : World} {k l : Int} {A : Option Addr} {n c : Nat}
    (hg : (((w.alloc (.cells #[.int .i64 k, .int .i64 l, .slice A n c] 86)).alloc (.cells #[.int .i64 0, .int .i64 0, .slice none 0 0] 86)).alloc (.cells #[] 9)).drew.grownBy w5 (Value.ownBlock (.slice (some ⟨w.heap.size + 2, 0, none⟩) 0 0))) :
    Ext ((w.alloc (.cells #[.int .i64 k, .int .i64 l, .slice A n c] 86)).alloc (.cells #[.int .i64 0, .int .i64 0, .slice none 0 0] 86)) w5 :=
  (((Ext.refl _).alloc _).drew).grown hg (by intro k hk; simp [Value.ownBlock] at hk; subst hk; simp)
theorem At.take_map {w : World} {A : Option Addr} {α : Type} {f : α → Value} {xs : List α} (h : At w A (xs.map f)) (n : Nat) : At w A ((xs.take n).map f) := by
  rw [List.map_take]; exact h.take n
theorem rplain_end {w w5 : World} {k l : Int} {ss : List ByteArray} {A : Option Addr} {m c : Nat} {x y z : Value} (ht : m = trimN ss ss.length)
    (h : w5.ownsRow (w.heap.size + 2) 9 1 (.slice A m c) m ((ss.take m).map Value.string)) (hx : Ext w w5) :
    PgOne k l (plainL ss) w (.returned (.agg #[.int .i64 k, .int .i64 l, .slice A m c])) (((w5.setCell ⟨w.heap.size + 1, 0, none⟩ x).setCell ⟨w.heap.size + 1, 1, none⟩ y).setCell ⟨w.heap.size + 1, 2, none⟩ z) := by
  have hl : (plainL ss).length = m := by rw [plainL_len, ht]
  refine ⟨A, c, by rw [hl], ?_, ?_⟩
  · rw [hl]
    have e : plainL ss = ss.take m := by rw [plainL, ht]
    rw [e]
    exact own_mono (ownsRow_setCell_below (ownsRow_setCell_below (ownsRow_setCell_below h (by simp) _) (by simp) _) (by simp) _) (by omega)
  · exact ((hx.set (by simp) _).set (by simp) _).set (by simp) _
set_option maxRecDepth 100000 in
set_option maxHeartbeats 1000000 in
theorem rplain_any (k l : Int) (A : Option Addr) (c : Nat) (ss : List ByteArray) (w : World) (h : At w A (ss.map Value.string)) (hl : ss.length ≤ 100000) (hc : ss.length ≤ c) :
    Calls Tryd.prog 108 #[.agg #[.int .i64 k, .int .i64 l, .slice A ss.length c]] w (PgOne k l (plainL ss) w) := by
  obtain ⟨i0, hi0, hz0, hz1, hz2⟩ := info_parts Tryd.infoStr
  have H := Lib.hid h; clear h
  have X0 := Lib.hid (((Ext.refl w).alloc (.cells #[.int .i64 k, .int .i64 l, .slice A ss.length c] 86)).alloc (.cells #[.int .i64 0, .int .i64 0, .slice none 0 0] 86))
  go_enter Tryd.func108, Tryd.ntmps108
  go_wp2
  go_loop [3] (fun i => ∃ j : Nat, j ≤ ss.length ∧ i = .int .i64 j ∧ trimN ss j = trimN ss ss.length) (fun i => (intOf i).toNat)
  case atStart => exact ⟨_, Nat.le_refl _, rfl, rfl⟩
  case round =>
    obtain ⟨j, hj, rfl, ht⟩ := hrel
    have Ht := Lib.hid ht; clear ht
    rcases j with _ | j
    · go_wp2
      go_region_held3 (fun W => W.cell? ⟨w.heap.size, 0, none⟩ = some (.int .i64 k) ∧ W.cell? ⟨w.heap.size, 1, none⟩ = some (.int .i64 l) ∧ W.cell? ⟨w.heap.size, 2, none⟩ = some (.slice A ss.length c))
        (first | go_keep | exact ⟨p0, p1, p2⟩)
        ((refine stp_append _ (by rfl) (.tmp 24) (.tmp 28) _ (by rfl) (w.heap.size + 2) 9 i0 _ 16 Tryd.underlying84 hi0 hz0 hz1 hz2 rfl _ 0 [] (by rfl) (own_lit0 (by simp) (by simp)) _ 0 _ [] (by rfl) (by rfl) (At.nil _ _) (by simp) (by simp [maxLen]) (by simp) (by simp) ?_; intro v5 w5 hown5 hg5 _; simp only [Nat.add_zero, List.nil_append] at hown5; obtain ⟨A5, c5, rfl, _⟩ := own_form hown5; have X5 := Lib.hid (after_lit (w := w) (k := k) (l := l) (A := A) (n := ss.length) (c := c) hg5); obtain ⟨p0, p1, q0, q1, q2, f0, f1, f2⟩ := put_held X5.out; have p2 : w5.cell? ⟨w.heap.size, 2, none⟩ = _ := X5.out.two0.1 2; have Hown5 := Lib.hid hown5; clear hown5 hg5))
      go_wp2
      refine bodyPost_ret (v := .agg #[.int .i64 k, .int .i64 l, .slice A5 0 c5]) (by simp [results, Tryd.results108, go_sem, q0, q1, q2]) rfl ?_
      exact rplain_end (m := 0) Ht.out Hown5.out (X0.out.trans X5.out)
    · have hs : (ss.map Value.string)[j]? = some (.string (ss.getD j ByteArray.empty)) := by simp [List.getD, List.getElem?_eq_getElem (show j < ss.length by omega)]
      obtain ⟨ad, rfl, hb, hcell⟩ := (H.out.ext X0.out) _ _ hs
      clear hs
      obtain ⟨s, hs⟩ : ∃ s, s = ss.getD j ByteArray.empty := ⟨_, rfl⟩
      rw [← hs] at hcell
      have Hs := Lib.hid hs; clear hs
      rcases he : s.toList.isEmpty with _ | _
      · have He := Lib.hid (show trimN ss ss.length = j + 1 by rw [← Ht.out, trimN_succ, ← Hs.out, he]; rfl)
        have hc0 : ¬ c = 0 := by omega
        have hj1 : (0 : Int) ≤ (j : Int) + 1 := by omega
        have hj2 : (j : Int) + 1 ≤ (c : Int) := by omega
        go_wp2
        go_region_held3 (fun W => W.cell? ⟨w.heap.size, 0, none⟩ = some (.int .i64 k) ∧ W.cell? ⟨w.heap.size, 1, none⟩ = some (.int .i64 l) ∧ W.cell? ⟨w.heap.size, 2, none⟩ = some (.slice (some ad) ss.length c))
          (first | go_keep | exact ⟨p0, p1, p2⟩)
          ((refine stp_append _ (by rfl) (.tmp 24) (.tmp 28) _ (by rfl) (w.heap.size + 2) 9 i0 _ 16 Tryd.underlying84 hi0 hz0 hz1 hz2 rfl _ 0 [] (by rfl) (own_lit0 (by simp) (by simp)) (some ad) (j + 1) _ ((ss.take (j + 1)).map Value.string) (by rfl) (by simp; omega) (by exact (At.take_map (H.out.ext X0.out) (j + 1)).ext ((Ext.refl _).alloc _).drew) (str_one _) (by simp only [maxLen]; omega) (by omega) (by simp) ?_; intro v5 w5 hown5 hg5 _; simp only [Nat.zero_add, List.nil_append] at hown5; obtain ⟨A5, c5, rfl, _⟩ := own_form hown5; have X5 := Lib.hid (after_lit (w := w) (k := k) (l := l) (A := some ad) (n := ss.length) (c := c) hg5); obtain ⟨p0, p1, q0, q1, q2, f0, f1, f2⟩ := put_held X5.out; have p2 : w5.cell? ⟨w.heap.size, 2, none⟩ = _ := X5.out.two0.1 2; have Hown5 := Lib.hid hown5; clear hown5 hg5))
        go_wp2
        refine bodyPost_ret (v := .agg #[.int .i64 k, .int .i64 l, .slice A5 (j + 1) c5]) (by simp [results, Tryd.results108, go_sem, q0, q1, q2]) rfl ?_
        exact rplain_end (m := j + 1) He.out.symm Hown5.out (X0.out.trans X5.out)
      · go_wp2
        go_round
        case rel => exact ⟨j, by omega, rfl, by rw [← Ht.out, trimN_succ, ← Hs.out, if_pos he]⟩
        case measure => simp [intOf]
theorem own_cap {w : World} {base : Nat} {e : TypeId} {A : Option Addr} {n m c : Nat} {xs : List Value} (h : w.ownsRow base e 1 (.slice A n c) m xs) : n ≤ c := by
  rcases h.2 with ⟨hv, _⟩ | ⟨g, cap, cur, hv, hb, hg, hc, _⟩
  · injection hv with _ h2 h3; omega
  · injection hv with _ h2 h3; omega
set_option maxRecDepth 100000 in
set_option maxHeartbeats 1000000 in
theorem rsize_any (k l : Int) (A : Option Addr) (n c : Nat) (ss : List ByteArray) (w : World) (hn : n = ss.length) (h : At w A (ss.map Value.string)) (hs : Small ss) (hc : n ≤ c) :
    Calls Tryd.prog 84 #[.agg #[.int .i64 k, .int .i64 l, .slice A n c]] w fun e w' => e = .returned (.int .i64 (sizeL ss)) ∧ Ext w w' := by
  subst hn
  have H := Lib.hid h; clear h
  have hl := hs.1
  have HS := Lib.hid hs; clear hs
  have X0 := Lib.hid ((Ext.refl w).alloc (.cells #[.int .i64 k, .int .i64 l, .slice A ss.length c] 86))
  go_enter Tryd.func84, Tryd.ntmps84
  go_wp2_with (go_at_call 108; refine (rplain_any _ _ _ _ _ _ (H.out.ext X0.out) hl hc).mono ?_; rintro e w1 ⟨A1, c1, rfl, hown, hx⟩; have Hown := Lib.hid hown; have X1 := Lib.hid (X0.out.trans hx); clear hown hx)
  have hsm := Small.plain HS.out
  have hpl : (plainL ss).length ≤ 100000 := hsm.1
  have Hp := Lib.hid hsm; clear hsm
  obtain ⟨ps, hps⟩ : ∃ ps, ps = plainL ss := ⟨_, rfl⟩
  rw [← hps] at Hown Hp hpl ⊢
  have Hps := Lib.hid hps; clear hps
  have HA := Lib.hid ((At.of_own Hown.out).ext ((Ext.refl w1).alloc (.cells #[.int .i64 k, .int .i64 l, .slice A1 ps.length c1] 86)))
  go_loop [3, 5] (fun n i => ∃ j : Nat, j ≤ ps.length ∧ i = .int .i64 j ∧ n = .int .i64 ((14 + sizeT (ps.take j) : Nat) : Int)) (fun _ i => ps.length - (intOf i).toNat)
  case atStart => exact ⟨0, Nat.zero_le _, rfl, rfl⟩
  case round =>
    obtain ⟨j, hj, rfl, rfl⟩ := hrel
    have hb := Small.take Hp.out j
    rcases Nat.lt_or_ge j ps.length with hlt | hge
    · obtain ⟨ad, rfl, _, hcell⟩ := HA.out.get (k := j) (by simpa using hlt)
      rw [List.getElem_map] at hcell
      have hsz : (ps[j]).size ≤ 1000000 := Hp.out.2 _ (List.getElem_mem hlt)
      have Hn := Lib.hid (sizeT_take_succ ps j hlt)
      obtain ⟨s, hs⟩ : ∃ s, s = ps[j] := ⟨_, rfl⟩
      rw [← hs] at hsz Hn hcell
      clear hs
      obtain ⟨t, ht⟩ : ∃ t, t = sizeT (ps.take j) := ⟨_, rfl⟩
      rw [← ht] at Hn hb ⊢
      clear ht
      go_wp2
      go_round
      case rel => exact ⟨j + 1, by omega, by go_num, by rw [Hn.out]; go_num⟩
      case measure => simp [intOf]; omega
    · obtain rfl : j = ps.length := by omega
      go_wp2
      go_ret
      exact ⟨ret_int (by rw [sizeL, ← Hps.out]; omega), X1.out.alloc _⟩
end
end Go.Proofs.YtjnplglnnamfdaaDoor
namespace Go.Proofs.YtjnplglnnamfdaaDoor
section
set_option linter.unusedVariables false
set_option linter.unusedSimpArgs false
open Go.RowKit
set_option maxRecDepth 100000 in
set_option maxHeartbeats 2000000 in
theorem rright_any (k l : Int) (A : Option Addr) (n c : Nat) (ss : List ByteArray) (w : World) (hn : n = ss.length) (h : At w A (ss.map Value.string)) (hs : Small ss) (hc : n ≤ c) :
    Calls Tryd.prog 68 #[.agg #[.int .i64 k, .int .i64 l, .slice A n c]] w (Ret1 (.bool (rightB k l ss)) w) := by
  subst hn
  have H := Lib.hid h; clear h
  have hl := hs.1
  have HS := Lib.hid hs; clear hs
  have X0 := Lib.hid ((Ext.refl w).alloc (.cells #[.int .i64 k, .int .i64 l, .slice A ss.length c] 86))
  by_cases h1 : 0 ≤ k
  · by_cases h2 : k ≤ 2
    · by_cases h3 : 0 ≤ l
      · by_cases h4 : l ≤ 2147483647
        · by_cases h5 : ss.length ≤ 24
          · have h5' : (ss.length : Int) ≤ 24 := by omega
            obtain ⟨z, hz⟩ : ∃ z, z = sizeL ss := ⟨_, rfl⟩
            have Hz := Lib.hid hz
            clear hz
            by_cases h7 : 512 < z
            · have h7' : 512 < (z : Int) := by omega
              go_enter Tryd.func68, Tryd.ntmps68
              go_wp2_with (go_at_call 84; refine (rsize_any _ _ _ _ _ _ _ rfl (H.out.ext X0.out) HS.out hc).mono ?_; rw [← Hz.out]; rintro e w1 ⟨rfl, hx⟩; have X1 := Lib.hid (X0.out.trans hx); clear hx)
              go_ret
              exact Ret1.bool (by simp [rightB, ← Hz.out]; intros; omega) X1.out
            · have h7' : (z : Int) ≤ 512 := by omega
              go_enter Tryd.func68, Tryd.ntmps68
              go_wp2_with (go_at_call 84; refine (rsize_any _ _ _ _ _ _ _ rfl (H.out.ext X0.out) HS.out hc).mono ?_; rw [← Hz.out]; rintro e w1 ⟨rfl, hx⟩; have X1 := Lib.hid (X0.out.trans hx); have p2 : w1.cell? ⟨w.heap.size, 2, none⟩ = some (.slice A ss.length c) := hx.cell_new 2; clear hx)
              go_loop [3] (fun i => ∃ j : Nat, j ≤ ss.length ∧ i = .int .i64 j ∧ longB (ss.take j) = false) (fun i => ss.length - (intOf i).toNat)
              case atStart => exact ⟨0, Nat.zero_le _, rfl, rfl⟩
              case round =>
                obtain ⟨j, hj, rfl, ht⟩ := hrel
                have Ht := Lib.hid ht; clear ht
                rcases Nat.lt_or_ge j ss.length with hlt | hge
                · obtain ⟨ad, rfl, _, hcell⟩ := (H.out.ext X1.out).get (k := j) (by simpa using hlt)
                  rw [List.getElem_map] at hcell
                  have hsz : (ss[j]).size ≤ 1000000 := HS.out.2 _ (List.getElem_mem hlt)
                  obtain ⟨s, hs⟩ : ∃ s, s = ss[j] := ⟨_, rfl⟩
                  rw [← hs] at hcell hsz
                  have Hs := Lib.hid hs; clear hs
                  rcases Nat.lt_or_ge 400 s.size with h8 | h8
                  · go_wp2
                    go_ret
                    have hL := longB_of ss j hlt (by rw [← Hs.out]; exact h8)
                    exact Ret1.bool (by simp [rightB, hL]) X1.out
                  · have hn : longB (ss.take (j + 1)) = false := by rw [longB_take_succ ss j hlt, Ht.out, ← Hs.out]; simpa using h8
                    have Hn := Lib.hid hn; clear hn
                    go_wp2
                    go_round
                    case rel => exact ⟨j + 1, by omega, by go_num, Hn.out⟩
                    case measure => simp [intOf]; omega
                · obtain rfl : j = ss.length := by omega
                  rw [List.take_length] at Ht
                  go_wp2
                  go_ret
                  exact Ret1.bool (by simp [rightB, h1, h2, h3, h4, h5, Ht.out, ← Hz.out]; omega) X1.out
          · have h5' : ¬ (ss.length : Int) ≤ 24 := by omega
            go_enter Tryd.func68, Tryd.ntmps68
            go_wp2
            go_ret
            exact Ret1.bool (by simp [rightB, h5]) X0.out
        · go_enter Tryd.func68, Tryd.ntmps68
          go_wp2
          go_ret
          exact Ret1.bool (by simp [rightB]; intros; omega) X0.out
      · go_enter Tryd.func68, Tryd.ntmps68
        go_wp2
        go_ret
        exact Ret1.bool (by simp [rightB]; intros; omega) X0.out
    · go_enter Tryd.func68, Tryd.ntmps68
      go_wp2
      go_ret
      exact Ret1.bool (by simp [rightB]; intros; omega) X0.out
  · go_enter Tryd.func68, Tryd.ntmps68
    go_wp2
    go_ret
    exact Ret1.bool (by simp [rightB]; intros; omega) X0.out
def itemF (ss : List ByteArray) (i : Int) : ByteArray := if i < 0 then ByteArray.empty else ss.getD i.toNat ByteArray.empty
end
end Go.Proofs.YtjnplglnnamfdaaDoor
namespace Go.Proofs.YtjnplglnnamfdaaDoor
section
set_option linter.unusedVariables false
set_option linter.unusedSimpArgs false
open Go.RowKit
theorem rplain_n (k l : Int) (A : Option Addr) (n c : Nat) (ss : List ByteArray) (w : World) (hn : n = ss.length) (h : At w A (ss.map Value.string)) (hl : ss.length ≤ 100000) (hc : n ≤ c) :
    Calls Tryd.prog 108 #[.agg #[.int .i64 k, .int .i64 l, .slice A n c]] w (PgOne k l (plainL ss) w) := by
  subst hn; exact rplain_any k l A c ss w h hl hc
def WithRel (pl : List ByteArray) (K : Nat) (k l : Int) (B base : Nat) (W0 wr : World) : Prop :=
  ∃ m A c, Blk wr B 86 #[.int .i64 k, .int .i64 l, .slice A m c] ∧ pl.length ≤ m ∧ (m ≤ pl.length ∨ m ≤ K + 1) ∧
    wr.ownsRow base 9 1 (.slice A m c) m ((pl ++ List.replicate (m - pl.length) ByteArray.empty).map Value.string) ∧ Ext W0 wr
def padLeft (w : World) (B K : Nat) : Nat := match w.cell? ⟨B, 2, none⟩ with | some (.slice _ n _) => K + 1 - n | _ => 0
set_option maxRecDepth 100000 in
set_option maxHeartbeats 2000000 in
theorem rwith_any (k l : Int) (A : Option Addr) (n c : Nat) (ss : List ByteArray) (K : Nat) (s : ByteArray) (w : World) (hn : n = ss.length) (h : At w A (ss.map Value.string)) (hs : Small ss) (hc : n ≤ c) (hK : K < 24) :
    Calls Tryd.prog 83 #[.agg #[.int .i64 k, .int .i64 l, .slice A n c], .int .i64 K, .string s] w (PgOne k l (plainL (withL ss K s)) w) := by
  subst hn
  have H := Lib.hid h; clear h
  have hp24 := (Small.plain hs).1
  have hl := hs.1
  have HS := Lib.hid hs; clear hs
  obtain ⟨i0, hi0, hz0, hz1, hz2⟩ := info_parts Tryd.infoStr
  have X0 := Lib.hid (((Ext.refl w).alloc (.cells #[.int .i64 k, .int .i64 l, .slice A ss.length c] 86)).alloc (.cells #[.int .i64 0, .int .i64 0, .slice none 0 0] 86))
  go_enter Tryd.func83, Tryd.ntmps83
  go_wp2_with (go_at_call 108; refine (rplain_any _ _ _ _ _ _ (H.out.ext X0.out) hl hc).mono ?_; rintro e w1 ⟨A1, c1, rfl, hown, hx⟩; have Hown := Lib.hid hown; have X1 := Lib.hid hx; have hzz := hx.two.2.2; clear hown hx)
  go_loopw [15] (fun _ wr => WithRel (plainL ss) K k l w1.heap.size (w.heap.size + 2) ((w.alloc (.cells #[.int .i64 k, .int .i64 l, .slice A ss.length c] 86)).alloc (.cells #[.int .i64 0, .int .i64 0, .slice none 0 0] 86)) wr) (fun _ wr => padLeft wr w1.heap.size K)
  case atStart => exact ⟨_, A1, c1, Blk.new _ _ _, Nat.le_refl _, .inl (Nat.le_refl _), by simpa using (own_mono (base' := w.heap.size + 2) Hown.out (by simp)).alloc _, X1.out.alloc _⟩
  case round =>
    obtain ⟨m, A', c', hblk, hm1, hm2, hown, hx⟩ := hrel
    have Hw := Lib.hid hown
    have XR := Lib.hid hx
    have HB := Lib.hid hblk
    have b0 : wr.cell? ⟨w1.heap.size, 0, none⟩ = some (.int .i64 k) := hblk.cell 0
    have b1 : wr.cell? ⟨w1.heap.size, 1, none⟩ = some (.int .i64 l) := hblk.cell 1
    have b2 : wr.cell? ⟨w1.heap.size, 2, none⟩ = some (.slice A' m c') := hblk.cell 2
    have e2 := hblk.frozen 2
    have hbz := hblk.lt
    clear hown hx hblk
    rcases Nat.lt_or_ge K m with hlt | hge
    · obtain ⟨g, rfl, hg1, hg2⟩ := own_pos Hw.out (by omega)
      have hme : m = (withL ss K s).length := by simp [withL, padTo]; omega
      have ho := (At.of_own Hw.out).get0 (k := K) (by simp; omega)
      have hfz := Hw.out.frozenAt (xs := (plainL ss ++ List.replicate (m - (plainL ss).length) ByteArray.empty).map Value.string) K
      have hwl : (withL ss K s).length ≤ 100000 := by omega
      have hst := with_stored (s := s) Hw.out hm1 hm2 hlt
      generalize ((plainL ss ++ List.replicate (m - (plainL ss).length) ByteArray.empty).map Value.string)[K]'(by simp; omega) = ov at ho
      obtain ⟨cur, hcur, _⟩ := own_blk Hw.out
      have hne := hcur.ne_ HB.out (by decide)
      have HB2 := Lib.hid (HB.out.far (p := ⟨g, K, none⟩) hne.symm (.string s))
      have Hst := Lib.hid hst
      have Hme := Lib.hid hme
      have Hcap := Lib.hid (own_cap Hw.out)
      clear hst hme hcur
      go_wp2_with (go_at_call 108; refine (rplain_n _ _ _ _ _ _ _ Hme.out (At.of_own Hst.out) hwl Hcap.out).mono ?_; rintro e w3 ⟨A3, c3, rfl, hown, hx⟩; have hx3 := (XR.out.set (p := ⟨g, K, none⟩) (by simpa only [World.size_alloc] using hg1) (.string s)).trans hx; have X3 := Lib.hid hx3; obtain ⟨_, _, q0, q1, q2, f0, f1, f2⟩ := put_held hx3; have Hown3 := Lib.hid hown; clear hown hx hx3)
      refine bodyPost_ret (v := .agg #[.int .i64 k, .int .i64 l, .slice A3 (plainL (withL ss K s)).length c3]) (by simp [results, Tryd.results83, go_sem, q0, q1, q2]) rfl ?_
      refine ⟨A3, c3, rfl, ?_, ((((X0.out.trans X3.out).set (by simp) _).set (by simp) _).set (by simp) _)⟩
      have hz : w.heap.size + 1 < (wr.setCell ⟨g, K, none⟩ (.string s)).heap.size := by have := XR.out.size2; simp only [World.setCell, Array.size_modify]; omega
      exact own_mono (ownsRow_setCell_below (ownsRow_setCell_below (ownsRow_setCell_below Hown3.out hz _) hz _) hz _) (by omega)
    · go_wp2_with (at_builtin; go_must (refine wpl_append _ rfl (.tmp 16) (.tmp 17) 84 rfl (w.heap.size + 2) 9 i0 _ 16 Tryd.underlying84 hi0 hz0 hz1 hz2 rfl _ _ _ rfl (Hw.out.alloc _) (some ⟨wr.heap.size, 0, none⟩) 1 1 [.string ⟨#[]⟩] rfl rfl (At.one_new _ _ _) (by intro u hu; simp at hu; subst hu; rfl) (by simp only [maxLen]; omega) (by omega) (by have := XR.out.size2; simp only [World.size_alloc]; omega) ?_; intro v' w4 hown' hg' _; obtain ⟨A4, c4, rfl, _⟩ := own_form hown'; have hn4 := own_ne (Hw.out.alloc (.cells #[.string ⟨#[]⟩] 9)) (HB.out.alloc (.cells #[.string ⟨#[]⟩] 9)) (by decide); have hb4 := (HB.out.alloc (.cells #[.string ⟨#[]⟩] 9)).grown hg' hn4; have r2 : w4.cell? ⟨w1.heap.size, 2, none⟩ = some (.slice A' m c') := hb4.cell 2; have g2 := hb4.frozen 2; have HO := Lib.hid hown'; have HG := Lib.hid hg'; have HB4 := Lib.hid hb4; clear hown' hg' hb4 hn4))
      go_roundw
      case rel => exact ⟨m + 1, A4, c4, HB4.out.set_ 2 _, by omega, .inr (by omega), own_set (pad_step rfl HO.out hm1) (own_ne HO.out HB4.out (by decide)) 2 _, ((XR.out.alloc _).grown HG.out (fun k hk => by have := own_block Hw.out k hk; simpa only [World.size_alloc] using this)).set (by have := X1.out.size2; simp only [World.size_alloc]; omega) _⟩
      case measure =>
        have r3 : (w4.setCell ⟨w1.heap.size, 2, none⟩ (.slice A4 (m + 1) c4)).cell? ⟨w1.heap.size, 2, none⟩ = some (.slice A4 (m + 1) c4) := (HB4.out.set_ 2 _).cell 2
        simp only [padLeft, r3, b2]
        omega
end
end Go.Proofs.YtjnplglnnamfdaaDoor
namespace Go.Proofs.YtjnplglnnamfdaaDoor
section
set_option linter.unusedVariables false
set_option linter.unusedSimpArgs false
open Go.RowKit
/-- the reference's answer: a page and an error, in one struct -/
def GotPost (k l : Int) (ss : List ByteArray) (err : Int) (w : World) (e : Ending) (w' : World) : Prop :=
  ∃ A c, e = .returned (.agg #[.int .i64 k, .int .i64 l, .slice A ss.length c, .int .i64 err]) ∧
    w'.ownsRow w.heap.size 9 1 (.slice A ss.length c) ss.length (ss.map Value.string) ∧ Ext w w'
def RPutPost (k l : Int) (ss : List ByteArray) (slot : Int) (s : ByteArray) (w : World) : Ending → World → Prop :=
  if putErr k l ss slot s = 0 then GotPost k l (plainL (withL ss slot.toNat s)) 0 w else GotPost 0 0 [] (putErr k l ss slot s) w
theorem GotPost.zero {err : Int} {w w' : World} (h : Ext w w') : GotPost 0 0 [] err w (.returned (.agg #[.int .i64 0, .int .i64 0, .slice none 0 0, .int .i64 err])) w' :=
  ⟨none, 0, rfl, World.ownsRow_nil _ _ _ _, h⟩
theorem got_held {w W : World} {k l : Int} {A : Option Addr} {n c : Nat}
    (h : Ext ((w.alloc (.cells #[.int .i64 k, .int .i64 l, .slice A n c] 86)).alloc (.cells #[.int .i64 0, .int .i64 0, .slice none 0 0, .int .i64 0] 102)) W) :
    (W.cell? ⟨w.heap.size, 0, none⟩ = some (.int .i64 k) ∧ W.cell? ⟨w.heap.size, 1, none⟩ = some (.int .i64 l) ∧ W.cell? ⟨w.heap.size, 2, none⟩ = some (.slice A n c)) ∧
    (W.cell? ⟨w.heap.size + 1, 0, none⟩ = some (.int .i64 0) ∧ W.cell? ⟨w.heap.size + 1, 1, none⟩ = some (.int .i64 0) ∧ W.cell? ⟨w.heap.size + 1, 2, none⟩ = some (.slice none 0 0) ∧ W.cell? ⟨w.heap.size + 1, 3, none⟩ = some (.int .i64 0)) ∧
    (W.frozen? ⟨w.heap.size + 1, 0, none⟩ = false ∧ W.frozen? ⟨w.heap.size + 1, 1, none⟩ = false ∧ W.frozen? ⟨w.heap.size + 1, 2, none⟩ = false ∧ W.frozen? ⟨w.heap.size + 1, 3, none⟩ = false) ∧ w.heap.size + 1 < W.heap.size :=
  ⟨⟨h.two0.1 0, h.two0.1 1, h.two0.1 2⟩, ⟨h.two.1 0, h.two.1 1, h.two.1 2, h.two.1 3⟩, ⟨h.two.2.1 0, h.two.2.1 1, h.two.2.1 2, h.two.2.1 3⟩, h.two.2.2⟩
set_option maxRecDepth 100000 in
set_option maxHeartbeats 1000000 in
theorem rput_not (k l : Int) (A : Option Addr) (c : Nat) (ss : List ByteArray) (slot : Int) (s : ByteArray) (w : World) (h : At w A (ss.map Value.string)) (hs : Small ss) (hc : ss.length ≤ c) (hr : rightB k l ss = false) :
    Calls Tryd.prog 55 #[.agg #[.int .i64 k, .int .i64 l, .slice A ss.length c], .int .i64 slot, .string s] w (GotPost 0 0 [] 22 w) := by
  have H := Lib.hid h; clear h
  have HR := Lib.hid hr; clear hr
  have HS := Lib.hid hs; clear hs
  have X0 := Lib.hid (((Ext.refl w).alloc (.cells #[.int .i64 k, .int .i64 l, .slice A ss.length c] 86)).alloc (.cells #[.int .i64 0, .int .i64 0, .slice none 0 0, .int .i64 0] 102))
  go_enter Tryd.func55, Tryd.ntmps55
  go_wp2_with (go_at_call 68; refine (rright_any _ _ _ _ _ _ _ rfl (H.out.ext X0.out) HS.out hc).mono ?_; rw [HR.out]; rintro e w1 ⟨rfl, hx⟩; have X1 := Lib.hid (X0.out.trans hx); obtain ⟨_, ⟨q0, q1, q2, q3⟩, ⟨f0, f1, f2, f3⟩, hzz⟩ := got_held hx; clear hx)
  refine bodyPost_ret (v := .agg #[.int .i64 0, .int .i64 0, .slice none 0 0, .int .i64 22]) (by simp [results, Tryd.results55, go_sem, q0, q1, q2, q3]) rfl (GotPost.zero ?_)
  repeat (first | exact X1.out | refine Ext.set ?_ (by simp) _)
set_option maxRecDepth 100000 in
set_option maxHeartbeats 1000000 in
theorem rput_item (k l : Int) (A : Option Addr) (c : Nat) (ss : List ByteArray) (slot : Int) (s : ByteArray) (w : World) (h : At w A (ss.map Value.string)) (hs : Small ss) (hc : ss.length ≤ c) (hr : rightB k l ss = true)
    (hb : slot < 0 ∨ 24 ≤ slot ∨ 400 < s.size) (hss : s.size ≤ 9223372036854775807) :
    Calls Tryd.prog 55 #[.agg #[.int .i64 k, .int .i64 l, .slice A ss.length c], .int .i64 slot, .string s] w (GotPost 0 0 [] 21 w) := by
  have H := Lib.hid h; clear h
  have HR := Lib.hid hr; clear hr
  have HS := Lib.hid hs; clear hs
  have X0 := Lib.hid (((Ext.refl w).alloc (.cells #[.int .i64 k, .int .i64 l, .slice A ss.length c] 86)).alloc (.cells #[.int .i64 0, .int .i64 0, .slice none 0 0, .int .i64 0] 102))
  have h3 : slot < 0 ∨ (0 ≤ slot ∧ 24 ≤ slot) ∨ (0 ≤ slot ∧ slot < 24 ∧ 400 < (s.size : Int)) := by omega
  clear hb
  rcases h3 with h1 | ⟨h0, h1⟩ | ⟨h0, h1, h2⟩
  all_goals
    go_enter Tryd.func55, Tryd.ntmps55
    go_wp2_with (go_at_call 68; refine (rright_any _ _ _ _ _ _ _ rfl (H.out.ext X0.out) HS.out hc).mono ?_; rw [HR.out]; rintro e w1 ⟨rfl, hx⟩; have X1 := Lib.hid (X0.out.trans hx); obtain ⟨_, ⟨q0, q1, q2, q3⟩, ⟨f0, f1, f2, f3⟩, hzz⟩ := got_held hx; clear hx)
    refine bodyPost_ret (v := .agg #[.int .i64 0, .int .i64 0, .slice none 0 0, .int .i64 21]) (by simp [results, Tryd.results55, go_sem, q0, q1, q2, q3]) rfl (GotPost.zero ?_)
    repeat (first | exact X1.out | refine Ext.set ?_ (by simp) _)
theorem rput_20 {k l : Int} {ss : List ByteArray} {K : Nat} {s : ByteArray} {w : World} (hr : rightB k l ss = true) (hK : K < 24) (hs : s.size ≤ 400) (hz : 512 < sizeL (plainL (withL ss K s))) (hp : sizeL (plainL (withL ss K s)) = sizeL (withL ss K s)) :
    RPutPost k l ss K s w = GotPost 0 0 [] 20 w := by
  have e : putErr k l ss K s = 20 := by
    rw [putErr, hr, if_neg (by simp), if_neg (by omega), Int.toNat_natCast, if_pos (by omega)]
  rw [RPutPost, e, if_neg (by decide)]
theorem rput_0 {k l : Int} {ss : List ByteArray} {K : Nat} {s : ByteArray} {w : World} (hr : rightB k l ss = true) (hK : K < 24) (hs : s.size ≤ 400) (hz : sizeL (plainL (withL ss K s)) ≤ 512) (hp : sizeL (plainL (withL ss K s)) = sizeL (withL ss K s)) :
    RPutPost k l ss K s w = GotPost k l (plainL (withL ss K s)) 0 w := by
  have e : putErr k l ss K s = 0 := by
    rw [putErr, hr, if_neg (by simp), if_neg (by omega), Int.toNat_natCast, if_neg (by omega)]
  rw [RPutPost, e, if_pos rfl, Int.toNat_natCast]
theorem trimN_take (ss : List ByteArray) (n : Nat) (h : n ≤ trimN ss n) : ∀ m, n ≤ m → trimN (ss.take m) n = n := by
  intro m hm
  rcases n with _ | n
  · rfl
  · have h1 : (ss.getD n ByteArray.empty).toList.isEmpty = false := by
      rw [trimN_succ] at h
      split at h
      · have := trimN_le ss n; omega
      · rename_i hne; exact Bool.eq_false_iff.2 hne
    rw [trimN_succ]
    have h2 : (ss.take m).getD n ByteArray.empty = ss.getD n ByteArray.empty := by
      simp only [List.getD, List.getElem?_take]
      rw [if_pos (by omega)]
    rw [h2, h1]
    rfl
theorem trimN_idem (ss : List ByteArray) : ∀ n, trimN ss (trimN ss n) = trimN ss n
  | 0 => rfl
  | n + 1 => by
    rw [trimN_succ]
    split
    · exact trimN_idem ss n
    · rename_i h; rw [trimN_succ, if_neg h]
theorem plain_plain (ss : List ByteArray) : plainL (plainL ss) = plainL ss := by
  have h := trimN_take ss (trimN ss ss.length) (by rw [trimN_idem]; exact Nat.le_refl _) (trimN ss ss.length) (Nat.le_refl _)
  have hl := plainL_len ss
  unfold plainL at hl ⊢
  rw [hl, h, List.take_take, Nat.min_self]
set_option maxRecDepth 100000 in
set_option maxHeartbeats 2000000 in
theorem rput_main (k l : Int) (A : Option Addr) (c : Nat) (ss : List ByteArray) (K : Nat) (s : ByteArray) (w : World) (h : At w A (ss.map Value.string)) (hs : Small ss) (hc : ss.length ≤ c) (hr : rightB k l ss = true)
    (hK : K < 24) (hss : s.size ≤ 400) :
    Calls Tryd.prog 55 #[.agg #[.int .i64 k, .int .i64 l, .slice A ss.length c], .int .i64 K, .string s] w (RPutPost k l ss K s w) := by
  have H := Lib.hid h; clear h
  have hv24 := (right_parts hr).2.2.1
  have HR := Lib.hid hr; clear hr
  have HS := Lib.hid hs; clear hs
  have HW := Lib.hid (small_with hv24 K hK s hss)
  have hi1 : ¬ (K : Int) < 0 := by omega
  have hi2 : (K : Int) < 24 := by omega
  have hi3 : ¬ 400 < (s.size : Int) := by omega
  have X0 := Lib.hid (((Ext.refl w).alloc (.cells #[.int .i64 k, .int .i64 l, .slice A ss.length c] 86)).alloc (.cells #[.int .i64 0, .int .i64 0, .slice none 0 0, .int .i64 0] 102))
  have Hpp := Lib.hid (plain_plain (withL ss K s))
  obtain ⟨z, hz⟩ : ∃ z, z = sizeL (plainL (withL ss K s)) := ⟨_, rfl⟩
  have Hz := Lib.hid hz
  clear hz
  have Hpz := Lib.hid (show sizeL (plainL (withL ss K s)) = sizeL (withL ss K s) by rw [sizeL, Hpp.out, sizeL])
  rcases Nat.lt_or_ge 512 z with h5 | h5
  · have h5' : 512 < (z : Int) := by omega
    go_enter Tryd.func55, Tryd.ntmps55
    go_wp2_with (first
      | (go_at_call 68; refine (rright_any _ _ _ _ _ _ _ rfl (H.out.ext X0.out) HS.out hc).mono ?_; rw [HR.out]; rintro e w1 ⟨rfl, hx⟩; have X1 := Lib.hid hx; obtain ⟨⟨p0, p1, p2⟩, _⟩ := got_held hx; clear hx)
      | (go_at_call 83; refine (rwith_any _ _ _ _ _ _ _ _ _ rfl (H.out.ext (X0.out.trans X1.out)) HS.out hc hK).mono ?_; rintro e w2 ⟨A2, c2, rfl, hown, hx⟩; have X2 := Lib.hid (X1.out.trans hx); have Hown := Lib.hid hown; clear hown hx)
      | (go_at_call 84; refine (rsize_any _ _ _ _ _ _ _ rfl ((At.of_own Hown.out).ext ((Ext.refl w2).alloc _)) (Small.plain HW.out) (own_cap Hown.out)).mono ?_; rw [← Hz.out]; rintro e w3 ⟨rfl, hx⟩; have X3 := Lib.hid ((X2.out.alloc (.cells #[.int .i64 k, .int .i64 l, .slice A2 (plainL (withL ss K s)).length c2] 86)).trans hx); obtain ⟨_, ⟨q0, q1, q2, q3⟩, ⟨f0, f1, f2, f3⟩, hzz⟩ := got_held X3.out; clear hx))
    refine bodyPost_ret (v := .agg #[.int .i64 0, .int .i64 0, .slice none 0 0, .int .i64 20]) (by simp [results, Tryd.results55, go_sem, q0, q1, q2, q3]) rfl ?_
    rw [rput_20 HR.out hK hss (by rw [← Hz.out]; exact h5) Hpz.out]
    refine GotPost.zero ?_
    have X4 := X0.out.trans X3.out
    repeat (first | exact X4 | refine Ext.set ?_ (by simp) _)
  · have h5' : (z : Int) ≤ 512 := by omega
    go_enter Tryd.func55, Tryd.ntmps55
    go_wp2_with (first
      | (go_at_call 68; refine (rright_any _ _ _ _ _ _ _ rfl (H.out.ext X0.out) HS.out hc).mono ?_; rw [HR.out]; rintro e w1 ⟨rfl, hx⟩; have X1 := Lib.hid hx; obtain ⟨⟨p0, p1, p2⟩, _⟩ := got_held hx; clear hx)
      | (go_at_call 83; refine (rwith_any _ _ _ _ _ _ _ _ _ rfl (H.out.ext (X0.out.trans X1.out)) HS.out hc hK).mono ?_; rintro e w2 ⟨A2, c2, rfl, hown, hx⟩; have X2 := Lib.hid (X1.out.trans hx); have Hown := Lib.hid hown; clear hown hx)
      | (go_at_call 84; refine (rsize_any _ _ _ _ _ _ _ rfl ((At.of_own Hown.out).ext ((Ext.refl w2).alloc _)) (Small.plain HW.out) (own_cap Hown.out)).mono ?_; rw [← Hz.out]; rintro e w3 ⟨rfl, hx⟩; have X3 := Lib.hid ((X2.out.alloc (.cells #[.int .i64 k, .int .i64 l, .slice A2 (plainL (withL ss K s)).length c2] 86)).trans hx); obtain ⟨_, ⟨q0, q1, q2, q3⟩, ⟨f0, f1, f2, f3⟩, hzz⟩ := got_held X3.out; have r0 : w3.cell? ⟨w2.heap.size, 0, none⟩ = some (.int .i64 k) := hx.cell_new 0; have r1 : w3.cell? ⟨w2.heap.size, 1, none⟩ = some (.int .i64 l) := hx.cell_new 1; have r2 : w3.cell? ⟨w2.heap.size, 2, none⟩ = some (.slice A2 (plainL (withL ss K s)).length c2) := hx.cell_new 2; have Hown3 := Lib.hid (own_ext (own_mono (base' := w.heap.size + 2) Hown.out (by have := X1.out.size2; exact this)) (((Ext.refl w2).alloc _).trans hx)); clear hx))
    refine bodyPost_ret (v := .agg #[.int .i64 k, .int .i64 l, .slice A2 (plainL (withL ss K s)).length c2, .int .i64 0]) (by simp [results, Tryd.results55, go_sem, q0, q1, q2, q3]) rfl ?_
    rw [rput_0 HR.out hK hss (by rw [← Hz.out]; exact h5) Hpz.out]
    have X4 := X0.out.trans X3.out
    refine ⟨A2, c2, rfl, own_mono (base := w.heap.size + 2) ?_ (by omega), ?_⟩
    · repeat (first | exact Hown3.out | refine ownsRow_setCell_below ?_ (by simp) _)
    · repeat (first | exact X4 | refine Ext.set ?_ (by simp) _)
theorem rput_any (k l : Int) (A : Option Addr) (n c : Nat) (ss : List ByteArray) (slot : Int) (s : ByteArray) (w : World) (hn : n = ss.length) (h : At w A (ss.map Value.string)) (hs : Small ss) (hc : n ≤ c) (hss : s.size ≤ 9223372036854775807) :
    Calls Tryd.prog 55 #[.agg #[.int .i64 k, .int .i64 l, .slice A n c], .int .i64 slot, .string s] w (RPutPost k l ss slot s w) := by
  subst hn
  rcases hr : rightB k l ss with _ | _
  · have e : putErr k l ss slot s = 22 := by rw [putErr, if_pos hr]
    rw [RPutPost, e, if_neg (by decide)]
    exact rput_not k l A c ss slot s w h hs hc hr
  · by_cases hb : slot < 0 ∨ 24 ≤ slot ∨ 400 < s.size
    · have e : putErr k l ss slot s = 21 := by rw [putErr, hr, if_neg (by simp), if_pos hb]
      rw [RPutPost, e, if_neg (by decide)]
      exact rput_item k l A c ss slot s w h hs hc hr hb hss
    · obtain ⟨K, rfl⟩ := Int.eq_ofNat_of_zero_le (show 0 ≤ slot by omega)
      exact rput_main k l A c ss K s w h hs hc hr (by omega) (by omega)
end
end Go.Proofs.YtjnplglnnamfdaaDoor
namespace Go.Proofs.YtjnplglnnamfdaaDoor
section
open Go.RowKit
set_option linter.unusedVariables false
set_option linter.unusedSimpArgs false
theorem withL_mem' {ss : List ByteArray} {K : Nat} {s x : ByteArray} (h : x ∈ withL ss K s) : x = s ∨ x ∈ ss ∨ x = ByteArray.empty := by
  rcases List.mem_or_eq_of_mem_set h with h | h
  · rcases List.mem_append.1 h with h1 | h1
    · exact .inr (.inl (List.mem_of_mem_take h1))
    · exact .inr (.inr (List.mem_replicate.1 h1).2)
  · exact .inl h
end
end Go.Proofs.YtjnplglnnamfdaaDoor
namespace Go.Proofs.YtjnplglnnamfdaaDoor
section
open Go.RowKit
set_option linter.unusedVariables false
set_option linter.unusedSimpArgs false
theorem withL_len (ss : List ByteArray) (K : Nat) (s : ByteArray) : (withL ss K s).length = max (plainL ss).length (K + 1) := by
  simp only [withL, padTo, List.length_set, List.length_append, List.length_replicate]; omega
theorem put_right {k l : Int} {ss : List ByteArray} {slot : Int} {s : ByteArray} (h : rightB k l ss = true) (hp : putErr k l ss slot s = 0) : rightB k l (plainL (withL ss slot.toNat s)) = true := by
  obtain ⟨hk, hl, ⟨h24, hsz⟩, _⟩ := right_parts h
  unfold putErr at hp
  rw [h, if_neg (by simp)] at hp
  split at hp
  · cases hp
  · rename_i hb
    split at hp
    · cases hp
    · rename_i hz
      have hpl := plainL_len (withL ss slot.toNat s)
      have htr := trimN_le (withL ss slot.toNat s) (withL ss slot.toNat s).length
      have hwl := withL_len ss slot.toNat s
      have hpl2 := plainL_len ss
      have htr2 := trimN_le ss ss.length
      have hz2 : sizeL (plainL (withL ss slot.toNat s)) = sizeL (withL ss slot.toNat s) := by rw [sizeL, plain_plain, sizeL]
      have hlong : longB (plainL (withL ss slot.toNat s)) = false := by
        rw [longB, List.any_eq_false]
        intro x hx
        have hx' := withL_mem' (List.mem_of_mem_take hx)
        rcases hx' with rfl | hx' | rfl
        · simp; omega
        · have := hsz x hx'; simp; omega
        · simp
      simp only [rightB, Bool.and_eq_true, decide_eq_true_eq, hlong, Bool.not_false, hz2, true_and]
      exact ⟨hk.1, hk.2, hl.1, hl.2, by omega, by omega⟩
/-- all of R as one entry -/
def eM (R : List Ent) : Ent := ⟨R.flatMap (·.fp), fun W => ∀ e ∈ R, e.holds W ∧ e.loc⟩
theorem eM_loc (R : List Ent) : (eM R).loc := fun W W' hk h e he =>
  ⟨(h e he).2 W W' (fun k hk' => hk k (List.mem_flatMap.2 ⟨e, he, hk'⟩)) (h e he).1, (h e he).2⟩
theorem St.emNil {w0 W : World} {bor : List Nat} {L : List Ent} (h : St w0 bor L W) : St w0 bor (L ++ [eM []]) W := by
  refine ⟨h.upd, fun x hx => ?_, ?_⟩
  · rcases List.mem_append.1 hx with hx | hx
    · exact h.ok x hx
    · rw [List.mem_singleton] at hx
      subst hx
      exact ⟨fun e he => (by cases he), eM_loc _, fun k hk => (by cases hk)⟩
  · rw [List.pairwise_append]
    refine ⟨h.apart, List.pairwise_singleton _ _, fun a _ b hb => ?_⟩
    rw [List.mem_singleton] at hb
    subst hb
    exact fun k _ hk => by cases hk
/-- the last entry joins the many -/
theorem St.merge {w0 W : World} {bor : List Nat} {L R : List Ent} {e : Ent} (h : St w0 bor (L ++ [eM R, e]) W) : St w0 bor (L ++ [eM (R ++ [e])]) W := by
  have hM := h.ok (eM R) (by simp)
  have hE := h.ok e (by simp)
  have hfp : ∀ k, k ∈ (eM (R ++ [e])).fp ↔ k ∈ (eM R).fp ∨ k ∈ e.fp := fun k => by simp [eM]
  refine ⟨h.upd, fun x hx => ?_, ?_⟩
  · rcases List.mem_append.1 hx with hx | hx
    · exact h.ok x (by simp [hx])
    · rw [List.mem_singleton] at hx
      subst hx
      refine ⟨fun x hx => ?_, eM_loc _, fun k hk => ?_⟩
      · rcases List.mem_append.1 hx with hx | hx
        · exact hM.holds x hx
        · rw [List.mem_singleton] at hx
          subst hx
          exact ⟨hE.holds, hE.loc⟩
      · rcases (hfp k).1 hk with hk | hk
        · exact hM.own k hk
        · exact hE.own k hk
  · have ha := h.apart
    rw [List.pairwise_append] at ha ⊢
    refine ⟨ha.1, List.pairwise_singleton _ _, fun a ha' b hb => ?_⟩
    rw [List.mem_singleton] at hb
    subst hb
    intro k hk hkb
    rcases (hfp k).1 hkb with hkb | hkb
    · exact ha.2.2 a ha' (eM R) (by simp) k hk hkb
    · exact ha.2.2 a ha' e (by simp) k hk hkb
/-- a page's items as an entry; the pages of Made as one entry -/
def entP (p : PgD) : Ent := eO 9 1 (.slice p.A p.its.length p.c) p.its.length (strs p.its)
def ePs (Ps : List PgD) : Ent := eM (Ps.map entP)
theorem St.mergeP {w0 W : World} {bor : List Nat} {L : List Ent} {Ps : List PgD} {p : PgD} (h : St w0 bor (L ++ [ePs Ps, entP p]) W) : St w0 bor (L ++ [ePs (Ps ++ [p])]) W := by
  have h2 := h.merge
  have e : Ps.map entP ++ [entP p] = (Ps ++ [p]).map entP := by simp
  rw [e] at h2
  exact h2
end
end Go.Proofs.YtjnplglnnamfdaaDoor
namespace Go.Proofs.YtjnplglnnamfdaaDoor
section
open Go.RowKit
set_option linter.unusedVariables false
set_option linter.unusedSimpArgs false
/-- a page without its place in memory -/
abbrev PgI := Int × Int × List Itm
def pgi0 : PgI := (0, 0, [])
def absP (p : PgD) : PgI := (p.k, p.l, p.its)
def fstI (its : List Itm) : List ByteArray := its.map Prod.fst
theorem fstI_len (its : List Itm) : (fstI its).length = its.length := List.length_map ..
def trimI (its : List Itm) : List Itm := its.take (trimN (fstI its) its.length)
def withI (its : List Itm) (K : Nat) (i : Itm) : List Itm := (trimI its ++ List.replicate (K + 1 - (trimI its).length) it0).set K i
def putI (its : List Itm) (K : Nat) (i : Itm) : List Itm := trimI (withI its K i)
theorem trimI_fst (its : List Itm) : fstI (trimI its) = plainL (fstI its) := by
  rw [trimI, plainL, fstI_len, fstI, fstI, List.map_take]
theorem withI_fst (its : List Itm) (K : Nat) (i : Itm) : fstI (withI its K i) = withL (fstI its) K i.1 := by
  rw [withI, withL, padTo, fstI, List.map_set, List.map_append, List.map_replicate]
  have e : (trimI its).map Prod.fst = plainL (fstI its) := trimI_fst its
  rw [e, ← e, List.length_map]
  rfl
theorem putI_fst (its : List Itm) (K : Nat) (i : Itm) : fstI (putI its K i) = plainL (withL (fstI its) K i.1) := by rw [putI, trimI_fst, withI_fst]
theorem withI_mem {its : List Itm} {K : Nat} {i x : Itm} (h : x ∈ withI its K i) : x = i ∨ x ∈ its ∨ x = it0 := by
  rcases List.mem_or_eq_of_mem_set h with h | h
  · rcases List.mem_append.1 h with h1 | h1
    · exact .inr (.inl (List.mem_of_mem_take h1))
    · exact .inr (.inr (List.mem_replicate.1 h1).2)
  · exact .inl h
theorem putI_desc {its : List Itm} {K : Nat} {i : Itm} (h : ∀ x ∈ its, Desc x.1 x.2) (hi : Desc i.1 i.2) : ∀ x ∈ putI its K i, Desc x.1 x.2 := by
  intro x hx
  rcases withI_mem (List.mem_of_mem_take hx) with rfl | h1 | rfl
  · exact hi
  · exact h x h1
  · show ByteArray.empty.size < 8; decide
/-- an edit with what its item says -/
abbrev EdI := Int × Int × Itm
def ei0 : EdI := (0, 0, it0)
def cellsI (e : EdI) : List Value := [.int .i64 e.1, .int .i64 e.2.1, .string e.2.2.1]
theorem cellsI_len (e : EdI) : (cellsI e).length = 3 := rfl
def okP (p : PgI) : Prop := rightB p.1 p.2.1 (fstI p.2.2) = true ∧ ∀ i ∈ p.2.2, Desc i.1 i.2
def do1 (lsn : Int) (p : PgI) (e : EdI) : Option PgI :=
  if e.2.1 = -1 then (if e.2.2.1 = (⟨#[1]⟩ : ByteArray) then some (1, lsn, []) else none)
  else if putErr p.1 p.2.1 (fstI p.2.2) e.2.1 e.2.2.1 = 0 then some (p.1, lsn, putI p.2.2 e.2.1.toNat e.2.2) else none
def doL (lsn : Int) (H : List PgI) : List EdI → Option (List PgI)
  | [] => some H
  | e :: es => if 0 ≤ e.1 ∧ e.1 < H.length then (match do1 lsn (H.getD e.1.toNat pgi0) e with | some p => doL lsn (H.set e.1.toNat p) es | none => none) else none
def okH (H : List PgI) : Prop := ∀ p ∈ H, okP p
theorem okH.get {H : List PgI} (h : okH H) {n : Nat} (hn : n < H.length) : okP (H.getD n pgi0) := by
  rw [List.getD_eq_getElem?_getD, List.getElem?_eq_getElem hn]
  exact h _ (List.getElem_mem hn)
theorem okH.set {H : List PgI} (h : okH H) {n : Nat} {p : PgI} (hp : okP p) : okH (H.set n p) := fun q hq => by
  rcases List.mem_or_eq_of_mem_set hq with h1 | rfl
  · exact h q h1
  · exact hp
theorem right_lsn {k l m : Int} {ss : List ByteArray} (h : rightB k l ss = true) (hm : 0 ≤ m ∧ m ≤ 2147483647) : rightB k m ss = true := by
  simp only [rightB, Bool.and_eq_true, decide_eq_true_eq] at h ⊢
  exact ⟨h.1, h.2.1, hm.1, hm.2, h.2.2.2.2⟩
theorem okP.its {p : PgI} (h : okP p) : p.2.2.length ≤ 24 := by
  have := (right_parts h.1).2.2.1.1
  rwa [fstI_len] at this
theorem okP.put {p : PgI} (h : okP p) {lsn j : Int} {i : Itm} (hl : 0 ≤ lsn ∧ lsn ≤ 2147483647) (hi : Desc i.1 i.2) (hp : putErr p.1 p.2.1 (fstI p.2.2) j i.1 = 0) : okP (p.1, lsn, putI p.2.2 j.toNat i) :=
  ⟨by show rightB p.1 lsn (fstI (putI p.2.2 j.toNat i)) = true
      rw [putI_fst]; exact right_lsn (put_right h.1 hp) hl, putI_desc h.2 hi⟩
theorem right_kind {lsn : Int} (hl : 0 ≤ lsn ∧ lsn ≤ 2147483647) : rightB 1 lsn [] = true := by
  simp only [rightB, Bool.and_eq_true, decide_eq_true_eq]
  exact ⟨by decide, by decide, hl.1, hl.2, by decide, by decide, by decide⟩
theorem okP.do {p p' : PgI} (h : okP p) {lsn : Int} {e : EdI} (hl : 0 ≤ lsn ∧ lsn ≤ 2147483647) (hi : Desc e.2.2.1 e.2.2.2) (hd : do1 lsn p e = some p') : okP p' := by
  rw [do1] at hd
  split at hd
  · split at hd
    · obtain rfl := (Option.some.inj hd)
      exact ⟨right_kind hl, fun i hi => by cases hi⟩
    · cases hd
  · split at hd
    · rename_i hp
      obtain rfl := (Option.some.inj hd)
      exact h.put hl hi hp
    · cases hd
theorem doL_cons {lsn : Int} {H H' : List PgI} {e : EdI} {es : List EdI} (h : doL lsn H (e :: es) = some H') : (0 ≤ e.1 ∧ e.1 < H.length) ∧ ∃ p, do1 lsn (H.getD e.1.toNat pgi0) e = some p ∧ doL lsn (H.set e.1.toNat p) es = some H' := by
  rw [doL] at h
  split at h
  · rename_i h1
    refine ⟨h1, ?_⟩
    split at h
    · rename_i p hp
      exact ⟨p, hp, h⟩
    · cases h
  · cases h
theorem doL_step {lsn : Int} {H H' : List PgI} {es : List EdI} {j : Nat} (hj : j < es.length) (h : doL lsn H (es.drop j) = some H') : (0 ≤ (es.getD j ei0).1 ∧ (es.getD j ei0).1 < H.length) ∧ ∃ p, do1 lsn (H.getD (es.getD j ei0).1.toNat pgi0) (es.getD j ei0) = some p ∧ doL lsn (H.set (es.getD j ei0).1.toNat p) (es.drop (j + 1)) = some H' := by
  rw [List.drop_eq_getElem_cons hj] at h
  have e : es.getD j ei0 = es[j] := by rw [List.getD_eq_getElem?_getD, List.getElem?_eq_getElem hj, Option.getD_some]
  rw [e]
  exact doL_cons h
theorem doL_one {lsn : Int} {H : List PgI} {e : EdI} {p : PgI} (h : 0 ≤ e.1 ∧ e.1 < H.length) (hp : do1 lsn (H.getD e.1.toNat pgi0) e = some p) : doL lsn H [e] = some (H.set e.1.toNat p) := by
  rw [doL, if_pos h, hp]; rfl
theorem doL_app {lsn : Int} {es fs : List EdI} : ∀ {H H1 : List PgI}, doL lsn H es = some H1 → doL lsn H (es ++ fs) = doL lsn H1 fs := by
  induction es with
  | nil => intro H H1 h; obtain rfl := Option.some.inj h; rfl
  | cons e es ih =>
    intro H H1 h
    obtain ⟨h1, p, h2, h3⟩ := doL_cons h
    rw [List.cons_append, doL, if_pos h1, h2]
    exact ih h3
/-- the pages as the functions see them -/
def pvL (H : List PgI) (n : Int) : PV := if 0 ≤ n ∧ n < H.length then ⟨(H.getD n.toNat pgi0).1, (H.getD n.toNat pgi0).2.1, (H.getD n.toNat pgi0).2.2, true⟩ else ⟨0, 0, [], false⟩
theorem absP_get (Ps : List PgD) (n : Nat) : (Ps.map absP).getD n pgi0 = absP (Ps.getD n p0) := by
  rw [List.getD_eq_getElem?_getD, List.getD_eq_getElem?_getD, List.getElem?_map]
  cases Ps[n]? <;> rfl
theorem pvF_abs (Ps : List PgD) : pvF Ps = pvL (Ps.map absP) := by
  funext n
  rw [pvF, pvL, List.length_map, absP_get]
  rfl
end
end Go.Proofs.YtjnplglnnamfdaaDoor
namespace Go.Proofs.YtjnplglnnamfdaaDoor
section
open Go.RowKit
section
variable {ρ : Operand → Value}
theorem map5 {x0 x1 x2 x3 x4 : Operand} {v0 v1 v2 v3 v4 : Value} (h0 : ρ x0 = v0) (h1 : ρ x1 = v1) (h2 : ρ x2 = v2) (h3 : ρ x3 = v3) (h4 : ρ x4 = v4) : #[x0, x1, x2, x3, x4].map ρ = #[v0, v1, v2, v3, v4] := by simp [h0, h1, h2, h3, h4]
theorem map8 {x0 x1 x2 x3 x4 x5 x6 x7 : Operand} {v0 v1 v2 v3 v4 v5 v6 v7 : Value} (h0 : ρ x0 = v0) (h1 : ρ x1 = v1) (h2 : ρ x2 = v2) (h3 : ρ x3 = v3) (h4 : ρ x4 = v4) (h5 : ρ x5 = v5) (h6 : ρ x6 = v6) (h7 : ρ x7 = v7) : #[x0, x1, x2, x3, x4, x5, x6, x7].map ρ = #[v0, v1, v2, v3, v4, v5, v6, v7] := by simp [h0, h1, h2, h3, h4, h5, h6, h7]
end
end
end Go.Proofs.YtjnplglnnamfdaaDoor
namespace Go.Proofs.YtjnplglnnamfdaaDoor
section
open Go.RowKit
set_option linter.unusedVariables false
set_option linter.unusedSimpArgs false
/-- an edit -/
abbrev EdD := Int × Int × ByteArray
def cellsE (e : EdD) : List Value := [.int .i64 e.1, .int .i64 e.2.1, .string e.2.2]
theorem eds_snoc (l : List EdD) (e : EdD) : l.flatMap cellsE ++ cellsE e = (l ++ [e]).flatMap cellsE := by simp
theorem Tryd.infoEdit : (Tryd.prog.info? 99).map (fun i => (i.zero, i.size, i.bytes)) = some (some (.agg #[.int .i64 0, .int .i64 0, .string ByteArray.empty]), 3, 32) := by kernel_rfl
def EdsPost (l : List EdD) (w : World) (e : Ending) (w' : World) : Prop := ∃ A c, e = .returned (.slice A l.length c) ∧ w'.ownsRow w.heap.size 99 3 (.slice A l.length c) l.length (l.flatMap cellsE) ∧ Ext w w'
def bgL (n tb : Int) : List EdD := [(n, -1, ⟨#[1]⟩), (n, 0, putS tb 2)]
theorem tb_le (a b n1 n2 : Int) (ho : Bool) (rs : List Val) : (tbytesF a b n1 n2 ho rs).size ≤ 309 := by
  cases h : trightF a b n1 n2 rs with
  | true => rw [tb_size h]; have := vbytes_size rs; omega
  | false => rw [tbytesF, h]; show 0 ≤ 309; decide
/-- the lowest free slot, from 1, where the item fits, or 0 -/
def roomI (v : PV) (s : ByteArray) : Int := if v.ok then (if putErr v.k v.l (v.its.map Prod.fst) (freeF v.k v.l (v.its.map Prod.fst) 1) s = 0 then freeF v.k v.l (v.its.map Prod.fst) 1 else 0) else 0
theorem pvits_len {v : PV} : (v.its.map Prod.fst).length = v.its.length := List.length_map ..
theorem hfree_any (v : PV) (A : Option Addr) (c : Nat) (w : World) (h : v.wf) (hA : At w A (strs v.its)) : Calls Tryd.prog 66 #[.agg #[.int .i64 v.k, .int .i64 v.l, .slice A v.its.length c], .int .i64 1] w (Ret (.int .i64 (freeF v.k v.l (v.its.map Prod.fst) 1)) w) := by
  have := free_any v.k v.l A c (v.its.map Prod.fst) 1 w (by rw [← strs_map]; exact hA) (PV.small h)
  rw [pvits_len] at this
  exact this
theorem hput_ok (v : PV) (A : Option Addr) (c : Nat) (slot : Int) (s : ByteArray) (w : World) (h : v.wf) (hA : At w A (strs v.its)) (hs : s.size ≤ 400) (hp : putErr v.k v.l (v.its.map Prod.fst) slot s = 0) :
    Calls Tryd.prog 67 #[.agg #[.int .i64 v.k, .int .i64 v.l, .slice A v.its.length c], .int .i64 slot, .string s] w (PgPost v.k v.l (plainL (withL (v.its.map Prod.fst) slot.toNat s)) 0 w) := by
  have h2 := put_any v.k v.l A _ c (v.its.map Prod.fst) slot s w rfl (by rw [← strs_map]; exact hA) (PV.small h) (by omega)
  rw [PutPost, if_pos hp, pvits_len] at h2
  exact h2
theorem hput_bad (v : PV) (A : Option Addr) (c : Nat) (slot : Int) (s : ByteArray) (w : World) (h : v.wf) (hA : At w A (strs v.its)) (hs : s.size ≤ 400) (hp : putErr v.k v.l (v.its.map Prod.fst) slot s ≠ 0) :
    Calls Tryd.prog 67 #[.agg #[.int .i64 v.k, .int .i64 v.l, .slice A v.its.length c], .int .i64 slot, .string s] w (PgPost 0 0 [] (putErr v.k v.l (v.its.map Prod.fst) slot s) w) := by
  have h2 := put_any v.k v.l A _ c (v.its.map Prod.fst) slot s w rfl (by rw [← strs_map]; exact hA) (PV.small h) (by omega)
  rw [PutPost, if_neg hp, pvits_len] at h2
  exact h2
/-- the first of the pages of the table where the item fits, with the slot -/
def insP (pv : Int → PV) (tb : Int) (s : ByteArray) : List Int → Option (Int × Int)
  | [] => none
  | n :: l => if (hdF (pv n) && ofF (pv n) == tb) && decide (0 < roomI (pv n) s) then some (n, roomI (pv n) s) else insP pv tb s l
theorem insP_at {pv : Int → PV} {tb : Int} {s : ByteArray} {ns : List Int} {k : Nat} (h : k < ns.length) : insP pv tb s (ns.drop k) = if (hdF (pv (ns.getD k 0)) && ofF (pv (ns.getD k 0)) == tb) && decide (0 < roomI (pv (ns.getD k 0)) s) then some (ns.getD k 0, roomI (pv (ns.getD k 0)) s) else insP pv tb s (ns.drop (k + 1)) := by
  rw [List.drop_eq_getElem_cons h, insP, List.getD_eq_getElem?_getD, List.getElem?_eq_getElem h, Option.getD_some]
def insR (pv : Int → PV) (fresh tb : Int) (ns : List Int) (s : ByteArray) : (Int × Int) × List EdD × Int :=
  match insP pv tb s ns with
  | some q => (q, [(q.1, q.2, s)], 0)
  | none => if fresh < 0 then ((0, 0), [], 23) else ((fresh, 1), bgL fresh tb ++ [(fresh, 1, s)], 0)
def insBad (s : ByteArray) (fresh tb : Int) : Bool := (((s.toList == (⟨#[]⟩ : ByteArray).toList) || (decide (tb < 0))) || (decide (65535 < tb))) || (decide (400 ≤ fresh))
def insA (pv : Int → PV) (fresh tb : Int) (ns : List Int) (s : ByteArray) : (Int × Int) × List EdD × Int := if insBad s fresh tb then ((0, 0), [], 1) else insR pv fresh tb ns s
def InsPost (R : (Int × Int) × List EdD × Int) (w : World) (e : Ending) (w' : World) : Prop := ∃ A c, e = .returned (.tuple #[.agg #[.int .i64 R.1.1, .int .i64 R.1.2], .slice A R.2.1.length c, .int .i64 R.2.2]) ∧
  w'.ownsRow w.heap.size 99 3 (.slice A R.2.1.length c) R.2.1.length (R.2.1.flatMap cellsE) ∧ Ext w w'
theorem InsPost.of {R : (Int × Int) × List EdD × Int} {w w' : World} {a1 a2 er : Int} {A : Option Addr} {c n : Nat} {l : List EdD} {xs : List Value} (h : R = ((a1, a2), l, er)) (hn : n = l.length) (hxs : xs = l.flatMap cellsE) (ho : w'.ownsRow w.heap.size 99 3 (.slice A n c) n xs) (hx : Ext w w') :
    InsPost R w (.returned (.tuple #[.agg #[.int .i64 a1, .int .i64 a2], .slice A n c, .int .i64 er])) w' := by
  subst hn hxs h
  exact ⟨A, c, rfl, ho, hx⟩
theorem InsPost.nil {R : (Int × Int) × List EdD × Int} {w w' : World} {a1 a2 er : Int} (h : R = ((a1, a2), [], er)) (hx : Ext w w') :
    InsPost R w (.returned (.tuple #[.agg #[.int .i64 a1, .int .i64 a2], .slice none 0 0, .int .i64 er])) w' := InsPost.of h rfl rfl (World.ownsRow_nil _ _ _ _) hx
set_option maxRecDepth 100000 in
set_option maxHeartbeats 2000000 in
theorem hbegin_any (n tb : Int) (w : World) :
    Calls Tryd.prog 33 #[.int .i64 n, .int .i64 tb] w (EdsPost (bgL n tb) w) := by
  go_enter Tryd.func33, Tryd.ntmps33
  have hst0 := St.start w
  refine wp_seq (wp_region_P [0] [.k 4 (.slice none 0 0)] [(4, 0, 1, 5)] hst0 fun W1 hst1 => ?_)
  refine then_normal (wp_seq (wp_region_Y [0, 0, 2, 7, 0, 0, 32, 112, 255, 511] [[], [], [0]] [[], [0], [], [], [], [], [], [], [1]] [] [.k 5 (vi n), .a 6, .c 7 (.string (strOfNums ([1]))), .k 8 (.agg #[vi n, vi (-1), .string (strOfNums ([1]))]), .k 9 (vi n), .k 10 (vi tb), .c 11 (.string (putS tb 2)), .k 12 (.agg #[vi n, vi 0, .string (putS tb 2)]), .a 13, .a 4] (fun ix σ β X => match ix with | 0 => True | 1 => σ 6 = .slice (sA (β 6)) 1 1 ∧ X 0 = eO 5 1 (.slice (sA (β 6)) 1 1) 1 ([.int .u8 1]) | 2 => True | 3 => True | 4 => True | 5 => True | 6 => True | 7 => True | 8 => σ 13 = .slice ((some ⟨(pb' (β 13)), 0, none⟩)) 2 2 ∧ X 1 = eO 99 3 (.slice ((some ⟨(pb' (β 13)), 0, none⟩)) 2 2) 2 ([vi n, vi (-1), .string (strOfNums ([1])), vi n, vi 0, .string (putS tb 2)]) | 9 => σ 4 = .slice ((some ⟨(pb' (β 13)), 0, none⟩)) 2 2 | _ => True) [0, 1] [1, 2, 6, 8, 9] [(4, 9, 1, 5), (0, 0, 9, 9)] hst1 ?_ ?_ ?_))
  · exact fun ix _ _ _ _ _ _ hs hb hx h => match ix, h with
    | 1, h => by dsimp only at h ⊢; rw [← hs 6 rfl, ← hb 6 rfl, ← hx 0 rfl]; exact h
    | 8, h => by dsimp only at h ⊢; rw [← hs 13 rfl, ← hb 13 rfl, ← hx 1 rfl]; exact h
    | 9, h => by dsimp only at h ⊢; rw [← hs 4 rfl, ← hb 13 rfl]; exact h
    | 0, _ | 2, _ | 3, _ | 4, _ | 5, _ | 6, _ | 7, _ | _ + 10, _ => trivial
  · refine ⟨?_, ?_, ?_, ?_, ?_, trivial⟩
    · refine sv_any rfl rfl fun ρ β W X cx => ?_
      exact dv_lit (e := 5) (xs := [.int .u8 1]) rfl (by simp [go_sem, cx.sees.const]) rfl (by decide) rfl rfl (fun σ β' X' hs hb hv hx => ⟨hv, hx⟩)
    · exact xs4 rfl id fun cx => run_convB (e := 5) rfl (by kernel_rfl) (by kernel_rfl) (by kernel_rfl) (dTn (cx.an 1)).1 (cx.row (dTn (cx.an 1)).2 rfl)
    · exact xsc rfl id rfl rfl fun cx => ⟨_, oput2_any tb _, (map2 (cx.an 5) (cx.co _))⟩
    · refine sv_any rfl rfl fun ρ β W X cx => ?_
      have fF8 : ρ (.tmp 8) = .agg #[vi n, vi (-1), .string (strOfNums ([1]))] := (cx.an 3)
      have fF12 : ρ (.tmp 12) = .agg #[vi n, vi 0, .string (putS tb 2)] := (cx.an 7)
      exact dv_litN (e := 99) (sz := 3) (xs := [vi n, vi (-1), .string (strOfNums ([1])), vi n, vi 0, .string (putS tb 2)]) rfl (by simp [go_sem, fF8, fF12]) rfl (by decide) rfl rfl (fun σ β' X' hs hb hv hx => ⟨hv, hx⟩)
    · exact sv rfl rfl rfl rfl rfl _ (fun _ _ _ h => h) (fun β β' h => by rw [h 13 (by decide)]) fun ρ β W X cx => run_assign' rfl (dTn (cx.an 8)).1
  intro σ β X W2 hD hst2 fr hfr
  obtain ⟨A6_2, hu_A6_2⟩ : ∃ z, sA (β 6) = z := ⟨_, rfl⟩
  obtain ⟨B13_2, hu_B13_2⟩ : ∃ z, pb' (β 13) = z := ⟨_, rfl⟩
  simp only [exq 0 ((dTn (hD 1 lq)).2), exq 1 ((dTn (hD 8 lq)).2), hu_A6_2, hu_B13_2] at hst2
  simp only [ed 6 ((dTn (hD 1 lq)).1), ed 13 ((dTn (hD 8 lq)).1), ed 4 ((dTn (hD 9 lq))), hu_A6_2, hu_B13_2] at hfr
  clear hD hu_A6_2 hu_B13_2; subst hfr; clear σ β X
  refine then_normal (wp_ret ?_)
  refine bodyPost_ret (v := .slice ((some ⟨B13_2, 0, none⟩)) 2 2) (results_tmp Tryd.results33 rfl) rfl ?_
  exact ⟨_, _, rfl, hst2.own' 1 rfl, hst2.ext⟩
set_option maxRecDepth 100000 in
set_option maxHeartbeats 2000000 in
theorem hnone_any  (w : World) :
    Calls Tryd.prog 38 #[] w (Ret (.agg #[.int .i64 (-1), .int .i64 0]) w) := by
  go_enter Tryd.func38, Tryd.ntmps38
  have hst0 := St.start w
  refine wp_seq (wp_region_Y [0] [] [[0]] [] [.a 0] (fun ix σ β X => match ix with | 0 => σ 0 = vp (pb (β 0)) ∧ X 0 = eB (pb (β 0)) 24 #[vi 0, vi 0] | _ => True) [0] [0] [(0, 0, 1, 1)] hst0 ?_ ?_ ?_)
  · exact fun ix _ _ _ _ _ _ hs hb hx h => match ix, h with
    | 0, h => by dsimp only at h ⊢; rw [← hs 0 rfl, ← hb 0 rfl, ← hx 0 rfl]; exact h
    | _ + 1, _ => trivial
  · refine ⟨?_, trivial⟩
    · refine sv_any rfl rfl fun ρ β W X cx => ?_
      exact dv_alloc (cs := #[vi 0, vi 0]) rfl (by kernel_rfl) rfl rfl (fun σ β' X' hs hb hv hx => ⟨hv, hx⟩)
  intro σ β X W1 hD hst1 fr hfr
  obtain ⟨B0_1, hu_B0_1⟩ : ∃ z, pb (β 0) = z := ⟨_, rfl⟩
  simp only [exq 0 ((dTn (hD 0 lq)).2), hu_B0_1] at hst1
  simp only [ed 0 ((dTn (hD 0 lq)).1), hu_B0_1] at hfr
  clear hD hu_B0_1; subst hfr; clear σ β X
  refine then_normal (wp_seq (wp_region_Y [0, 1] [[], [0]] [[], [1]] [[], [0]] [.k 1 (.agg #[vi (-1), vi 0]), .n] (fun ix σ β X => match ix with | 0 => True | 1 => X 1 = eB B0_1 24 #[vi (-1), vi 0] | _ => True) [1] [1] [(1, 0, 1, 2)] hst1 ?_ ?_ ?_))
  · exact fun ix _ _ _ _ _ _ hs hb hx h => match ix, h with
    | 1, h => by dsimp only at h ⊢; rw [← hx 1 rfl]; exact h
    | 0, _ | _ + 2, _ => trivial
  · refine ⟨?_, trivial⟩
    · refine sv_any rfl rfl fun ρ β W X cx => ?_
      exact dv_store (n := 2) rfl (cx.ou 0) (cx.an 0) (by kernel_rfl) (by kernel_rfl) (by kernel_rfl) cx (cx.init 0 _ rfl) rfl (nle rfl) (by kernel_rfl) rfl rfl rfl (fun σ β' X' hs hb hx => hx)
  intro σ β X W2 hD hst2 fr hfr
  simp only [exq 1 ((dTn (hD 1 lq)))] at hst2
  clear hD; subst hfr; clear σ β X
  refine then_normal (wp_ret ?_)
  refine bodyPost_ret (v := .agg #[vi (-1), vi 0]) (results_cell (n := 2) Tryd.results38 rfl (by kernel_rfl) (by kernel_rfl) (hst2.blk 0 rfl) rfl) rfl ?_
  exact Ret.of rfl hst2.ext
set_option maxRecDepth 100000 in
set_option maxHeartbeats 2000000 in
theorem hring_any (x : Int) (w : World) :
    Calls Tryd.prog 39 #[.int .i64 x] w (Ret (.bool (onF x)) w) := by
  go_enter Tryd.func39, Tryd.ntmps39
  have hst0 := St.start w
  refine wp_seq (wp_region_P [0] [.k 2 (.bool false)] [(2, 0, 1, 3)] hst0 fun W1 hst1 => ?_)
  refine then_normal (wp_seq (wp_region_P [0, 1, 3, 7, 15, 31, 63] [.k 3 (vi x), .k 4 (.bool (decide (3 ≤ x))), .k 5 (.bool (decide (3 ≤ x))), .z 6 (decide (3 ≤ x)) (vi x), .z 7 (decide (3 ≤ x)) (.bool (decide (x < 128))), tA 8 (decide (3 ≤ x)) (decide (x < 128)), .k 2 (.bool ((decide (3 ≤ x)) && (decide (x < 128))))] [(2, 6, 1, 3), (0, 0, 6, 6)] hst1 fun W2 hst2 => ?_))
  refine then_normal (wp_ret ?_)
  refine bodyPost_ret (v := .bool ((decide (3 ≤ x)) && (decide (x < 128)))) (results_tmp Tryd.results39 rfl) rfl ?_
  exact Ret.bool rfl hst2.ext
set_option maxRecDepth 100000 in
set_option maxHeartbeats 2000000 in
theorem hget_any (tt : TypeId) (tv : Value) (pv : Int → PV) (n j : Int) (w : World) (hS : PgsOk w tt tv pv) (hN : NoneAt w) :
    Calls Tryd.prog 11 #[.iface tt (tv), .agg #[.int .i64 n, .int .i64 j]] w (VerAt (atF (pv n) j) w) := by
  obtain ⟨f0, rv, hM, hC, hG⟩ := hS.ex
  have hwf := hS.wf n
  have hwl := hwf.1
  go_enter Tryd.func11, Tryd.ntmps11
  have hst0 := St.start w
  refine wp_seq (wp_region_Y [0, 0, 0] [] [[0], [1]] [] [.a 3, .a 4, .k 5 (.bool false)] (fun ix σ β X => match ix with | 0 => σ 3 = vp (pb (β 3)) ∧ X 0 = eB (pb (β 3)) 24 #[vi n, vi j] | 1 => σ 4 = vp (pb (β 4)) ∧ X 1 = eB (pb (β 4)) 41 #[vi 0, vi 0, vi 0, vi 0, .bool false, .slice none 0 0] | _ => True) [0, 1] [0, 1] [(3, 0, 3, 6)] hst0 ?_ ?_ ?_)
  · exact fun ix _ _ _ _ _ _ hs hb hx h => match ix, h with
    | 0, h => by dsimp only at h ⊢; rw [← hs 3 rfl, ← hb 3 rfl, ← hx 0 rfl]; exact h
    | 1, h => by dsimp only at h ⊢; rw [← hs 4 rfl, ← hb 4 rfl, ← hx 1 rfl]; exact h
    | _ + 2, _ => trivial
  · refine ⟨?_, ?_, trivial⟩
    · refine sv_any rfl rfl fun ρ β W X cx => ?_
      exact dv_box (cs := #[vi n, vi j]) rfl (cx.ou 1) rfl rfl rfl (fun σ β' X' hs hb hv hx => ⟨hv, hx⟩)
    · refine sv_any rfl rfl fun ρ β W X cx => ?_
      exact dv_alloc (cs := #[vi 0, vi 0, vi 0, vi 0, .bool false, .slice none 0 0]) rfl (by kernel_rfl) rfl rfl (fun σ β' X' hs hb hv hx => ⟨hv, hx⟩)
  intro σ β X W1 hD hst1 fr hfr
  obtain ⟨B3_1, hu_B3_1⟩ : ∃ z, pb (β 3) = z := ⟨_, rfl⟩
  obtain ⟨B4_1, hu_B4_1⟩ : ∃ z, pb (β 4) = z := ⟨_, rfl⟩
  simp only [exq 0 ((dTn (hD 0 lq)).2), exq 1 ((dTn (hD 1 lq)).2), hu_B3_1, hu_B4_1] at hst1
  simp only [ed 3 ((dTn (hD 0 lq)).1), ed 4 ((dTn (hD 1 lq)).1), hu_B3_1, hu_B4_1] at hfr
  clear hD hu_B3_1 hu_B4_1; subst hfr; clear σ β X
  refine then_normal (wp_seq (wp_seq (wp_region_Z [0, 0, 2, 7, 15, 31, 31, 63, 255] [[], [], [0]] [.k 13 (.iface tt (tv)), .k 14 (vp B3_1), .c 15 (vi n), .c 16 (.tuple #[vi ((ofF (pv n))), .bool ((hdF (pv n)))]), .k 12 (.tuple #[vi ((ofF (pv n))), .bool ((hdF (pv n)))]), .k 17 (vi ((ofF (pv n)))), .k 18 (.bool ((hdF (pv n)))), .k 6 (vi ((ofF (pv n)))), .k 7 (.bool ((hdF (pv n))))] [0, 1] [2, 3] [(6, 7, 2, 8), (4, 4, 1, 5), (0, 0, 4, 4), (0, 5, 2, 2)] hst1 ?_ fun W2 hst2 => ?_)))
  · refine ⟨?_, ?_, trivial⟩
    · exact xs4 rfl id fun cx => run_load1 rfl (by kernel_rfl) (cx.an 1) ((cx.bi 0 rfl).cell 0)
    · exact xsc rfl id rfl rfl fun cx => ⟨_, of_any _ _ pv n _ (hS.ext cx.upd.to_ext), (map2 (cx.an 0) (cx.an 2))⟩
  refine then_normal (wp_seq (wp_region_Z [0, 1, 3, 7, 15, 31, 63] [[], [], [], [], [0]] [.k 19 (.bool ((hdF (pv n)))), .k 20 (.bool (!((hdF (pv n))))), .k 21 (.bool (!((hdF (pv n))))), .z 22 (!(!((hdF (pv n))))) (.pointer (some ⟨B3_1, 1, none⟩)), .y 23 (!(!((hdF (pv n))))) (vi j), .z 24 (!(!((hdF (pv n))))) (.bool (decide (j < 1))), tO 25 (!((hdF (pv n)))) (decide (j < 1))] [0, 1] [4] [(19, 0, 7, 26)] hst2 ?_ fun W3 hst3 => ?_))
  · refine ⟨?_, trivial⟩
    · exact m2 rfl (fun _ _ _ h => h) (fun cx => (cx.an 2)) fun cx hq => run_load1 rfl (by kernel_rfl) (mbv (cx.an 3) hq) ((cx.bi 0 rfl).cell 1)
  refine then_normal ?_
  rcases Bool.eq_false_or_eq_true ((!((hdF (pv n)))) || (decide (j < 1))) with hs4 | hs4
  · skip
    have hs4p := hs4
    simp only [zB] at hs4p
    refine wp_cond_true (show Act.eval _ _ = .bool true from (congrArg Value.bool hs4)) (wp_seq (wp_region_Y [0, 1, 3] [[], [1]] [[], [2]] [[], [1]] [.k 26 (.agg #[vi 0, vi 0, vi 0, vi 0, .bool false, .slice none 0 0]), .n, .k 5 (.bool false)] (fun ix σ β X => match ix with | 0 => True | 1 => X 2 = eB B4_1 41 #[vi 0, vi 0, vi 0, vi 0, .bool false, .slice none 0 0] | _ => True) [0, 2] [1] [(5, 2, 1, 6), (20, 0, 1, 21)] hst3 ?_ ?_ ?_))
    · exact fun ix _ _ _ _ _ _ hs hb hx h => match ix, h with
      | 1, h => by dsimp only at h ⊢; rw [← hx 2 rfl]; exact h
      | 0, _ | _ + 2, _ => trivial
    · refine ⟨?_, trivial⟩
      · refine sv_any rfl rfl fun ρ β W X cx => ?_
        exact dv_store (n := 6) rfl (cx.ou 4) (cx.an 0) (by kernel_rfl) (by kernel_rfl) (by kernel_rfl) cx (cx.init 1 _ rfl) rfl (nle rfl) (by kernel_rfl) rfl rfl rfl (fun σ β' X' hs hb hx => hx)
    intro σ β X W5 hD hst5 fr hfr
    simp only [exq 2 ((dTn (hD 1 lq)))] at hst5
    clear hD; subst hfr; clear σ β X
    refine then_normal (wp_ret (then_ret ?_))
    have hr6 : W5.cell? ⟨B4_1, 0, none⟩ = some (vi 0) := (hst5.blk 1 rfl).cell 0
    have hr7 : W5.cell? ⟨B4_1, 1, none⟩ = some (vi 0) := (hst5.blk 1 rfl).cell 1
    have hr8 : W5.cell? ⟨B4_1, 2, none⟩ = some (vi 0) := (hst5.blk 1 rfl).cell 2
    have hr9 : W5.cell? ⟨B4_1, 3, none⟩ = some (vi 0) := (hst5.blk 1 rfl).cell 3
    have hr10 : W5.cell? ⟨B4_1, 4, none⟩ = some (.bool false) := (hst5.blk 1 rfl).cell 4
    have hr11 : W5.cell? ⟨B4_1, 5, none⟩ = some (.slice none 0 0) := (hst5.blk 1 rfl).cell 5
    refine bodyPost_ret (v := .tuple #[.agg #[vi 0, vi 0, vi 0, vi 0, .bool false, .slice none 0 0], .bool false]) (by simp [results, Tryd.results11, go_sem, hr6, hr7, hr8, hr9, hr10, hr11]) rfl ?_
    have hat : atF (pv n) j = none := by rw [atF, if_neg (by rintro ⟨a_, b_, c_⟩; have d_ := (tbF_hd (pv n)).1 a_; first | (simp_all; done) | (simp_all; omega))]
    rw [hat]
    exact ⟨none, 0, rfl, World.ownsRow_nil _ _ _ _, hst5.ext⟩
  have hs4p := hs4
  simp only [zB] at hs4p
  obtain ⟨hs4p1, hs4p2⟩ := hs4p
  refine wp_cond_false (show Act.eval _ _ = .bool false from (congrArg Value.bool hs4)) (wp_skip (then_normal (wp_seq (wp_region_Y [0, 0, 2, 7, 15, 31, 31, 0, 191, 511] [[], [], [0], [], [], [], [], [], [3]] [[], [], [], [2], [], [], [], [3], [4]] [[], [], [], [], [], [], [], [], [3]] [.k 28 (.iface tt (tv)), .k 29 (vp B3_1), .c 30 (vi n), .a 31, .a 27, .a 32, .c 33 (.bool ((pv n).ok)), .a 8, .n, .k 9 (.bool ((pv n).ok))] (fun ix σ β X => match ix with | 0 => True | 1 => True | 2 => True | 3 => σ 31 = .tuple #[.agg #[vi ((pv n).k), vi ((pv n).l), .slice (sA (tg (tg (β 31) 0) 2)) ((pv n).its.length) (sC (tg (tg (β 31) 0) 2))], .bool ((pv n).ok)] ∧ X 2 = eO 9 1 (.slice (sA (tg (tg (β 31) 0) 2)) ((pv n).its.length) (sC (tg (tg (β 31) 0) 2))) ((pv n).its.length) (strs (pv n).its) | 4 => σ 27 = .tuple #[.agg #[vi ((pv n).k), vi ((pv n).l), .slice (sA (tg (tg (β 31) 0) 2)) ((pv n).its.length) (sC (tg (tg (β 31) 0) 2))], .bool ((pv n).ok)] | 5 => σ 32 = .agg #[vi ((pv n).k), vi ((pv n).l), .slice (sA (tg (tg (β 31) 0) 2)) ((pv n).its.length) (sC (tg (tg (β 31) 0) 2))] | 6 => True | 7 => σ 8 = vp (pb (β 8)) ∧ X 3 = eB (pb (β 8)) 86 #[vi 0, vi 0, .slice none 0 0] | 8 => X 4 = eB (pb (β 8)) 86 #[vi ((pv n).k), vi ((pv n).l), .slice (sA (tg (tg (β 31) 0) 2)) ((pv n).its.length) (sC (tg (tg (β 31) 0) 2))] | _ => True) [0, 1, 2, 4] [2, 3, 4, 5, 6, 7, 8] [(8, 7, 3, 10), (17, 4, 1, 18), (0, 0, 4, 4), (0, 5, 2, 2)] hst3 ?_ ?_ ?_))))
  · exact fun ix _ _ _ _ _ _ hs hb hx h => match ix, h with
    | 3, h => by dsimp only at h ⊢; rw [← hs 31 rfl, ← hb 31 rfl, ← hx 2 rfl]; exact h
    | 4, h => by dsimp only at h ⊢; rw [← hs 27 rfl, ← hb 31 rfl]; exact h
    | 5, h => by dsimp only at h ⊢; rw [← hs 32 rfl, ← hb 31 rfl]; exact h
    | 7, h => by dsimp only at h ⊢; rw [← hs 8 rfl, ← hb 8 rfl, ← hx 3 rfl]; exact h
    | 8, h => by dsimp only at h ⊢; rw [← hb 8 rfl, ← hb 31 rfl, ← hx 4 rfl]; exact h
    | 0, _ | 1, _ | 2, _ | 6, _ | _ + 9, _ => trivial
  · refine ⟨?_, ?_, ?_, ?_, ?_, ?_, ?_, trivial⟩
    · exact xs4 rfl id fun cx => run_load1 rfl (by kernel_rfl) (cx.an 1) ((cx.bi 0 rfl).cell 0)
    · refine sv_any rfl rfl fun ρ β W X cx => ?_
      refine DoesU.call (run_invoke (args := #[vi n]) (args' := #[rv, vi n]) rfl rfl (cx.an 0) hM hC (map1 (cx.an 2)) rfl) ?_
      refine (hG _ n cx.upd.to_ext).mono ?_
      rintro e W1 ⟨A4, c4, rfl, ho, hx⟩
      refine ⟨_, rfl, post_call [eO 9 1 (.slice A4 (pv n).its.length c4) (pv n).its.length (strs (pv n).its)] rfl rfl hx (one_new (eO_new ho)) (List.pairwise_singleton _ _) (fun σ β' X' hs hb hv hN => ?_)⟩
      have hv1 := (hv 31 rfl).1; have hv2 := (hv 31 rfl).2
      exact ⟨hv1.trans (by rw [hv2]; rfl), (by rw [hv2]; exact (List.cons.inj hN).1)⟩
    · exact sv rfl rfl rfl rfl rfl _ (fun _ _ _ h => h) (fun β β' h => by rw [h 31 (by decide)]) fun ρ β W X cx => run_move' rfl (dTn (cx.an 3)).1
    · exact sv rfl rfl rfl rfl rfl _ (fun _ _ _ h => h) (fun β β' h => by rw [h 31 (by decide)]) fun ρ β W X cx => run_extract' rfl (dTn (cx.an 4)) rfl
    · exact xs4 rfl id fun cx => run_extract' rfl (dTn (cx.an 4)) rfl
    · refine sv_any rfl rfl fun ρ β W X cx => ?_
      exact dv_alloc (cs := #[vi 0, vi 0, .slice none 0 0]) rfl (by kernel_rfl) rfl rfl (fun σ β' X' hs hb hv hx => ⟨hv, hx⟩)
    · refine sv_any rfl rfl fun ρ β W X cx => ?_
      exact dv_store (n := 3) rfl (dTn (cx.an 7)).1 (dTn (cx.an 5)) (by kernel_rfl) (by kernel_rfl) (by kernel_rfl) cx (dTn (cx.an 7)).2 rfl (nle rfl) (by kernel_rfl) rfl rfl rfl (fun σ β' X' hs hb hx => by rw [hb 8, hb 31]; exact hx)
  intro σ β X W12 hD hst12 fr hfr
  obtain ⟨A31_12, hu_A31_12⟩ : ∃ z, sA (tg (tg (β 31) 0) 2) = z := ⟨_, rfl⟩
  obtain ⟨c31_12, hu_c31_12⟩ : ∃ z, sC (tg (tg (β 31) 0) 2) = z := ⟨_, rfl⟩
  obtain ⟨B8_12, hu_B8_12⟩ : ∃ z, pb (β 8) = z := ⟨_, rfl⟩
  simp only [exq 2 ((dTn (hD 3 lq)).2), exq 4 ((dTn (hD 8 lq))), hu_A31_12, hu_c31_12, hu_B8_12] at hst12
  simp only [ed 31 ((dTn (hD 3 lq)).1), ed 27 ((dTn (hD 4 lq))), ed 32 ((dTn (hD 5 lq))), ed 8 ((dTn (hD 7 lq)).1), hu_A31_12, hu_c31_12, hu_B8_12] at hfr
  clear hD hu_A31_12 hu_c31_12 hu_B8_12; subst hfr; clear σ β X
  refine then_normal (wp_seq (wp_seq (wp_region_Z [0, 1, 0, 4, 12, 31] [[], [0], [], [3]] [.k 34 (.pointer (some ⟨B3_1, 1, none⟩)), .c 35 (vi j), .k 36 (.pointer (some ⟨B8_12, 2, none⟩)), .c 37 (.slice A31_12 ((pv n).its.length) c31_12), .k 38 (vi (((pv n).its.length : Int))), .k 39 (.bool (decide (((pv n).its.length : Int) ≤ j)))] [0, 1, 2, 3] [1, 3] [(34, 0, 6, 40)] hst12 ?_ fun W13 hst13 => ?_)))
  · refine ⟨?_, ?_, trivial⟩
    · exact xs4 rfl id fun cx => run_load1 rfl (by kernel_rfl) (cx.an 0) ((cx.bi 0 rfl).cell 1)
    · exact xs4 rfl id fun cx => run_load1 rfl (by kernel_rfl) (cx.an 2) ((cx.bi 3 rfl).cell 2)
  refine then_normal ?_
  rcases Bool.eq_false_or_eq_true (decide (((pv n).its.length : Int) ≤ j)) with hs14 | hs14
  · skip
    have hs14p : ((pv n).its.length : Int) ≤ j := by simpa using hs14
    refine wp_cond_true (show Act.eval _ _ = .bool true from (congrArg Value.bool hs14)) (wp_seq (wp_region_Y [0, 1, 3] [[], [1]] [[], [4]] [[], [1]] [.k 40 (.agg #[vi 0, vi 0, vi 0, vi 0, .bool false, .slice none 0 0]), .n, .k 5 (.bool false)] (fun ix σ β X => match ix with | 0 => True | 1 => X 4 = eB B4_1 41 #[vi 0, vi 0, vi 0, vi 0, .bool false, .slice none 0 0] | _ => True) [0, 2, 3, 4] [1] [(5, 2, 1, 6), (34, 0, 1, 35)] hst13 ?_ ?_ ?_))
    · exact fun ix _ _ _ _ _ _ hs hb hx h => match ix, h with
      | 1, h => by dsimp only at h ⊢; rw [← hx 4 rfl]; exact h
      | 0, _ | _ + 2, _ => trivial
    · refine ⟨?_, trivial⟩
      · refine sv_any rfl rfl fun ρ β W X cx => ?_
        exact dv_store (n := 6) rfl (cx.ou 4) (cx.an 0) (by kernel_rfl) (by kernel_rfl) (by kernel_rfl) cx (cx.init 1 _ rfl) rfl (nle rfl) (by kernel_rfl) rfl rfl rfl (fun σ β' X' hs hb hx => hx)
    intro σ β X W15 hD hst15 fr hfr
    simp only [exq 4 ((dTn (hD 1 lq)))] at hst15
    clear hD; subst hfr; clear σ β X
    refine then_normal (wp_ret (then_ret ?_))
    have hr16 : W15.cell? ⟨B4_1, 0, none⟩ = some (vi 0) := (hst15.blk 3 rfl).cell 0
    have hr17 : W15.cell? ⟨B4_1, 1, none⟩ = some (vi 0) := (hst15.blk 3 rfl).cell 1
    have hr18 : W15.cell? ⟨B4_1, 2, none⟩ = some (vi 0) := (hst15.blk 3 rfl).cell 2
    have hr19 : W15.cell? ⟨B4_1, 3, none⟩ = some (vi 0) := (hst15.blk 3 rfl).cell 3
    have hr20 : W15.cell? ⟨B4_1, 4, none⟩ = some (.bool false) := (hst15.blk 3 rfl).cell 4
    have hr21 : W15.cell? ⟨B4_1, 5, none⟩ = some (.slice none 0 0) := (hst15.blk 3 rfl).cell 5
    refine bodyPost_ret (v := .tuple #[.agg #[vi 0, vi 0, vi 0, vi 0, .bool false, .slice none 0 0], .bool false]) (by simp [results, Tryd.results11, go_sem, hr16, hr17, hr18, hr19, hr20, hr21]) rfl ?_
    have hat : atF (pv n) j = none := by rw [atF, if_neg (by rintro ⟨a_, b_, c_⟩; have d_ := (tbF_hd (pv n)).1 a_; first | (simp_all; done) | (simp_all; omega))]
    rw [hat]
    exact ⟨none, 0, rfl, World.ownsRow_nil _ _ _ _, hst15.ext⟩
  have hs14p : ¬ (((pv n).its.length : Int) ≤ j) := by simpa using hs14
  refine wp_cond_false (show Act.eval _ _ = .bool false from (congrArg Value.bool hs14)) (wp_skip (then_normal (wp_seq ?_)))
  obtain ⟨J, rfl⟩ : ∃ J : Nat, j = (J : Int) := ⟨j.toNat, by omega⟩
  have hdj := PV.desc hwf (j := J) (by omega)
  refine wp_region_Y [0, 1, 0, 4, 15, 31, 63, 127, 255, 255, 0, 1535, 4095] [[], [3], [], [0], [2], [2], [], [], [], [], [], [5]] [[], [], [], [], [], [], [4], [], [], [], [5], [6]] [[], [], [], [], [], [], [], [], [], [], [], [5]] [.k 42 (.pointer (some ⟨B8_12, 2, none⟩)), .c 43 (.slice A31_12 ((pv n).its.length) c31_12), .k 44 (.pointer (some ⟨B3_1, 1, none⟩)), .c 45 (vi (J : Int)), .c 46 (.pointer (some ((ad A31_12).add J))), .c 47 (.string (((pv n).its.getD J it0).1)), .a 48, .a 41, .a 49, .c 50 (vi ((eD ((pv n).its.getD J it0).2))), .a 10, .n, .k 11 (vi ((eD ((pv n).its.getD J it0).2)))] (fun ix σ β X => match ix with | 0 => True | 1 => True | 2 => True | 3 => True | 4 => True | 5 => True | 6 => σ 48 = .tuple #[.agg #[vi ((vD ((pv n).its.getD J it0).2).1), vi ((vD ((pv n).its.getD J it0).2).2.1), vi ((vD ((pv n).its.getD J it0).2).2.2.1), vi ((vD ((pv n).its.getD J it0).2).2.2.2.1), .bool ((vD ((pv n).its.getD J it0).2).2.2.2.2.1), .slice (sA (tg (tg (β 48) 0) 5)) ((vD ((pv n).its.getD J it0).2).2.2.2.2.2.length) (sC (tg (tg (β 48) 0) 5))], vi ((eD ((pv n).its.getD J it0).2))] ∧ X 4 = eO 82 3 (.slice (sA (tg (tg (β 48) 0) 5)) ((vD ((pv n).its.getD J it0).2).2.2.2.2.2.length) (sC (tg (tg (β 48) 0) 5))) ((vD ((pv n).its.getD J it0).2).2.2.2.2.2.length) (flatR (vD ((pv n).its.getD J it0).2).2.2.2.2.2) | 7 => σ 41 = .tuple #[.agg #[vi ((vD ((pv n).its.getD J it0).2).1), vi ((vD ((pv n).its.getD J it0).2).2.1), vi ((vD ((pv n).its.getD J it0).2).2.2.1), vi ((vD ((pv n).its.getD J it0).2).2.2.2.1), .bool ((vD ((pv n).its.getD J it0).2).2.2.2.2.1), .slice (sA (tg (tg (β 48) 0) 5)) ((vD ((pv n).its.getD J it0).2).2.2.2.2.2.length) (sC (tg (tg (β 48) 0) 5))], vi ((eD ((pv n).its.getD J it0).2))] | 8 => σ 49 = .agg #[vi ((vD ((pv n).its.getD J it0).2).1), vi ((vD ((pv n).its.getD J it0).2).2.1), vi ((vD ((pv n).its.getD J it0).2).2.2.1), vi ((vD ((pv n).its.getD J it0).2).2.2.2.1), .bool ((vD ((pv n).its.getD J it0).2).2.2.2.2.1), .slice (sA (tg (tg (β 48) 0) 5)) ((vD ((pv n).its.getD J it0).2).2.2.2.2.2.length) (sC (tg (tg (β 48) 0) 5))] | 9 => True | 10 => σ 10 = vp (pb (β 10)) ∧ X 5 = eB (pb (β 10)) 41 #[vi 0, vi 0, vi 0, vi 0, .bool false, .slice none 0 0] | 11 => X 6 = eB (pb (β 10)) 41 #[vi ((vD ((pv n).its.getD J it0).2).1), vi ((vD ((pv n).its.getD J it0).2).2.1), vi ((vD ((pv n).its.getD J it0).2).2.2.1), vi ((vD ((pv n).its.getD J it0).2).2.2.2.1), .bool ((vD ((pv n).its.getD J it0).2).2.2.2.2.1), .slice (sA (tg (tg (β 48) 0) 5)) ((vD ((pv n).its.getD J it0).2).2.2.2.2.2.length) (sC (tg (tg (β 48) 0) 5))] | _ => True) [0, 1, 2, 3, 4, 6] [1, 3, 4, 5, 6, 7, 8, 9, 10, 11] [(10, 10, 3, 12), (29, 7, 1, 30), (0, 0, 7, 7), (0, 8, 2, 2)] hst13 ?_ ?_ ?_
  · exact fun ix _ _ _ _ _ _ hs hb hx h => match ix, h with
    | 6, h => by dsimp only at h ⊢; rw [← hs 48 rfl, ← hb 48 rfl, ← hx 4 rfl]; exact h
    | 7, h => by dsimp only at h ⊢; rw [← hs 41 rfl, ← hb 48 rfl]; exact h
    | 8, h => by dsimp only at h ⊢; rw [← hs 49 rfl, ← hb 48 rfl]; exact h
    | 10, h => by dsimp only at h ⊢; rw [← hs 10 rfl, ← hb 10 rfl, ← hx 5 rfl]; exact h
    | 11, h => by dsimp only at h ⊢; rw [← hb 10 rfl, ← hb 48 rfl, ← hx 6 rfl]; exact h
    | 0, _ | 1, _ | 2, _ | 3, _ | 4, _ | 5, _ | 9, _ | _ + 12, _ => trivial
  · refine ⟨?_, ?_, ?_, ?_, ?_, ?_, ?_, ?_, ?_, ?_, trivial⟩
    · exact xs4 rfl id fun cx => run_load1 rfl (by kernel_rfl) (cx.an 0) ((cx.bi 3 rfl).cell 2)
    · exact xs4 rfl id fun cx => run_load1 rfl (by kernel_rfl) (cx.an 2) ((cx.bi 0 rfl).cell 1)
    · exact xs4 rfl id fun cx => run_indexSl (e := 9) (m := J) rfl (by kernel_rfl) (by kernel_rfl) (cx.an 1) (cx.an 3) (by omega) (by omega) (At.of_own (cx.ri 2 rfl)) (strs_len _)
    · exact xs4 rfl id fun cx => run_load1 rfl (by kernel_rfl) (cx.an 4) (At.cellAd (At.of_own (cx.ri 2 rfl)) (getD_strs (by omega)))
    · refine sv_any rfl rfl fun ρ β W X cx => ?_
      refine DoesU.call (run_callF (args := #[.string (((pv n).its.getD J it0).1)]) rfl cx.sees rfl (by kernel_rfl) (map1 (cx.an 5))) ?_
      refine (tread_desc _ hdj (hN.ext cx.upd.to_ext)).mono ?_
      rintro e W1 ⟨A4, c4, rfl, ho, hx⟩
      refine ⟨_, rfl, post_call [eO 82 3 (.slice A4 (vD ((pv n).its.getD J it0).2).2.2.2.2.2.length c4) (vD ((pv n).its.getD J it0).2).2.2.2.2.2.length (flatR (vD ((pv n).its.getD J it0).2).2.2.2.2.2)] rfl rfl hx (one_new (eO_new ho)) (List.pairwise_singleton _ _) (fun σ β' X' hs hb hv hN => ?_)⟩
      have hv1 := (hv 48 rfl).1; have hv2 := (hv 48 rfl).2
      exact ⟨hv1.trans (by rw [hv2]; rfl), (by rw [hv2]; exact (List.cons.inj hN).1)⟩
    · exact sv rfl rfl rfl rfl rfl _ (fun _ _ _ h => h) (fun β β' h => by rw [h 48 (by decide)]) fun ρ β W X cx => run_move' rfl (dTn (cx.an 6)).1
    · exact sv rfl rfl rfl rfl rfl _ (fun _ _ _ h => h) (fun β β' h => by rw [h 48 (by decide)]) fun ρ β W X cx => run_extract' rfl (dTn (cx.an 7)) rfl
    · exact xs4 rfl id fun cx => run_extract' rfl (dTn (cx.an 7)) rfl
    · refine sv_any rfl rfl fun ρ β W X cx => ?_
      exact dv_alloc (cs := #[vi 0, vi 0, vi 0, vi 0, .bool false, .slice none 0 0]) rfl (by kernel_rfl) rfl rfl (fun σ β' X' hs hb hv hx => ⟨hv, hx⟩)
    · refine sv_any rfl rfl fun ρ β W X cx => ?_
      exact dv_store (n := 6) rfl (dTn (cx.an 10)).1 (dTn (cx.an 8)) (by kernel_rfl) (by kernel_rfl) (by kernel_rfl) cx (dTn (cx.an 10)).2 rfl (nle rfl) (by kernel_rfl) rfl rfl rfl (fun σ β' X' hs hb hx => by rw [hb 10, hb 48]; exact hx)
  intro σ β X W22 hD hst22 fr hfr
  obtain ⟨A48_22, hu_A48_22⟩ : ∃ z, sA (tg (tg (β 48) 0) 5) = z := ⟨_, rfl⟩
  obtain ⟨c48_22, hu_c48_22⟩ : ∃ z, sC (tg (tg (β 48) 0) 5) = z := ⟨_, rfl⟩
  obtain ⟨B10_22, hu_B10_22⟩ : ∃ z, pb (β 10) = z := ⟨_, rfl⟩
  simp only [exq 4 ((dTn (hD 6 lq)).2), exq 6 ((dTn (hD 11 lq))), hu_A48_22, hu_c48_22, hu_B10_22] at hst22
  simp only [ed 48 ((dTn (hD 6 lq)).1), ed 41 ((dTn (hD 7 lq))), ed 49 ((dTn (hD 8 lq))), ed 10 ((dTn (hD 10 lq)).1), hu_A48_22, hu_c48_22, hu_B10_22] at hfr
  clear hD hu_A48_22 hu_c48_22 hu_B10_22; subst hfr; clear σ β X
  refine then_normal (wp_seq (wp_region_Y [0, 0, 2, 1, 15] [[5], [], [], [1]] [[], [], [], [6]] [[], [], [], [1]] [.c 51 (.agg #[vi ((vD ((pv n).its.getD J it0).2).1), vi ((vD ((pv n).its.getD J it0).2).2.1), vi ((vD ((pv n).its.getD J it0).2).2.2.1), vi ((vD ((pv n).its.getD J it0).2).2.2.2.1), .bool ((vD ((pv n).its.getD J it0).2).2.2.2.2.1), .slice A48_22 ((vD ((pv n).its.getD J it0).2).2.2.2.2.2.length) c48_22]), .k 52 (vi ((eD ((pv n).its.getD J it0).2))), .k 53 (.bool ((eD ((pv n).its.getD J it0).2) == 0)), .n, .k 5 (.bool ((eD ((pv n).its.getD J it0).2) == 0))] (fun ix σ β X => match ix with | 0 => True | 1 => True | 2 => True | 3 => X 6 = eB B4_1 41 #[vi ((vD ((pv n).its.getD J it0).2).1), vi ((vD ((pv n).its.getD J it0).2).2.1), vi ((vD ((pv n).its.getD J it0).2).2.2.1), vi ((vD ((pv n).its.getD J it0).2).2.2.2.1), .bool ((vD ((pv n).its.getD J it0).2).2.2.2.2.1), .slice A48_22 ((vD ((pv n).its.getD J it0).2).2.2.2.2.2.length) c48_22] | _ => True) [0, 2, 3, 4, 5, 6] [0, 3] [(5, 4, 1, 6), (45, 0, 3, 48)] hst22 ?_ ?_ ?_))
  · exact fun ix _ _ _ _ _ _ hs hb hx h => match ix, h with
    | 3, h => by dsimp only at h ⊢; rw [← hx 6 rfl]; exact h
    | 0, _ | 1, _ | 2, _ | _ + 4, _ => trivial
  · refine ⟨?_, ?_, trivial⟩
    · exact xs4 rfl id fun cx => run_loadB (n := 6) rfl (by kernel_rfl) (by kernel_rfl) (cx.ou 10) (cx.bi 5 rfl) (nle rfl) rfl
    · refine sv_any rfl rfl fun ρ β W X cx => ?_
      exact dv_store (n := 6) rfl (cx.ou 4) (cx.an 0) (by kernel_rfl) (by kernel_rfl) (by kernel_rfl) cx (cx.init 1 _ rfl) rfl (nle rfl) (by kernel_rfl) rfl rfl rfl (fun σ β' X' hs hb hx => hx)
  intro σ β X W23 hD hst23 fr hfr
  simp only [exq 6 ((dTn (hD 3 lq)))] at hst23
  clear hD; subst hfr; clear σ β X
  refine then_normal (wp_ret ?_)
  have hr24 : W23.cell? ⟨B4_1, 0, none⟩ = some (vi ((vD ((pv n).its.getD J it0).2).1)) := (hst23.blk 5 rfl).cell 0
  have hr25 : W23.cell? ⟨B4_1, 1, none⟩ = some (vi ((vD ((pv n).its.getD J it0).2).2.1)) := (hst23.blk 5 rfl).cell 1
  have hr26 : W23.cell? ⟨B4_1, 2, none⟩ = some (vi ((vD ((pv n).its.getD J it0).2).2.2.1)) := (hst23.blk 5 rfl).cell 2
  have hr27 : W23.cell? ⟨B4_1, 3, none⟩ = some (vi ((vD ((pv n).its.getD J it0).2).2.2.2.1)) := (hst23.blk 5 rfl).cell 3
  have hr28 : W23.cell? ⟨B4_1, 4, none⟩ = some (.bool ((vD ((pv n).its.getD J it0).2).2.2.2.2.1)) := (hst23.blk 5 rfl).cell 4
  have hr29 : W23.cell? ⟨B4_1, 5, none⟩ = some (.slice A48_22 ((vD ((pv n).its.getD J it0).2).2.2.2.2.2.length) c48_22) := (hst23.blk 5 rfl).cell 5
  refine bodyPost_ret (v := .tuple #[.agg #[vi ((vD ((pv n).its.getD J it0).2).1), vi ((vD ((pv n).its.getD J it0).2).2.1), vi ((vD ((pv n).its.getD J it0).2).2.2.1), vi ((vD ((pv n).its.getD J it0).2).2.2.2.1), .bool ((vD ((pv n).its.getD J it0).2).2.2.2.2.1), .slice A48_22 ((vD ((pv n).its.getD J it0).2).2.2.2.2.2.length) c48_22], .bool ((eD ((pv n).its.getD J it0).2) == 0)]) (by simp [results, Tryd.results11, go_sem, hr24, hr25, hr26, hr27, hr28, hr29]) rfl ?_
  have hat : atF (pv n) (J : Int) = ((pv n).its.getD J it0).2 := by rw [atF, if_pos ⟨(tbF_hd (pv n)).2 (by simp_all), by omega, by omega⟩]; rfl
  rw [hat]
  exact ⟨_, _, by rw [eD_some], hst23.own' 3 rfl, hst23.ext⟩
set_option maxRecDepth 100000 in
set_option maxHeartbeats 2000000 in
theorem hroomi_any (tt : TypeId) (tv : Value) (pv : Int → PV) (n : Int) (s : ByteArray) (w : World) (hS : PgsOk w tt tv pv) (hs400 : s.size ≤ 400) :
    Calls Tryd.prog 32 #[.iface tt (tv), .int .i64 n, .string s] w (Ret (.int .i64 (roomI (pv n) s)) w) := by
  obtain ⟨f0, rv, hM, hC, hG⟩ := hS.ex
  have hwf := hS.wf n
  have hwl := hwf.1
  go_enter Tryd.func32, Tryd.ntmps32
  have hst0 := St.start w
  refine wp_seq (wp_region_P [0] [.k 6 (vi 0)] [(6, 0, 1, 7)] hst0 fun W1 hst1 => ?_)
  refine then_normal (wp_seq (wp_region_Y [0, 0, 3, 7, 15, 15, 0, 95, 255] [[], [], [], [], [], [], [], [1]] [[], [], [0], [], [], [], [1], [2]] [[], [], [], [], [], [], [], [1]] [.k 13 (.iface tt (tv)), .k 14 (vi n), .a 15, .a 12, .a 16, .c 17 (.bool ((pv n).ok)), .a 7, .n, .k 8 (.bool ((pv n).ok))] (fun ix σ β X => match ix with | 0 => True | 1 => True | 2 => σ 15 = .tuple #[.agg #[vi ((pv n).k), vi ((pv n).l), .slice (sA (tg (tg (β 15) 0) 2)) ((pv n).its.length) (sC (tg (tg (β 15) 0) 2))], .bool ((pv n).ok)] ∧ X 0 = eO 9 1 (.slice (sA (tg (tg (β 15) 0) 2)) ((pv n).its.length) (sC (tg (tg (β 15) 0) 2))) ((pv n).its.length) (strs (pv n).its) | 3 => σ 12 = .tuple #[.agg #[vi ((pv n).k), vi ((pv n).l), .slice (sA (tg (tg (β 15) 0) 2)) ((pv n).its.length) (sC (tg (tg (β 15) 0) 2))], .bool ((pv n).ok)] | 4 => σ 16 = .agg #[vi ((pv n).k), vi ((pv n).l), .slice (sA (tg (tg (β 15) 0) 2)) ((pv n).its.length) (sC (tg (tg (β 15) 0) 2))] | 5 => True | 6 => σ 7 = vp (pb (β 7)) ∧ X 1 = eB (pb (β 7)) 86 #[vi 0, vi 0, .slice none 0 0] | 7 => X 2 = eB (pb (β 7)) 86 #[vi ((pv n).k), vi ((pv n).l), .slice (sA (tg (tg (β 15) 0) 2)) ((pv n).its.length) (sC (tg (tg (β 15) 0) 2))] | _ => True) [0, 2] [2, 3, 4, 5, 6, 7] [(7, 6, 3, 9), (3, 3, 1, 4), (0, 0, 3, 3), (0, 4, 2, 2)] hst1 ?_ ?_ ?_))
  · exact fun ix _ _ _ _ _ _ hs hb hx h => match ix, h with
    | 2, h => by dsimp only at h ⊢; rw [← hs 15 rfl, ← hb 15 rfl, ← hx 0 rfl]; exact h
    | 3, h => by dsimp only at h ⊢; rw [← hs 12 rfl, ← hb 15 rfl]; exact h
    | 4, h => by dsimp only at h ⊢; rw [← hs 16 rfl, ← hb 15 rfl]; exact h
    | 6, h => by dsimp only at h ⊢; rw [← hs 7 rfl, ← hb 7 rfl, ← hx 1 rfl]; exact h
    | 7, h => by dsimp only at h ⊢; rw [← hb 7 rfl, ← hb 15 rfl, ← hx 2 rfl]; exact h
    | 0, _ | 1, _ | 5, _ | _ + 8, _ => trivial
  · refine ⟨?_, ?_, ?_, ?_, ?_, ?_, trivial⟩
    · refine sv_any rfl rfl fun ρ β W X cx => ?_
      refine DoesU.call (run_invoke (args := #[vi n]) (args' := #[rv, vi n]) rfl rfl (cx.an 0) hM hC (map1 (cx.an 1)) rfl) ?_
      refine (hG _ n cx.upd.to_ext).mono ?_
      rintro e W1 ⟨A4, c4, rfl, ho, hx⟩
      refine ⟨_, rfl, post_call [eO 9 1 (.slice A4 (pv n).its.length c4) (pv n).its.length (strs (pv n).its)] rfl rfl hx (one_new (eO_new ho)) (List.pairwise_singleton _ _) (fun σ β' X' hs hb hv hN => ?_)⟩
      have hv1 := (hv 15 rfl).1; have hv2 := (hv 15 rfl).2
      exact ⟨hv1.trans (by rw [hv2]; rfl), (by rw [hv2]; exact (List.cons.inj hN).1)⟩
    · exact sv rfl rfl rfl rfl rfl _ (fun _ _ _ h => h) (fun β β' h => by rw [h 15 (by decide)]) fun ρ β W X cx => run_move' rfl (dTn (cx.an 2)).1
    · exact sv rfl rfl rfl rfl rfl _ (fun _ _ _ h => h) (fun β β' h => by rw [h 15 (by decide)]) fun ρ β W X cx => run_extract' rfl (dTn (cx.an 3)) rfl
    · exact xs4 rfl id fun cx => run_extract' rfl (dTn (cx.an 3)) rfl
    · refine sv_any rfl rfl fun ρ β W X cx => ?_
      exact dv_alloc (cs := #[vi 0, vi 0, .slice none 0 0]) rfl (by kernel_rfl) rfl rfl (fun σ β' X' hs hb hv hx => ⟨hv, hx⟩)
    · refine sv_any rfl rfl fun ρ β W X cx => ?_
      exact dv_store (n := 3) rfl (dTn (cx.an 6)).1 (dTn (cx.an 4)) (by kernel_rfl) (by kernel_rfl) (by kernel_rfl) cx (dTn (cx.an 6)).2 rfl (nle rfl) (by kernel_rfl) rfl rfl rfl (fun σ β' X' hs hb hx => by rw [hb 7, hb 15]; exact hx)
  intro σ β X W2 hD hst2 fr hfr
  obtain ⟨A15_2, hu_A15_2⟩ : ∃ z, sA (tg (tg (β 15) 0) 2) = z := ⟨_, rfl⟩
  obtain ⟨c15_2, hu_c15_2⟩ : ∃ z, sC (tg (tg (β 15) 0) 2) = z := ⟨_, rfl⟩
  obtain ⟨B7_2, hu_B7_2⟩ : ∃ z, pb (β 7) = z := ⟨_, rfl⟩
  simp only [exq 0 ((dTn (hD 2 lq)).2), exq 2 ((dTn (hD 7 lq))), hu_A15_2, hu_c15_2, hu_B7_2] at hst2
  simp only [ed 15 ((dTn (hD 2 lq)).1), ed 12 ((dTn (hD 3 lq))), ed 16 ((dTn (hD 4 lq))), ed 7 ((dTn (hD 6 lq)).1), hu_A15_2, hu_c15_2, hu_B7_2] at hfr
  clear hD hu_A15_2 hu_c15_2 hu_B7_2; subst hfr; clear σ β X
  refine then_normal (wp_seq (wp_seq (wp_region_P [0, 1] [.k 18 (.bool ((pv n).ok)), .k 19 (.bool (!((pv n).ok)))] [(18, 0, 2, 20)] hst2 fun W3 hst3 => ?_)))
  refine then_normal ?_
  rcases Bool.eq_false_or_eq_true ((pv n).ok) with hs4 | hs4
  · skip
    refine wp_cond_false (show Act.eval _ _ = .bool false from (congrArg Value.bool (by rw [hs4]; rfl))) (wp_skip (then_normal (wp_seq (wp_region_Z [0, 1, 3] [[1], [0]] [.c 20 (.agg #[vi ((pv n).k), vi ((pv n).l), .slice A15_2 ((pv n).its.length) c15_2]), .c 21 (vi ((freeF (pv n).k (pv n).l ((pv n).its.map Prod.fst) 1))), .k 9 (vi ((freeF (pv n).k (pv n).l ((pv n).its.map Prod.fst) 1)))] [0, 1] [0, 1] [(9, 2, 1, 10), (10, 0, 2, 12)] hst3 ?_ fun W5 hst5 => ?_))))
    · refine ⟨?_, ?_, trivial⟩
      · exact xs4 rfl id fun cx => run_loadB (n := 3) rfl (by kernel_rfl) (by kernel_rfl) (cx.ou 7) (cx.bi 1 rfl) (nle rfl) rfl
      · exact xsc rfl id rfl rfl fun cx => ⟨_, hfree_any (pv n) _ _ _ hwf (At.of_own (cx.ri 0 rfl)), (map2 (cx.an 0) (cx.co _))⟩
    refine then_normal (wp_seq (wp_seq ?_))
    rcases Decidable.em ((putErr (pv n).k (pv n).l ((pv n).its.map Prod.fst) (freeF (pv n).k (pv n).l ((pv n).its.map Prod.fst) 1) s) = 0) with hpe | hpe
    · skip
      refine wp_region_Y [0, 0, 0, 7, 15, 31, 31, 0, 191, 511] [[1], [], [], [0], [], [], [], [], [3]] [[], [], [], [2], [], [], [], [3], [4]] [[], [], [], [], [], [], [], [], [3]] [.c 23 (.agg #[vi ((pv n).k), vi ((pv n).l), .slice A15_2 ((pv n).its.length) c15_2]), .k 24 (vi ((freeF (pv n).k (pv n).l ((pv n).its.map Prod.fst) 1))), .k 25 (.string s), .a 26, .a 22, .a 27, .c 28 (vi 0), .a 10, .n, .k 11 (vi 0)] (fun ix σ β X => match ix with | 0 => True | 1 => True | 2 => True | 3 => σ 26 = .tuple #[.agg #[vi ((pv n).k), vi ((pv n).l), .slice (sA (tg (tg (β 26) 0) 2)) ((plainL (withL ((pv n).its.map Prod.fst) (freeF (pv n).k (pv n).l ((pv n).its.map Prod.fst) 1).toNat s)).length) (sC (tg (tg (β 26) 0) 2))], vi 0] ∧ X 2 = eO 9 1 (.slice (sA (tg (tg (β 26) 0) 2)) ((plainL (withL ((pv n).its.map Prod.fst) (freeF (pv n).k (pv n).l ((pv n).its.map Prod.fst) 1).toNat s)).length) (sC (tg (tg (β 26) 0) 2))) ((plainL (withL ((pv n).its.map Prod.fst) (freeF (pv n).k (pv n).l ((pv n).its.map Prod.fst) 1).toNat s)).length) ((plainL (withL ((pv n).its.map Prod.fst) (freeF (pv n).k (pv n).l ((pv n).its.map Prod.fst) 1).toNat s)).map Value.string) | 4 => σ 22 = .tuple #[.agg #[vi ((pv n).k), vi ((pv n).l), .slice (sA (tg (tg (β 26) 0) 2)) ((plainL (withL ((pv n).its.map Prod.fst) (freeF (pv n).k (pv n).l ((pv n).its.map Prod.fst) 1).toNat s)).length) (sC (tg (tg (β 26) 0) 2))], vi 0] | 5 => σ 27 = .agg #[vi ((pv n).k), vi ((pv n).l), .slice (sA (tg (tg (β 26) 0) 2)) ((plainL (withL ((pv n).its.map Prod.fst) (freeF (pv n).k (pv n).l ((pv n).its.map Prod.fst) 1).toNat s)).length) (sC (tg (tg (β 26) 0) 2))] | 6 => True | 7 => σ 10 = vp (pb (β 10)) ∧ X 3 = eB (pb (β 10)) 86 #[vi 0, vi 0, .slice none 0 0] | 8 => X 4 = eB (pb (β 10)) 86 #[vi ((pv n).k), vi ((pv n).l), .slice (sA (tg (tg (β 26) 0) 2)) ((plainL (withL ((pv n).its.map Prod.fst) (freeF (pv n).k (pv n).l ((pv n).its.map Prod.fst) 1).toNat s)).length) (sC (tg (tg (β 26) 0) 2))] | _ => True) [0, 1, 2, 4] [0, 3, 4, 5, 6, 7, 8] [(10, 7, 3, 12), (10, 4, 1, 11), (0, 0, 4, 4), (0, 5, 2, 2)] hst5 ?_ ?_ ?_
      · exact fun ix _ _ _ _ _ _ hs hb hx h => match ix, h with
        | 3, h => by dsimp only at h ⊢; rw [← hs 26 rfl, ← hb 26 rfl, ← hx 2 rfl]; exact h
        | 4, h => by dsimp only at h ⊢; rw [← hs 22 rfl, ← hb 26 rfl]; exact h
        | 5, h => by dsimp only at h ⊢; rw [← hs 27 rfl, ← hb 26 rfl]; exact h
        | 7, h => by dsimp only at h ⊢; rw [← hs 10 rfl, ← hb 10 rfl, ← hx 3 rfl]; exact h
        | 8, h => by dsimp only at h ⊢; rw [← hb 10 rfl, ← hb 26 rfl, ← hx 4 rfl]; exact h
        | 0, _ | 1, _ | 2, _ | 6, _ | _ + 9, _ => trivial
      · refine ⟨?_, ?_, ?_, ?_, ?_, ?_, ?_, trivial⟩
        · exact xs4 rfl id fun cx => run_loadB (n := 3) rfl (by kernel_rfl) (by kernel_rfl) (cx.ou 7) (cx.bi 1 rfl) (nle rfl) rfl
        · refine sv_any rfl rfl fun ρ β W X cx => ?_
          refine DoesU.call (run_callF (args := #[.agg #[vi ((pv n).k), vi ((pv n).l), .slice A15_2 ((pv n).its.length) c15_2], vi ((freeF (pv n).k (pv n).l ((pv n).its.map Prod.fst) 1)), .string s]) rfl cx.sees rfl (by kernel_rfl) (map3 (cx.an 0) (cx.an 1) (cx.an 2))) ?_
          refine (hput_ok (pv n) _ _ (freeF (pv n).k (pv n).l ((pv n).its.map Prod.fst) 1) s _ hwf (At.of_own (cx.ri 0 rfl)) hs400 hpe).mono ?_
          rintro e W1 ⟨A4, c4, rfl, ho, hx⟩
          refine ⟨_, rfl, post_call [eO 9 1 (.slice A4 (plainL (withL ((pv n).its.map Prod.fst) (freeF (pv n).k (pv n).l ((pv n).its.map Prod.fst) 1).toNat s)).length c4) (plainL (withL ((pv n).its.map Prod.fst) (freeF (pv n).k (pv n).l ((pv n).its.map Prod.fst) 1).toNat s)).length ((plainL (withL ((pv n).its.map Prod.fst) (freeF (pv n).k (pv n).l ((pv n).its.map Prod.fst) 1).toNat s)).map Value.string)] rfl rfl hx (one_new (eO_new ho)) (List.pairwise_singleton _ _) (fun σ β' X' hs hb hv hN => ?_)⟩
          have hv1 := (hv 26 rfl).1; have hv2 := (hv 26 rfl).2
          exact ⟨hv1.trans (by rw [hv2]; rfl), (by rw [hv2]; exact (List.cons.inj hN).1)⟩
        · exact sv rfl rfl rfl rfl rfl _ (fun _ _ _ h => h) (fun β β' h => by rw [h 26 (by decide)]) fun ρ β W X cx => run_move' rfl (dTn (cx.an 3)).1
        · exact sv rfl rfl rfl rfl rfl _ (fun _ _ _ h => h) (fun β β' h => by rw [h 26 (by decide)]) fun ρ β W X cx => run_extract' rfl (dTn (cx.an 4)) rfl
        · exact xs4 rfl id fun cx => run_extract' rfl (dTn (cx.an 4)) rfl
        · refine sv_any rfl rfl fun ρ β W X cx => ?_
          exact dv_alloc (cs := #[vi 0, vi 0, .slice none 0 0]) rfl (by kernel_rfl) rfl rfl (fun σ β' X' hs hb hv hx => ⟨hv, hx⟩)
        · refine sv_any rfl rfl fun ρ β W X cx => ?_
          exact dv_store (n := 3) rfl (dTn (cx.an 7)).1 (dTn (cx.an 5)) (by kernel_rfl) (by kernel_rfl) (by kernel_rfl) cx (dTn (cx.an 7)).2 rfl (nle rfl) (by kernel_rfl) rfl rfl rfl (fun σ β' X' hs hb hx => by rw [hb 10, hb 26]; exact hx)
      intro σ β X W6 hD hst6 fr hfr
      obtain ⟨A26_6, hu_A26_6⟩ : ∃ z, sA (tg (tg (β 26) 0) 2) = z := ⟨_, rfl⟩
      obtain ⟨c26_6, hu_c26_6⟩ : ∃ z, sC (tg (tg (β 26) 0) 2) = z := ⟨_, rfl⟩
      obtain ⟨B10_6, hu_B10_6⟩ : ∃ z, pb (β 10) = z := ⟨_, rfl⟩
      simp only [exq 2 ((dTn (hD 3 lq)).2), exq 4 ((dTn (hD 8 lq))), hu_A26_6, hu_c26_6, hu_B10_6] at hst6
      simp only [ed 26 ((dTn (hD 3 lq)).1), ed 22 ((dTn (hD 4 lq))), ed 27 ((dTn (hD 5 lq))), ed 10 ((dTn (hD 7 lq)).1), hu_A26_6, hu_c26_6, hu_B10_6] at hfr
      clear hD hu_A26_6 hu_c26_6 hu_B10_6; subst hfr; clear σ β X
      refine then_normal (wp_seq (wp_region_P [0, 1] [.k 29 (vi 0), .k 30 (.bool false)] [(29, 0, 2, 31)] hst6 fun W7 hst7 => ?_))
      refine then_normal (wp_cond_false (show Act.eval _ _ = .bool false from rfl) (wp_skip (then_normal (wp_seq (wp_region_P [0, 1] [.k 31 (vi ((freeF (pv n).k (pv n).l ((pv n).its.map Prod.fst) 1))), .k 6 (vi ((freeF (pv n).k (pv n).l ((pv n).its.map Prod.fst) 1)))] [(6, 1, 1, 7), (24, 0, 1, 25)] hst7 fun W8 hst8 => ?_)))))
      refine then_normal (wp_ret ?_)
      refine bodyPost_ret (v := vi ((freeF (pv n).k (pv n).l ((pv n).its.map Prod.fst) 1))) (results_tmp Tryd.results32 rfl) rfl ?_
      exact Ret.int (by rw [roomI, if_pos (by simp_all), if_pos hpe]) hst8.ext
    · skip
      refine wp_region_Y [0, 0, 0, 7, 15, 31, 31, 0, 191, 511] [[1], [], [], [0], [], [], [], [], [3]] [[], [], [], [2], [], [], [], [3], [4]] [[], [], [], [], [], [], [], [], [3]] [.c 23 (.agg #[vi ((pv n).k), vi ((pv n).l), .slice A15_2 ((pv n).its.length) c15_2]), .k 24 (vi ((freeF (pv n).k (pv n).l ((pv n).its.map Prod.fst) 1))), .k 25 (.string s), .a 26, .a 22, .a 27, .c 28 (vi ((putErr (pv n).k (pv n).l ((pv n).its.map Prod.fst) (freeF (pv n).k (pv n).l ((pv n).its.map Prod.fst) 1) s))), .a 10, .n, .k 11 (vi ((putErr (pv n).k (pv n).l ((pv n).its.map Prod.fst) (freeF (pv n).k (pv n).l ((pv n).its.map Prod.fst) 1) s)))] (fun ix σ β X => match ix with | 0 => True | 1 => True | 2 => True | 3 => σ 26 = .tuple #[.agg #[vi 0, vi 0, .slice (sA (tg (tg (β 26) 0) 2)) (([] : List ByteArray).length) (sC (tg (tg (β 26) 0) 2))], vi ((putErr (pv n).k (pv n).l ((pv n).its.map Prod.fst) (freeF (pv n).k (pv n).l ((pv n).its.map Prod.fst) 1) s))] ∧ X 2 = eO 9 1 (.slice (sA (tg (tg (β 26) 0) 2)) (([] : List ByteArray).length) (sC (tg (tg (β 26) 0) 2))) (([] : List ByteArray).length) (([] : List ByteArray).map Value.string) | 4 => σ 22 = .tuple #[.agg #[vi 0, vi 0, .slice (sA (tg (tg (β 26) 0) 2)) (([] : List ByteArray).length) (sC (tg (tg (β 26) 0) 2))], vi ((putErr (pv n).k (pv n).l ((pv n).its.map Prod.fst) (freeF (pv n).k (pv n).l ((pv n).its.map Prod.fst) 1) s))] | 5 => σ 27 = .agg #[vi 0, vi 0, .slice (sA (tg (tg (β 26) 0) 2)) (([] : List ByteArray).length) (sC (tg (tg (β 26) 0) 2))] | 6 => True | 7 => σ 10 = vp (pb (β 10)) ∧ X 3 = eB (pb (β 10)) 86 #[vi 0, vi 0, .slice none 0 0] | 8 => X 4 = eB (pb (β 10)) 86 #[vi 0, vi 0, .slice (sA (tg (tg (β 26) 0) 2)) (([] : List ByteArray).length) (sC (tg (tg (β 26) 0) 2))] | _ => True) [0, 1, 2, 4] [0, 3, 4, 5, 6, 7, 8] [(10, 7, 3, 12), (10, 4, 1, 11), (0, 0, 4, 4), (0, 5, 2, 2)] hst5 ?_ ?_ ?_
      · exact fun ix _ _ _ _ _ _ hs hb hx h => match ix, h with
        | 3, h => by dsimp only at h ⊢; rw [← hs 26 rfl, ← hb 26 rfl, ← hx 2 rfl]; exact h
        | 4, h => by dsimp only at h ⊢; rw [← hs 22 rfl, ← hb 26 rfl]; exact h
        | 5, h => by dsimp only at h ⊢; rw [← hs 27 rfl, ← hb 26 rfl]; exact h
        | 7, h => by dsimp only at h ⊢; rw [← hs 10 rfl, ← hb 10 rfl, ← hx 3 rfl]; exact h
        | 8, h => by dsimp only at h ⊢; rw [← hb 10 rfl, ← hb 26 rfl, ← hx 4 rfl]; exact h
        | 0, _ | 1, _ | 2, _ | 6, _ | _ + 9, _ => trivial
      · refine ⟨?_, ?_, ?_, ?_, ?_, ?_, ?_, trivial⟩
        · exact xs4 rfl id fun cx => run_loadB (n := 3) rfl (by kernel_rfl) (by kernel_rfl) (cx.ou 7) (cx.bi 1 rfl) (nle rfl) rfl
        · refine sv_any rfl rfl fun ρ β W X cx => ?_
          refine DoesU.call (run_callF (args := #[.agg #[vi ((pv n).k), vi ((pv n).l), .slice A15_2 ((pv n).its.length) c15_2], vi ((freeF (pv n).k (pv n).l ((pv n).its.map Prod.fst) 1)), .string s]) rfl cx.sees rfl (by kernel_rfl) (map3 (cx.an 0) (cx.an 1) (cx.an 2))) ?_
          refine (hput_bad (pv n) _ _ (freeF (pv n).k (pv n).l ((pv n).its.map Prod.fst) 1) s _ hwf (At.of_own (cx.ri 0 rfl)) hs400 hpe).mono ?_
          rintro e W1 ⟨A4, c4, rfl, ho, hx⟩
          refine ⟨_, rfl, post_call [eO 9 1 (.slice A4 (([] : List ByteArray).length) c4) (([] : List ByteArray).length) (([] : List ByteArray).map Value.string)] rfl rfl hx (one_new (eO_new ho)) (List.pairwise_singleton _ _) (fun σ β' X' hs hb hv hN => ?_)⟩
          have hv1 := (hv 26 rfl).1; have hv2 := (hv 26 rfl).2
          exact ⟨hv1.trans (by rw [hv2]; rfl), (by rw [hv2]; exact (List.cons.inj hN).1)⟩
        · exact sv rfl rfl rfl rfl rfl _ (fun _ _ _ h => h) (fun β β' h => by rw [h 26 (by decide)]) fun ρ β W X cx => run_move' rfl (dTn (cx.an 3)).1
        · exact sv rfl rfl rfl rfl rfl _ (fun _ _ _ h => h) (fun β β' h => by rw [h 26 (by decide)]) fun ρ β W X cx => run_extract' rfl (dTn (cx.an 4)) rfl
        · exact xs4 rfl id fun cx => run_extract' rfl (dTn (cx.an 4)) rfl
        · refine sv_any rfl rfl fun ρ β W X cx => ?_
          exact dv_alloc (cs := #[vi 0, vi 0, .slice none 0 0]) rfl (by kernel_rfl) rfl rfl (fun σ β' X' hs hb hv hx => ⟨hv, hx⟩)
        · refine sv_any rfl rfl fun ρ β W X cx => ?_
          exact dv_store (n := 3) rfl (dTn (cx.an 7)).1 (dTn (cx.an 5)) (by kernel_rfl) (by kernel_rfl) (by kernel_rfl) cx (dTn (cx.an 7)).2 rfl (nle rfl) (by kernel_rfl) rfl rfl rfl (fun σ β' X' hs hb hx => by rw [hb 10, hb 26]; exact hx)
      intro σ β X W9 hD hst9 fr hfr
      obtain ⟨A26_9, hu_A26_9⟩ : ∃ z, sA (tg (tg (β 26) 0) 2) = z := ⟨_, rfl⟩
      obtain ⟨c26_9, hu_c26_9⟩ : ∃ z, sC (tg (tg (β 26) 0) 2) = z := ⟨_, rfl⟩
      obtain ⟨B10_9, hu_B10_9⟩ : ∃ z, pb (β 10) = z := ⟨_, rfl⟩
      simp only [exq 2 ((dTn (hD 3 lq)).2), exq 4 ((dTn (hD 8 lq))), hu_A26_9, hu_c26_9, hu_B10_9] at hst9
      simp only [ed 26 ((dTn (hD 3 lq)).1), ed 22 ((dTn (hD 4 lq))), ed 27 ((dTn (hD 5 lq))), ed 10 ((dTn (hD 7 lq)).1), hu_A26_9, hu_c26_9, hu_B10_9] at hfr
      clear hD hu_A26_9 hu_c26_9 hu_B10_9; subst hfr; clear σ β X
      refine then_normal (wp_seq ?_)
      have hd11 : ((putErr (pv n).k (pv n).l ((pv n).its.map Prod.fst) (freeF (pv n).k (pv n).l ((pv n).its.map Prod.fst) 1) s) != 0) = true := (by simpa using hpe)
      refine wp_region_P [0, 1] [.k 29 (vi ((putErr (pv n).k (pv n).l ((pv n).its.map Prod.fst) (freeF (pv n).k (pv n).l ((pv n).its.map Prod.fst) 1) s))), .e 30 (.bool ((putErr (pv n).k (pv n).l ((pv n).its.map Prod.fst) (freeF (pv n).k (pv n).l ((pv n).its.map Prod.fst) 1) s) != 0)) (.bool true) (congrArg Value.bool hd11)] [(29, 0, 2, 31)] hst9 fun W10 hst10 => ?_
      refine then_normal (wp_cond_true (show Act.eval _ _ = .bool true from rfl) (wp_seq (wp_region_P [0] [.k 6 (vi 0)] [(6, 0, 1, 7)] hst10 fun W12 hst12 => ?_)))
      refine then_normal (wp_ret (then_ret ?_))
      refine bodyPost_ret (v := vi 0) (results_tmp Tryd.results32 rfl) rfl ?_
      exact Ret.int (by rw [roomI, if_pos (by simp_all), if_neg hpe]) hst12.ext
  refine wp_cond_true (show Act.eval _ _ = .bool true from (congrArg Value.bool (by rw [hs4]; rfl))) (wp_seq (wp_region_P [0] [.k 6 (vi 0)] [(6, 0, 1, 7)] hst3 fun W13 hst13 => ?_))
  refine then_normal (wp_ret (then_ret ?_))
  refine bodyPost_ret (v := vi 0) (results_tmp Tryd.results32 rfl) rfl ?_
  exact Ret.int (by rw [roomI, if_neg (by simp_all)]) hst13.ext
set_option maxRecDepth 100000 in
set_option maxHeartbeats 8000000 in
theorem hinsert_any (tt : TypeId) (tv : Value) (pv : Int → PV) (NA : Option Addr) (nc : Nat) (ns : List Int) (fresh tb : Int) (a b n1 n2 : Int) (ho : Bool) (RA : Option Addr) (rc : Nat) (rs : List Val) (w : World) (hS : PgsOk w tt tv pv) (hA : At w NA (ns.map (Value.int .i64))) (hnl : ns.length ≤ 100000) (hR : At w RA (flatR rs)) (hrl : rs.length ≤ 9223372036854775807) (hN : NoneAt w) :
    Calls Tryd.prog 9 #[.iface tt (tv), .slice NA ns.length nc, .int .i64 fresh, .int .i64 tb, .agg #[.int .i64 a, .int .i64 b, .int .i64 n1, .int .i64 n2, .bool ho, .slice RA rs.length rc]] w (InsPost (insA pv fresh tb ns (tbytesF a b n1 n2 ho rs)) w) := by
  go_enter Tryd.func9, Tryd.ntmps9
  have hst0 := St.start w
  refine wp_seq (wp_region_Y [0, 0, 0, 4] [] [[0], [1]] [] [.a 9, .a 10, .k 11 (.slice none 0 0), .k 12 (vi 0)] (fun ix σ β X => match ix with | 0 => σ 9 = vp (pb (β 9)) ∧ X 0 = eB (pb (β 9)) 41 #[vi a, vi b, vi n1, vi n2, .bool ho, .slice RA rs.length rc] | 1 => σ 10 = vp (pb (β 10)) ∧ X 1 = eB (pb (β 10)) 24 #[vi 0, vi 0] | _ => True) [0, 1] [0, 1] [(9, 0, 4, 13)] hst0 ?_ ?_ ?_)
  · exact fun ix _ _ _ _ _ _ hs hb hx h => match ix, h with
    | 0, h => by dsimp only at h ⊢; rw [← hs 9 rfl, ← hb 9 rfl, ← hx 0 rfl]; exact h
    | 1, h => by dsimp only at h ⊢; rw [← hs 10 rfl, ← hb 10 rfl, ← hx 1 rfl]; exact h
    | _ + 2, _ => trivial
  · refine ⟨?_, ?_, trivial⟩
    · refine sv_any rfl rfl fun ρ β W X cx => ?_
      exact dv_box (cs := #[vi a, vi b, vi n1, vi n2, .bool ho, .slice RA rs.length rc]) rfl (cx.ou 4) rfl rfl rfl (fun σ β' X' hs hb hv hx => ⟨hv, hx⟩)
    · refine sv_any rfl rfl fun ρ β W X cx => ?_
      exact dv_alloc (cs := #[vi 0, vi 0]) rfl (by kernel_rfl) rfl rfl (fun σ β' X' hs hb hv hx => ⟨hv, hx⟩)
  intro σ β X W1 hD hst1 fr hfr
  obtain ⟨B9_1, hu_B9_1⟩ : ∃ z, pb (β 9) = z := ⟨_, rfl⟩
  obtain ⟨B10_1, hu_B10_1⟩ : ∃ z, pb (β 10) = z := ⟨_, rfl⟩
  simp only [exq 0 ((dTn (hD 0 lq)).2), exq 1 ((dTn (hD 1 lq)).2), hu_B9_1, hu_B10_1] at hst1
  simp only [ed 9 ((dTn (hD 0 lq)).1), ed 10 ((dTn (hD 1 lq)).1), hu_B9_1, hu_B10_1] at hfr
  clear hD hu_B9_1 hu_B10_1; subst hfr; clear σ β X
  refine then_normal (wp_seq (wp_region_Z [0, 1, 3] [[0]] [.c 19 (.agg #[vi a, vi b, vi n1, vi n2, .bool ho, .slice RA rs.length rc]), .c 20 (.string (tbytesF a b n1 n2 ho rs)), .k 13 (.string (tbytesF a b n1 n2 ho rs))] [0, 1] [0, 1] [(13, 2, 1, 14), (5, 0, 2, 7)] hst1 ?_ fun W2 hst2 => ?_))
  · refine ⟨?_, ?_, trivial⟩
    · exact xs4 rfl id fun cx => run_loadB (n := 6) rfl (by kernel_rfl) (by kernel_rfl) (cx.ou 9) (cx.bi 0 rfl) (nle rfl) rfl
    · exact xsc rfl id rfl rfl fun cx => ⟨_, tbytes_any a b n1 n2 ho _ _ rs _ (hR.ext cx.upd.to_ext) (by first | omega | decide | (simp; done) | (simp; omega)) (hN.ext cx.upd.to_ext), (map1 (cx.an 0))⟩
  obtain ⟨s, hN_s⟩ : ∃ z, tbytesF a b n1 n2 ho rs = z := ⟨_, rfl⟩
  rw [hN_s]
  have hs309 : s.size ≤ 309 := by rw [← hN_s]; exact tb_le _ _ _ _ _ _
  refine then_normal (wp_seq (wp_seq (wp_region_P [0, 1, 3, 7, 15, 31, 63, 127, 255, 511, 1023, 2047, 4095, 8191] [.k 21 (.string (s)), .k 22 (.bool (s.toList == ((⟨#[]⟩ : ByteArray)).toList)), .k 23 (.bool (s.toList == ((⟨#[]⟩ : ByteArray)).toList)), .z 24 (!(s.toList == ((⟨#[]⟩ : ByteArray)).toList)) (vi tb), .z 25 (!(s.toList == ((⟨#[]⟩ : ByteArray)).toList)) (.bool (decide (tb < 0))), tO 26 (s.toList == ((⟨#[]⟩ : ByteArray)).toList) (decide (tb < 0)), .k 27 (.bool ((s.toList == ((⟨#[]⟩ : ByteArray)).toList) || (decide (tb < 0)))), .z 28 (!((s.toList == ((⟨#[]⟩ : ByteArray)).toList) || (decide (tb < 0)))) (vi tb), .z 29 (!((s.toList == ((⟨#[]⟩ : ByteArray)).toList) || (decide (tb < 0)))) (.bool (decide (65535 < tb))), tO 30 ((s.toList == ((⟨#[]⟩ : ByteArray)).toList) || (decide (tb < 0))) (decide (65535 < tb)), .k 31 (.bool (((s.toList == ((⟨#[]⟩ : ByteArray)).toList) || (decide (tb < 0))) || (decide (65535 < tb)))), .z 32 (!(((s.toList == ((⟨#[]⟩ : ByteArray)).toList) || (decide (tb < 0))) || (decide (65535 < tb)))) (vi fresh), .z 33 (!(((s.toList == ((⟨#[]⟩ : ByteArray)).toList) || (decide (tb < 0))) || (decide (65535 < tb)))) (.bool (decide (400 ≤ fresh))), tO 34 (((s.toList == ((⟨#[]⟩ : ByteArray)).toList) || (decide (tb < 0))) || (decide (65535 < tb))) (decide (400 ≤ fresh))] [(21, 0, 14, 35)] hst2 fun W3 hst3 => ?_)))
  refine then_normal ?_
  rcases Bool.eq_false_or_eq_true ((((s.toList == ((⟨#[]⟩ : ByteArray)).toList) || (decide (tb < 0))) || (decide (65535 < tb))) || (decide (400 ≤ fresh))) with hs4 | hs4
  · skip
    have hs4p := hs4
    simp only [zB] at hs4p
    refine wp_cond_true (show Act.eval _ _ = .bool true from (congrArg Value.bool hs4)) (wp_seq (wp_region_Y [0, 1, 3, 7] [[], [1]] [[], [2]] [[], [1]] [.k 35 (.agg #[vi 0, vi 0]), .n, .k 11 (.slice none 0 0), .k 12 (vi 1)] (fun ix σ β X => match ix with | 0 => True | 1 => X 2 = eB B10_1 24 #[vi 0, vi 0] | _ => True) [0, 2] [1] [(11, 2, 2, 13), (22, 0, 1, 23)] hst3 ?_ ?_ ?_))
    · exact fun ix _ _ _ _ _ _ hs hb hx h => match ix, h with
      | 1, h => by dsimp only at h ⊢; rw [← hx 2 rfl]; exact h
      | 0, _ | _ + 2, _ => trivial
    · refine ⟨?_, trivial⟩
      · refine sv_any rfl rfl fun ρ β W X cx => ?_
        exact dv_store (n := 2) rfl (cx.ou 10) (cx.an 0) (by kernel_rfl) (by kernel_rfl) (by kernel_rfl) cx (cx.init 1 _ rfl) rfl (nle rfl) (by kernel_rfl) rfl rfl rfl (fun σ β' X' hs hb hx => hx)
    intro σ β X W5 hD hst5 fr hfr
    simp only [exq 2 ((dTn (hD 1 lq)))] at hst5
    clear hD; subst hfr; clear σ β X
    refine then_normal (wp_ret (then_ret ?_))
    have hr6 : W5.cell? ⟨B10_1, 0, none⟩ = some (vi 0) := (hst5.blk 1 rfl).cell 0
    have hr7 : W5.cell? ⟨B10_1, 1, none⟩ = some (vi 0) := (hst5.blk 1 rfl).cell 1
    refine bodyPost_ret (v := .tuple #[.agg #[vi 0, vi 0], .slice none 0 0, vi 1]) (by simp [results, Tryd.results9, go_sem, hr6, hr7]) rfl ?_
    exact InsPost.nil (by rw [insA, insBad, if_pos hs4]) hst5.ext
  have hs4p := hs4
  simp only [zB] at hs4p
  obtain ⟨⟨⟨hs4p1, hs4p2⟩, hs4p3⟩, hs4p4⟩ := hs4p
  refine wp_cond_false (show Act.eval _ _ = .bool false from (congrArg Value.bool hs4)) (wp_skip (then_normal (wp_seq (wp_seq (wp_region_P [0, 1, 0] [.k 36 (.slice NA ns.length nc), .k 37 (vi ((ns.length : Int))), .k 38 (vi 0)] [(36, 0, 3, 39)] hst3 fun W8 hst8 => ?_)))))
  refine then_normal (wp_block ?_)
  refine wp_loopN (fun mz az W => ∃ k : Nat, k ≤ ns.length ∧ insP pv tb s ns = insP pv tb s (ns.drop k) ∧ mz = ns.length - k ∧ az = ⟨#[.iface tt (tv), .slice NA ns.length nc, vi fresh, vi tb, .agg #[vi a, vi b, vi n1, vi n2, .bool ho, .slice RA rs.length rc], undef, undef, undef, undef, vp B9_1, vp B10_1, jv az 11, jv az 12, .string (s), undef, jv az 15, jv az 16, jv az 17, jv az 18, .agg #[vi a, vi b, vi n1, vi n2, .bool ho, .slice RA rs.length rc], .string (s), .string (s), .bool (s.toList == ((⟨#[]⟩ : ByteArray)).toList), .bool (s.toList == ((⟨#[]⟩ : ByteArray)).toList), mb (!(s.toList == ((⟨#[]⟩ : ByteArray)).toList)) (vi tb), mb (!(s.toList == ((⟨#[]⟩ : ByteArray)).toList)) (.bool (decide (tb < 0))), .bool ((s.toList == ((⟨#[]⟩ : ByteArray)).toList) || (decide (tb < 0))), .bool ((s.toList == ((⟨#[]⟩ : ByteArray)).toList) || (decide (tb < 0))), mb (!((s.toList == ((⟨#[]⟩ : ByteArray)).toList) || (decide (tb < 0)))) (vi tb), mb (!((s.toList == ((⟨#[]⟩ : ByteArray)).toList) || (decide (tb < 0)))) (.bool (decide (65535 < tb))), .bool (((s.toList == ((⟨#[]⟩ : ByteArray)).toList) || (decide (tb < 0))) || (decide (65535 < tb))), .bool (((s.toList == ((⟨#[]⟩ : ByteArray)).toList) || (decide (tb < 0))) || (decide (65535 < tb))), mb (!(((s.toList == ((⟨#[]⟩ : ByteArray)).toList) || (decide (tb < 0))) || (decide (65535 < tb)))) (vi fresh), mb (!(((s.toList == ((⟨#[]⟩ : ByteArray)).toList) || (decide (tb < 0))) || (decide (65535 < tb)))) (.bool (decide (400 ≤ fresh))), .bool ((((s.toList == ((⟨#[]⟩ : ByteArray)).toList) || (decide (tb < 0))) || (decide (65535 < tb))) || (decide (400 ≤ fresh))), undef, .slice NA ns.length nc, vi ((ns.length : Int)), vi ((k : Int)), jv az 39, jv az 40, jv az 41, jv az 42, jv az 43, jv az 44, jv az 45, jv az 46, jv az 47, jv az 48, jv az 49, jv az 50, jv az 51, jv az 52, jv az 53, jv az 54, jv az 55, jv az 56, jv az 57, jv az 58, jv az 59, jv az 60, jv az 61, jv az 62, jv az 63, jv az 64, jv az 65, jv az 66, jv az 67, jv az 68, undef, undef, undef, undef, undef, undef, undef, undef, undef, undef, undef, undef, undef], []⟩ ∧ St w [] [eB B9_1 41 #[vi a, vi b, vi n1, vi n2, .bool ho, .slice RA rs.length rc], eB B10_1 24 #[vi 0, vi 0]] W) (ns.length - 0) ?_ ?_
  · -- the loop begins
    have hp10 := hst8.pick [0, 1] (by decide) rfl
    exact ⟨0, Nat.zero_le _, rfl, rfl, (by kernel_rfl), hp10⟩
  rintro n9 a9 W9 ⟨k, hk, hkr, rfl, hj_, hst9⟩
  obtain ⟨u9_, hu_⟩ : ∃ z, jv a9 = z := ⟨_, rfl⟩
  rw [hu_] at hj_; clear hu_; subst hj_
  refine wp_seq (wp_region_P [0] [.k 39 (.bool (decide ((k : Int) < (ns.length : Int))))] [(39, 0, 1, 40)] hst9 fun W11 hst11 => ?_)
  refine then_normal (wp_seq ?_)
  rcases Bool.eq_false_or_eq_true (decide ((k : Int) < (ns.length : Int))) with hs12 | hs12
  · skip
    have hs12p : (k : Int) < (ns.length : Int) := by simpa using hs12
    refine wp_cond_true (show Act.eval _ _ = .bool true from (congrArg Value.bool hs12)) (wp_skip (then_normal (wp_seq (wp_block (wp_seq (wp_region_Z [0, 1, 3] [] [.c 40 (.pointer (some ((ad NA).add k))), .c 41 (vi (ns.getD k 0)), .k 15 (vi (ns.getD k 0))] [0, 1] [0, 1] [(15, 2, 1, 16), (24, 0, 2, 26)] hst11 ?_ fun W13 hst13 => ?_))))))
    · refine ⟨?_, ?_, trivial⟩
      · exact xs4 rfl id fun cx => run_indexSl (e := 3) (m := k) rfl (by kernel_rfl) (by kernel_rfl) (cx.ou 36) (cx.ou 38) (by omega) (by omega) (hA.ext cx.upd.to_ext) (by simp)
      · exact xs4 rfl id fun cx => run_load1 rfl (by kernel_rfl) (cx.an 0) (At.cellAd (hA.ext cx.upd.to_ext) (getD_int (by omega)))
    refine then_normal (wp_seq ?_)
    obtain ⟨n, hN_n⟩ : ∃ z, ns.getD k 0 = z := ⟨_, rfl⟩
    rw [hN_n]
    refine wp_region_Z [0, 0, 3, 7, 15, 15, 31, 127] [] [.k 43 (.iface tt (tv)), .k 44 (vi (n)), .c 45 (.tuple #[vi ((ofF (pv n))), .bool ((hdF (pv n)))]), .k 42 (.tuple #[vi ((ofF (pv n))), .bool ((hdF (pv n)))]), .k 46 (vi ((ofF (pv n)))), .k 47 (.bool ((hdF (pv n)))), .k 16 (vi ((ofF (pv n)))), .k 17 (.bool ((hdF (pv n))))] [0, 1] [2] [(16, 6, 2, 18), (24, 3, 1, 25), (0, 0, 3, 3), (0, 4, 2, 2)] hst13 ?_ fun W14 hst14 => ?_
    · refine ⟨?_, trivial⟩
      · exact xsc rfl id rfl rfl fun cx => ⟨_, of_any _ _ pv n _ (hS.ext cx.upd.to_ext), (map2 (cx.an 0) (cx.an 1))⟩
    refine then_normal (wp_seq (wp_region_P [0, 1, 3, 3, 15, 31] [.k 48 (.bool ((hdF (pv n)))), .k 49 (.bool ((hdF (pv n)))), .z 50 (hdF (pv n)) (vi ((ofF (pv n)))), .z 51 (hdF (pv n)) (vi tb), .z 52 (hdF (pv n)) (.bool ((ofF (pv n)) == tb)), tA 53 (hdF (pv n)) ((ofF (pv n)) == tb)] [(48, 0, 6, 54)] hst14 fun W15 hst15 => ?_))
    refine then_normal ?_
    rcases Bool.eq_false_or_eq_true ((hdF (pv n)) && ((ofF (pv n)) == tb)) with hs16 | hs16
    · skip
      have hs16p := hs16
      simp only [zB] at hs16p
      obtain ⟨hs16p1, hs16p2⟩ := hs16p
      refine wp_cond_true (show Act.eval _ _ = .bool true from (congrArg Value.bool hs16)) (wp_seq (wp_region_Z [0, 0, 0, 7, 15] [] [.k 54 (.iface tt (tv)), .k 55 (vi (n)), .k 56 (.string (s)), .c 57 (vi ((roomI (pv n) s))), .k 18 (vi ((roomI (pv n) s)))] [0, 1] [3] [(18, 4, 1, 19), (35, 0, 4, 39)] hst15 ?_ fun W17 hst17 => ?_))
      · refine ⟨?_, trivial⟩
        · exact xsc rfl id rfl rfl fun cx => ⟨_, hroomi_any _ _ pv n s _ (hS.ext cx.upd.to_ext) (by omega), (map3 (cx.an 0) (cx.an 1) (cx.an 2))⟩
      refine then_normal (wp_seq (wp_region_P [0, 1] [.k 58 (vi ((roomI (pv n) s))), .k 59 (.bool (decide (0 < (roomI (pv n) s))))] [(58, 0, 2, 60)] hst17 fun W18 hst18 => ?_))
      refine then_normal ?_
      rcases Bool.eq_false_or_eq_true (decide (0 < (roomI (pv n) s))) with hs19 | hs19
      · skip
        have hs19p : 0 < (roomI (pv n) s) := by simpa using hs19
        refine wp_cond_true (show Act.eval _ _ = .bool true from (congrArg Value.bool hs19)) (wp_seq (wp_region_Y [0, 0, 3, 0, 0, 0, 56, 120, 7, 511, 1023] [[], [], [], [], [], [], [], [], [1]] [[], [], [], [], [], [], [], [2], [3]] [[], [], [], [], [], [], [], [], [1]] [.k 60 (vi (n)), .k 61 (vi ((roomI (pv n) s))), .k 62 (.agg #[vi (n), vi ((roomI (pv n) s))]), .k 63 (vi (n)), .k 64 (vi ((roomI (pv n) s))), .k 65 (.string (s)), .k 66 (.agg #[vi (n), vi ((roomI (pv n) s)), .string (s)]), .a 67, .n, .a 11, .k 12 (vi 0)] (fun ix σ β X => match ix with | 0 => True | 1 => True | 2 => True | 3 => True | 4 => True | 5 => True | 6 => True | 7 => σ 67 = .slice ((some ⟨(pb' (β 67)), 0, none⟩)) 1 1 ∧ X 2 = eO 99 3 (.slice ((some ⟨(pb' (β 67)), 0, none⟩)) 1 1) 1 (cellsE (n, (roomI (pv n) s), s)) | 8 => X 3 = eB B10_1 24 #[vi (n), vi ((roomI (pv n) s))] | 9 => σ 11 = .slice ((some ⟨(pb' (β 67)), 0, none⟩)) 1 1 | _ => True) [0, 2, 3] [7, 8, 9] [(11, 9, 2, 13), (47, 0, 8, 55)] hst18 ?_ ?_ ?_))
        · exact fun ix _ _ _ _ _ _ hs hb hx h => match ix, h with
          | 7, h => by dsimp only at h ⊢; rw [← hs 67 rfl, ← hb 67 rfl, ← hx 2 rfl]; exact h
          | 8, h => by dsimp only at h ⊢; rw [← hx 3 rfl]; exact h
          | 9, h => by dsimp only at h ⊢; rw [← hs 11 rfl, ← hb 67 rfl]; exact h
          | 0, _ | 1, _ | 2, _ | 3, _ | 4, _ | 5, _ | 6, _ | _ + 10, _ => trivial
        · refine ⟨?_, ?_, ?_, trivial⟩
          · refine sv_any rfl rfl fun ρ β W X cx => ?_
            have fF66 : ρ (.tmp 66) = .agg #[vi (n), vi ((roomI (pv n) s)), .string (s)] := (cx.an 6)
            exact dv_litN (e := 99) (sz := 3) (xs := [vi (n), vi ((roomI (pv n) s)), .string (s)]) rfl (by simp [go_sem, fF66]) rfl (by decide) rfl rfl (fun σ β' X' hs hb hv hx => ⟨hv, hx⟩)
          · refine sv_any rfl rfl fun ρ β W X cx => ?_
            exact dv_store (n := 2) rfl (cx.ou 10) (cx.an 2) (by kernel_rfl) (by kernel_rfl) (by kernel_rfl) cx (cx.init 1 _ rfl) rfl (nle rfl) (by kernel_rfl) rfl rfl rfl (fun σ β' X' hs hb hx => hx)
          · exact sv rfl rfl rfl rfl rfl _ (fun _ _ _ h => h) (fun β β' h => by rw [h 67 (by decide)]) fun ρ β W X cx => run_assign' rfl (dTn (cx.an 7)).1
        intro σ β X W20 hD hst20 fr hfr
        obtain ⟨B67_20, hu_B67_20⟩ : ∃ z, pb' (β 67) = z := ⟨_, rfl⟩
        simp only [exq 2 ((dTn (hD 7 lq)).2), exq 3 ((dTn (hD 8 lq))), hu_B67_20] at hst20
        simp only [ed 67 ((dTn (hD 7 lq)).1), ed 11 ((dTn (hD 9 lq))), hu_B67_20] at hfr
        clear hD hu_B67_20; subst hfr; clear σ β X
        refine then_normal (wp_ret (blk_ret (then_ret (then_ret (blk_ret (then_ret ?_))))))
        have hr21 : W20.cell? ⟨B10_1, 0, none⟩ = some (vi (n)) := (hst20.blk 2 rfl).cell 0
        have hr22 : W20.cell? ⟨B10_1, 1, none⟩ = some (vi ((roomI (pv n) s))) := (hst20.blk 2 rfl).cell 1
        refine bodyPost_ret (v := .tuple #[.agg #[vi (n), vi ((roomI (pv n) s))], .slice ((some ⟨B67_20, 0, none⟩)) 1 1, vi 0]) (by simp [results, Tryd.results9, go_sem, hr21, hr22]) rfl ?_
        exact InsPost.of (l := [(n, roomI (pv n) s, s)]) (by rw [insA, insBad, if_neg (by rw [hs4]; decide), insR]; rw [hkr, insP_at (by omega), hN_n, if_pos (by rw [hs16, hs19]; rfl)]) rfl rfl (hst20.own' 1 rfl) hst20.ext
      have hs19p : ¬ (0 < (roomI (pv n) s)) := by simpa using hs19
      refine wp_cond_false (show Act.eval _ _ = .bool false from (congrArg Value.bool hs19)) (wp_skip (blk_normal (then_normal (wp_region_P [0, 1] [tI 68 ((k : Int) + 1) (by omega), .k 38 (vi ((k : Int) + 1))] [(38, 1, 1, 39), (29, 0, 1, 30)] hst18 fun W23 hst23 => ?_))))
      refine then_normal ?_
      refine ⟨ns.length - ((k + 1)), by omega, ?_⟩
      have hp24 := hst23.pick [0, 1] (by decide) rfl
      exact ⟨(k + 1), by omega, by rw [hkr, insP_at (by omega), hN_n, if_neg (by rw [hs16, hs19]; simp)], rfl, (by kernel_rfl), hp24⟩
    have hs16p := hs16
    simp only [zB] at hs16p
    refine wp_cond_false (show Act.eval _ _ = .bool false from (congrArg Value.bool hs16)) (wp_skip (blk_normal (then_normal (wp_region_P [0, 1] [tI 68 ((k : Int) + 1) (by omega), .k 38 (vi ((k : Int) + 1))] [(38, 1, 1, 39), (29, 0, 1, 30)] hst15 fun W25 hst25 => ?_))))
    refine then_normal ?_
    refine ⟨ns.length - ((k + 1)), by omega, ?_⟩
    have hp26 := hst25.pick [0, 1] (by decide) rfl
    exact ⟨(k + 1), by omega, by rw [hkr, insP_at (by omega), hN_n, if_neg (by rw [hs16]; simp)], rfl, (by kernel_rfl), hp26⟩
  have hs12p : ¬ ((k : Int) < (ns.length : Int)) := by simpa using hs12
  refine wp_cond_false (show Act.eval _ _ = .bool false from (congrArg Value.bool hs12)) (wp_exit (then_exit (then_exit (blk_eq (then_normal (wp_seq (wp_seq (wp_region_P [0, 1] [.k 69 (vi fresh), .k 70 (.bool (decide (fresh < 0)))] [(69, 0, 2, 71)] hst11 fun W27 hst27 => ?_))))))))
  refine then_normal ?_
  rcases Bool.eq_false_or_eq_true (decide (fresh < 0)) with hs28 | hs28
  · skip
    have hs28p : fresh < 0 := by simpa using hs28
    refine wp_cond_true (show Act.eval _ _ = .bool true from (congrArg Value.bool hs28)) (wp_seq (wp_region_Y [0, 1, 3, 7] [[], [1]] [[], [2]] [[], [1]] [.k 71 (.agg #[vi 0, vi 0]), .n, .k 11 (.slice none 0 0), .k 12 (vi 23)] (fun ix σ β X => match ix with | 0 => True | 1 => X 2 = eB B10_1 24 #[vi 0, vi 0] | _ => True) [0, 2] [1] [(11, 2, 2, 13), (58, 0, 1, 59)] hst27 ?_ ?_ ?_))
    · exact fun ix _ _ _ _ _ _ hs hb hx h => match ix, h with
      | 1, h => by dsimp only at h ⊢; rw [← hx 2 rfl]; exact h
      | 0, _ | _ + 2, _ => trivial
    · refine ⟨?_, trivial⟩
      · refine sv_any rfl rfl fun ρ β W X cx => ?_
        exact dv_store (n := 2) rfl (cx.ou 10) (cx.an 0) (by kernel_rfl) (by kernel_rfl) (by kernel_rfl) cx (cx.init 1 _ rfl) rfl (nle rfl) (by kernel_rfl) rfl rfl rfl (fun σ β' X' hs hb hx => hx)
    intro σ β X W29 hD hst29 fr hfr
    simp only [exq 2 ((dTn (hD 1 lq)))] at hst29
    clear hD; subst hfr; clear σ β X
    refine then_normal (wp_ret (then_ret ?_))
    have hr30 : W29.cell? ⟨B10_1, 0, none⟩ = some (vi 0) := (hst29.blk 1 rfl).cell 0
    have hr31 : W29.cell? ⟨B10_1, 1, none⟩ = some (vi 0) := (hst29.blk 1 rfl).cell 1
    refine bodyPost_ret (v := .tuple #[.agg #[vi 0, vi 0], .slice none 0 0, vi 23]) (by simp [results, Tryd.results9, go_sem, hr30, hr31]) rfl ?_
    exact InsPost.nil (by rw [insA, insBad, if_neg (by rw [hs4]; decide), insR]; rw [hkr, List.drop_of_length_le (by omega)]; show (if _ then _ else _) = _; rw [if_pos (by omega)]) hst29.ext
  have hs28p : ¬ (fresh < 0) := by simpa using hs28
  refine wp_cond_false (show Act.eval _ _ = .bool false from (congrArg Value.bool hs28)) (wp_skip (then_normal (wp_seq (wp_region_Y [0, 1, 0, 0, 12, 0, 0, 96, 224, 508, 1023, 2047, 4095] [[], [], [], [], [], [], [], [], [], [3, 2], [1]] [[], [], [], [], [2], [], [], [], [3], [4], [5]] [[], [], [], [], [], [], [], [], [], [2], [1]] [.k 72 (vi fresh), .k 73 (.agg #[vi fresh, vi 1]), .k 74 (vi fresh), .k 75 (vi tb), .a 76, .k 77 (vi fresh), .k 78 (.string (s)), .k 79 (.agg #[vi fresh, vi 1, .string (s)]), .a 80, .a 81, .n, .a 11, .k 12 (vi 0)] (fun ix σ β X => match ix with | 0 => True | 1 => True | 2 => True | 3 => True | 4 => σ 76 = .slice (sA (β 76)) 2 (sC (β 76)) ∧ X 2 = eO 99 3 (.slice (sA (β 76)) 2 (sC (β 76))) 2 ((bgL fresh tb).flatMap cellsE) | 5 => True | 6 => True | 7 => True | 8 => σ 80 = .slice ((some ⟨(pb' (β 80)), 0, none⟩)) 1 1 ∧ X 3 = eO 99 3 (.slice ((some ⟨(pb' (β 80)), 0, none⟩)) 1 1) 1 (cellsE (fresh, 1, s)) | 9 => σ 81 = .slice (sA (β 81)) 3 (sC (β 81)) ∧ X 4 = eO 99 3 (.slice (sA (β 81)) 3 (sC (β 81))) 3 (((bgL fresh tb) ++ [(fresh, 1, s)]).flatMap cellsE) | 10 => X 5 = eB B10_1 24 #[vi fresh, vi 1] | 11 => σ 11 = .slice (sA (β 81)) 3 (sC (β 81)) | _ => True) [0, 3, 4, 5] [4, 8, 9, 10, 11] [(11, 11, 2, 13), (59, 0, 10, 69)] hst27 ?_ ?_ ?_))))
  · exact fun ix _ _ _ _ _ _ hs hb hx h => match ix, h with
    | 4, h => by dsimp only at h ⊢; rw [← hs 76 rfl, ← hb 76 rfl, ← hx 2 rfl]; exact h
    | 8, h => by dsimp only at h ⊢; rw [← hs 80 rfl, ← hb 80 rfl, ← hx 3 rfl]; exact h
    | 9, h => by dsimp only at h ⊢; rw [← hs 81 rfl, ← hb 81 rfl, ← hx 4 rfl]; exact h
    | 10, h => by dsimp only at h ⊢; rw [← hx 5 rfl]; exact h
    | 11, h => by dsimp only at h ⊢; rw [← hs 11 rfl, ← hb 81 rfl]; exact h
    | 0, _ | 1, _ | 2, _ | 3, _ | 5, _ | 6, _ | 7, _ | _ + 12, _ => trivial
  · refine ⟨?_, ?_, ?_, ?_, ?_, trivial⟩
    · refine sv_any rfl rfl fun ρ β W X cx => ?_
      refine DoesU.call (run_callF (args := #[vi fresh, vi tb]) rfl cx.sees rfl (by kernel_rfl) (map2 (cx.an 2) (cx.an 3))) ?_
      refine (hbegin_any fresh tb _).mono ?_
      rintro e W1 ⟨A4, c4, rfl, ho, hx⟩
      refine ⟨_, rfl, post_call [eO 99 3 (.slice A4 2 c4) 2 ((bgL fresh tb).flatMap cellsE)] rfl rfl hx (one_new (eO_new ho)) (List.pairwise_singleton _ _) (fun σ β' X' hs hb hv hN => ?_)⟩
      have hv1 := (hv 76 rfl).1; have hv2 := (hv 76 rfl).2
      exact ⟨hv1.trans (by rw [hv2]; rfl), (by rw [hv2]; exact (List.cons.inj hN).1)⟩
    · refine sv_any rfl rfl fun ρ β W X cx => ?_
      have fF79 : ρ (.tmp 79) = .agg #[vi fresh, vi 1, .string (s)] := (cx.an 7)
      exact dv_litN (e := 99) (sz := 3) (xs := [vi fresh, vi 1, .string (s)]) rfl (by simp [go_sem, fF79]) rfl (by decide) rfl rfl (fun σ β' X' hs hb hv hx => ⟨hv, hx⟩)
    · refine sv_any rfl rfl fun ρ β W X cx => ?_
      obtain ⟨i0, hi0, hz0, hz1, hz2⟩ := info_parts Tryd.infoEdit
      refine dv_appendN (n := 2) (m := 1) (nm := 3) (sz := 3) (xs := (bgL fresh tb).flatMap cellsE) (news := cellsE (fresh, 1, s)) (xs' := ((bgL fresh tb) ++ [(fresh, 1, s)]).flatMap cellsE) rfl (ty := 36) rfl (by kernel_rfl) hi0 hz0 hz1 hz2 rfl (by decide) (dTn (cx.an 4)).1 cx (dTn (cx.an 4)).2 rfl (dTn (cx.an 8)).1 (by rfl) (At.of_ownN (cx.row (dTn (cx.an 8)).2 rfl)) (by simp [cellsE, Value.oneCell']) (by simp only [maxLen]; omega) (by omega) rfl rfl rfl (by omega) (eds_snoc _ _) (fun σ β' X' hs hb hv hx => ?_)
      exact ⟨hv, hx⟩
    · refine sv_any rfl rfl fun ρ β W X cx => ?_
      exact dv_store (n := 2) rfl (cx.ou 10) (cx.an 1) (by kernel_rfl) (by kernel_rfl) (by kernel_rfl) cx (cx.init 1 _ rfl) rfl (nle rfl) (by kernel_rfl) rfl rfl rfl (fun σ β' X' hs hb hx => hx)
    · exact sv rfl rfl rfl rfl rfl _ (fun _ _ _ h => h) (fun β β' h => by rw [h 81 (by decide)]) fun ρ β W X cx => run_assign' rfl (dTn (cx.an 9)).1
  intro σ β X W32 hD hst32 fr hfr
  obtain ⟨A76_32, hu_A76_32⟩ : ∃ z, sA (β 76) = z := ⟨_, rfl⟩
  obtain ⟨c76_32, hu_c76_32⟩ : ∃ z, sC (β 76) = z := ⟨_, rfl⟩
  obtain ⟨B80_32, hu_B80_32⟩ : ∃ z, pb' (β 80) = z := ⟨_, rfl⟩
  obtain ⟨A81_32, hu_A81_32⟩ : ∃ z, sA (β 81) = z := ⟨_, rfl⟩
  obtain ⟨c81_32, hu_c81_32⟩ : ∃ z, sC (β 81) = z := ⟨_, rfl⟩
  simp only [exq 3 ((dTn (hD 8 lq)).2), exq 4 ((dTn (hD 9 lq)).2), exq 5 ((dTn (hD 10 lq))), hu_A76_32, hu_c76_32, hu_B80_32, hu_A81_32, hu_c81_32] at hst32
  simp only [ed 76 ((dTn (hD 4 lq)).1), ed 80 ((dTn (hD 8 lq)).1), ed 81 ((dTn (hD 9 lq)).1), ed 11 ((dTn (hD 11 lq))), hu_A76_32, hu_c76_32, hu_B80_32, hu_A81_32, hu_c81_32] at hfr
  clear hD hu_A76_32 hu_c76_32 hu_B80_32 hu_A81_32 hu_c81_32; subst hfr; clear σ β X
  refine then_normal (wp_ret ?_)
  have hr33 : W32.cell? ⟨B10_1, 0, none⟩ = some (vi fresh) := (hst32.blk 3 rfl).cell 0
  have hr34 : W32.cell? ⟨B10_1, 1, none⟩ = some (vi 1) := (hst32.blk 3 rfl).cell 1
  refine bodyPost_ret (v := .tuple #[.agg #[vi fresh, vi 1], .slice A81_32 3 c81_32, vi 0]) (by simp [results, Tryd.results9, go_sem, hr33, hr34]) rfl ?_
  exact InsPost.of (l := bgL fresh tb ++ [(fresh, 1, s)]) (by rw [insA, insBad, if_neg (by rw [hs4]; decide), insR]; rw [hkr, List.drop_of_length_le (by omega)]; show (if _ then _ else _) = _; rw [if_neg (by omega)]) rfl rfl (hst32.own' 2 rfl) hst32.ext
end
end Go.Proofs.YtjnplglnnamfdaaDoor
namespace Go.Proofs.YtjnplglnnamfdaaDoor
section
set_option linter.unusedVariables false
set_option linter.unusedSimpArgs false
open Go.RowKit
theorem item_get (ss : List ByteArray) (i : Nat) : itemF ss i = ss.getD i ByteArray.empty := by
  rw [itemF, if_neg (by omega), Int.toNat_natCast]
theorem item_ge (ss : List ByteArray) (i : Nat) (h : ss.length ≤ i) : (itemF ss i).toList.isEmpty = true := by
  rw [item_get]; simp [List.getD, List.getElem?_eq_none h]
end
end Go.Proofs.YtjnplglnnamfdaaDoor
namespace Go.Proofs.YtjnplglnnamfdaaDoor
section
open Go.RowKit
set_option linter.unusedVariables false
set_option linter.unusedSimpArgs false
theorem ba_inj_z {a b : ByteArray} (h : a.toList = b.toList) : a = b := by
  rw [ByteArray.toList_eq, ByteArray.toList_eq] at h
  cases a; cases b
  simp at h
  rw [h]
theorem toList_empty : ByteArray.empty.toList = [] := by rw [ByteArray.toList_eq]; rfl
def emp (s : ByteArray) : Bool := s.toList.isEmpty
theorem emp_iff (s : ByteArray) : emp s = true ↔ s = ByteArray.empty := by
  unfold emp
  constructor
  · intro h
    have h1 : s.toList = [] := by simpa using h
    exact ba_inj_z (by rw [h1, toList_empty])
  · rintro rfl; rw [toList_empty]; rfl
theorem emp_size (s : ByteArray) : emp s = true ↔ s.size = 0 := by
  rw [emp_iff]
  constructor
  · rintro rfl; rfl
  · intro h
    apply ba_inj_z
    rw [ByteArray.toList_eq]
    have : s.data.toList.length = 0 := by simpa using h
    rw [List.eq_nil_of_length_eq_zero this, toList_empty]
theorem frL_spec (ss : List ByteArray) : ∀ n i, (frL ss n i = -1 ∧ ∀ j, i ≤ j → j < i + n → emp (itemF ss j) = false) ∨
    (∃ j : Nat, frL ss n i = j ∧ i ≤ j ∧ j < i + n ∧ emp (itemF ss j) = true ∧ ∀ k, i ≤ k → k < j → emp (itemF ss k) = false)
  | 0, i => .inl ⟨rfl, fun j h1 h2 => by omega⟩
  | n + 1, i => by
    rw [frL_succ]
    by_cases h1 : ss.length ≤ i
    · rw [if_pos h1]
      exact .inr ⟨i, rfl, Nat.le_refl _, by omega, item_ge ss i h1, fun k _ _ => by omega⟩
    · rw [if_neg h1]
      have hi : emp (itemF ss i) = (ss.getD i ByteArray.empty).toList.isEmpty := by rw [item_get, emp]
      cases h2 : (ss.getD i ByteArray.empty).toList.isEmpty with
      | true => exact .inr ⟨i, by simp, Nat.le_refl _, by omega, by rw [hi, h2], fun k _ _ => by omega⟩
      | false =>
        rw [if_neg (by simp)]
        rcases frL_spec ss n (i + 1) with ⟨h3, h4⟩ | ⟨j, h3, h4, h5, h6, h7⟩
        · refine .inl ⟨h3, fun j g1 g2 => ?_⟩
          by_cases e : j = i
          · subst e; rw [hi, h2]
          · exact h4 j (by omega) (by omega)
        · refine .inr ⟨j, h3, by omega, by omega, h6, fun k g1 g2 => ?_⟩
          by_cases e : k = i
          · subst e; rw [hi, h2]
          · exact h7 k (by omega) g2
theorem trimN_emp (ss : List ByteArray) : ∀ n j, trimN ss n ≤ j → j < n → emp (itemF ss j) = true
  | 0, j, _, h => by omega
  | n + 1, j, h1, h2 => by
    rw [trimN_succ] at h1
    split at h1
    · rename_i he
      by_cases e : j = n
      · subst e; rw [item_get]; exact he
      · exact trimN_emp ss n j h1 (by omega)
    · omega
theorem trimN_full {ss : List ByteArray} (h : ss ≠ []) (hl : emp (ss.getLast h) = false) : trimN ss ss.length = ss.length := by
  obtain ⟨n, hn⟩ : ∃ n, ss.length = n + 1 := ⟨ss.length - 1, by have := List.length_pos_iff.2 h; omega⟩
  rw [hn, trimN_succ, if_neg]
  rw [List.getLast_eq_getElem] at hl
  have e : ss.getD n ByteArray.empty = ss[ss.length - 1]'(by omega) := by
    have : n = ss.length - 1 := by omega
    subst this
    simp [List.getD, show ss.length - 1 < ss.length by omega]
  rw [e]
  exact Bool.eq_false_iff.1 hl
theorem sizeT_append (a b : List ByteArray) : sizeT (a ++ b) = sizeT a + sizeT b := by simp [sizeT]
theorem sizeT_set (l : List ByteArray) (i : Nat) (s : ByteArray) (h : i < l.length) : sizeT (l.set i s) + l[i].size = sizeT l + s.size := by
  induction l generalizing i with
  | nil => simp at h
  | cons a l ih =>
    rcases i with _ | i
    · simp [sizeT]; omega
    · have := ih i (by simpa using h)
      simp only [List.set_cons_succ, List.getElem_cons_succ]
      simp only [sizeT, List.map_cons, List.sum_cons] at this ⊢
      omega
theorem plain_get {ss : List ByteArray} {i : Nat} (h : i < (plainL ss).length) : (plainL ss)[i] = itemF ss i := by
  have hl := plainL_len ss
  have ht := trimN_le ss ss.length
  rw [item_get]
  simp [plainL, List.getD, show i < ss.length by omega]
end
end Go.Proofs.YtjnplglnnamfdaaDoor
namespace Go.Proofs.YtjnplglnnamfdaaDoor
section
open Go.RowKit
set_option linter.unusedVariables false
set_option linter.unusedSimpArgs false
/-- an empty item says nothing -/
def clean (l : List Itm) : Prop := ∀ x ∈ l, x.1.size = 0 → x = it0
theorem txD_size {v : VerD} (h : okD v) : (txD v).size = 8 + (vbytesF v.2.2.2.2.2).size := tb_size h.1
theorem Desc.clean {x : Itm} (h : Desc x.1 x.2) (h0 : x.1.size = 0) : x = it0 := by
  obtain ⟨s, o⟩ := x
  cases o with
  | none =>
    have e : s = ByteArray.empty := (emp_iff s).1 ((emp_size s).2 h0)
    rw [e]; rfl
  | some v =>
    have h1 : s = txD v := h.2
    have h2 := txD_size h.1
    have h3 : s.size = 0 := h0
    rw [h1] at h3
    omega
theorem okP.clean {p : PgI} (h : okP p) : clean p.2.2 := fun x hx => (h.2 x hx).clean
theorem getD_mem_or {T : Type} (l : List T) (d : T) (j : Nat) : l.getD j d ∈ l ∨ l.getD j d = d := by
  rw [List.getD_eq_getElem?_getD]
  cases h : l[j]? with
  | none => exact .inr rfl
  | some x => exact .inl (by rw [Option.getD_some]; exact List.mem_of_getElem? h)
theorem clean_getD {l : List Itm} (h : clean l) {j : Nat} (h0 : (l.getD j it0).1.size = 0) : l.getD j it0 = it0 := by
  rcases getD_mem_or l it0 j with h1 | h1
  · exact h _ h1 h0
  · exact h1
theorem getD_ge {T : Type} {l : List T} {d : T} {j : Nat} (h : l.length ≤ j) : l.getD j d = d := by
  rw [List.getD_eq_getElem?_getD, List.getElem?_eq_none h]; rfl
theorem fstI_getD (l : List Itm) (j : Nat) : (fstI l).getD j ByteArray.empty = (l.getD j it0).1 := by
  rw [fstI, List.getD_eq_getElem?_getD, List.getD_eq_getElem?_getD, List.getElem?_map]
  cases l[j]? <;> rfl
theorem trimN_item {l : List Itm} {j : Nat} (h : trimN (fstI l) l.length ≤ j) : (l.getD j it0).1.size = 0 := by
  rcases Nat.lt_or_ge j l.length with g | g
  · have := trimN_emp (fstI l) l.length j h g
    rw [item_get, fstI_getD] at this
    exact (emp_size _).1 this
  · rw [getD_ge g]; rfl
theorem trimI_get {l : List Itm} (h : clean l) (j : Nat) : (trimI l).getD j it0 = l.getD j it0 := by
  rcases Nat.lt_or_ge j (trimN (fstI l) l.length) with g | g
  · rw [trimI, List.getD_eq_getElem?_getD, List.getElem?_take, if_pos g, List.getD_eq_getElem?_getD]
  · rw [clean_getD h (trimN_item g)]
    exact getD_ge (by rw [trimI, List.length_take]; omega)
theorem withI_get (its : List Itm) (K : Nat) (i : Itm) (j : Nat) : (withI its K i).getD j it0 = if j = K then i else (trimI its).getD j it0 := by
  rw [withI, List.getD_eq_getElem?_getD, List.getElem?_set]
  split
  · rename_i e
    subst e
    rw [if_pos rfl, if_pos (by simp only [List.length_append, List.length_replicate]; omega), Option.getD_some]
  · rename_i e
    rw [if_neg (fun e' => e e'.symm), List.getD_eq_getElem?_getD]
    rcases Nat.lt_or_ge j (trimI its).length with g | g
    · rw [List.getElem?_append_left g]
    · rw [List.getElem?_append_right g, List.getElem?_replicate, List.getElem?_eq_none g]
      split <;> rfl
theorem withI_clean {its : List Itm} {K : Nat} {i : Itm} (h : clean its) (hi : i.1.size = 0 → i = it0) : clean (withI its K i) := fun x hx h0 => by
  rcases withI_mem hx with rfl | h1 | h1
  · exact hi h0
  · exact h x h1 h0
  · exact h1
theorem putI_get {its : List Itm} {K : Nat} {i : Itm} (h : clean its) (hi : i.1.size = 0 → i = it0) (j : Nat) : (putI its K i).getD j it0 = if j = K then i else its.getD j it0 := by
  rw [putI, trimI_get (withI_clean h hi), withI_get]
  split
  · rfl
  · exact trimI_get h j
theorem hdF_eq (v : PV) : hdF v = (v.ok && (v.k == 1 && ((v.its.getD 0 it0).1.size == 2))) := by
  rw [hdF]
  cases hv : v.its with
  | nil =>
    have e : (([] : List Itm).getD 0 it0).1.size = 0 := rfl
    rw [e]
    cases v.ok <;> by_cases hk : v.k = 1 <;> simp [hk]
  | cons a l =>
    have e : ((a :: l).getD 0 it0) = a := rfl
    rw [e]
    have h3 : (((a :: l).length : Int) == 0) = false := by
      rw [List.length_cons]
      exact beq_false_of_ne (by omega)
    have h4 : ((a.1.size : Int) != 2) = !(a.1.size == 2) := by
      by_cases h : a.1.size = 2
      · rw [h]; rfl
      · rw [beq_false_of_ne h, bne, beq_false_of_ne (by omega)]
    rw [h3, h4, bne]
    cases v.ok <;> cases (v.k == 1) <;> cases (a.1.size == 2) <;> rfl
theorem ofF_eq (v : PV) : ofF v = if hdF v then (numS (v.its.getD 0 it0).1 0 2 : Int) else 0 := rfl
theorem atF_eq (v : PV) (j : Int) : atF v j = if hdF v = true ∧ 1 ≤ j then (v.its.getD j.toNat it0).2 else none := by
  rw [atF]
  have h := tbF_hd v
  by_cases h1 : hdF v = true
  · have h2 := h.2 h1
    by_cases h3 : 1 ≤ j
    · rw [if_pos (show hdF v = true ∧ 1 ≤ j from ⟨h1, h3⟩)]
      by_cases h4 : j < v.its.length
      · rw [if_pos ⟨h2, h3, h4⟩]
      · rw [if_neg (fun h5 => h4 h5.2.2), getD_ge (by omega)]; rfl
    · rw [if_neg (fun h5 => h3 h5.2.1), if_neg (fun h5 => h3 h5.2)]
  · rw [if_neg (fun h5 => h1 (h.1 h5.1)), if_neg (fun h5 => h1 h5.1)]
theorem pvL_in {H : List PgI} {n : Int} (h : 0 ≤ n ∧ n < H.length) : pvL H n = ⟨(H.getD n.toNat pgi0).1, (H.getD n.toNat pgi0).2.1, (H.getD n.toNat pgi0).2.2, true⟩ := by rw [pvL, if_pos h]
theorem pvL_ok {H : List PgI} {n : Int} (h : (pvL H n).ok = true) : 0 ≤ n ∧ n < H.length := by
  rw [pvL] at h
  split at h
  · assumption
  · cases h
theorem pvL_ne {H : List PgI} {n m : Int} {p : PgI} (h : 0 ≤ n) (hm : m ≠ n) : pvL (H.set n.toNat p) m = pvL H m := by
  rw [pvL, pvL, List.length_set]
  split
  · rename_i h1
    have e : (H.set n.toNat p).getD m.toNat pgi0 = H.getD m.toNat pgi0 := by
      rw [List.getD_eq_getElem?_getD, List.getD_eq_getElem?_getD, List.getElem?_set, if_neg (by omega)]
    rw [e]
  · rfl
theorem getD_set' {H : List PgI} {n : Int} {p : PgI} (h : 0 ≤ n ∧ n < H.length) : (H.set n.toNat p).getD n.toNat pgi0 = p := by
  rw [List.getD_eq_getElem?_getD, List.getElem?_set, if_pos rfl, if_pos (by omega), Option.getD_some]
theorem pvL_at {H : List PgI} {n : Int} {p : PgI} (h : 0 ≤ n ∧ n < H.length) : pvL (H.set n.toNat p) n = ⟨p.1, p.2.1, p.2.2, true⟩ := by
  rw [pvL_in (by rw [List.length_set]; exact h), getD_set' h]
/-- one item put: what is seen behind it -/
theorem put_core {H : List PgI} {lsn n j : Int} {i : Itm} (hH : okH H) (hl : 0 ≤ lsn ∧ lsn ≤ 2147483647) (hn : 0 ≤ n ∧ n < H.length) (hj : 1 ≤ j) (hi : Desc i.1 i.2) (hp : putErr (H.getD n.toNat pgi0).1 (H.getD n.toNat pgi0).2.1 (fstI (H.getD n.toNat pgi0).2.2) j i.1 = 0) :
    ∃ H', doL lsn H [(n, j, i)] = some H' ∧ okH H' ∧ H'.length = H.length ∧ (∀ m, hdF (pvL H' m) = hdF (pvL H m) ∧ ofF (pvL H' m) = ofF (pvL H m)) ∧ (hdF (pvL H n) = true → atF (pvL H' n) j = i.2) ∧ ∀ m k, m ≠ n ∨ k ≠ j → atF (pvL H' m) k = atF (pvL H m) k := by
  obtain ⟨p, hpe⟩ : ∃ p, H.getD n.toNat pgi0 = p := ⟨_, rfl⟩
  rw [hpe] at hp
  have hpo : okP p := by rw [← hpe]; exact hH.get (by omega)
  have hd1 : do1 lsn (H.getD n.toNat pgi0) (n, j, i) = some (p.1, lsn, putI p.2.2 j.toNat i) := by rw [hpe, do1, if_neg (show ¬ j = -1 by omega), if_pos hp]
  have hg := putI_get (K := j.toNat) (i := i) hpo.clean hi.clean
  have hpv : pvL H n = ⟨p.1, p.2.1, p.2.2, true⟩ := by rw [pvL_in hn, hpe]
  have hpv2 := pvL_at (p := (p.1, lsn, putI p.2.2 j.toNat i)) hn
  have h0 : (putI p.2.2 j.toNat i).getD 0 it0 = p.2.2.getD 0 it0 := by rw [hg, if_neg (by omega)]
  have hh : hdF (pvL (H.set n.toNat (p.1, lsn, putI p.2.2 j.toNat i)) n) = hdF (pvL H n) := by rw [hpv, hpv2, hdF_eq, hdF_eq]; dsimp only; rw [h0]
  refine ⟨_, doL_one (e := (n, j, i)) hn hd1, hH.set (hpo.put hl hi hp), List.length_set .., fun m => ?_, fun hhd => ?_, fun m k hmk => ?_⟩
  · by_cases e : m = n
    · subst e
      refine ⟨hh, ?_⟩
      rw [ofF_eq, ofF_eq, hh, hpv, hpv2]
      dsimp only
      rw [h0]
    · dsimp only
      rw [pvL_ne hn.1 e]; exact ⟨rfl, rfl⟩
  · dsimp only
    rw [atF_eq, hh, if_pos ⟨hhd, hj⟩, hpv2]
    dsimp only
    rw [hg, if_pos rfl]
  · dsimp only
    by_cases e : m = n
    · subst e
      rw [atF_eq, atF_eq, hh, hpv, hpv2]
      dsimp only
      by_cases h1 : 1 ≤ k
      · have h2 : k.toNat ≠ j.toNat := by
          rcases hmk with h3 | h3
          · exact absurd rfl h3
          · omega
        rw [hg, if_neg h2]
      · rw [if_neg (fun h2 => h1 h2.2), if_neg (fun h2 => h1 h2.2)]
    · rw [pvL_ne hn.1 e]
theorem roomI_pos {v : PV} {s : ByteArray} (h : 0 < roomI v s) : v.ok = true ∧ putErr v.k v.l (fstI v.its) (roomI v s) s = 0 ∧ roomI v s < 24 ∧ (v.its.getD (roomI v s).toNat it0).1.size = 0 := by
  rw [roomI] at h ⊢
  split at h
  · rename_i h1
    rw [if_pos h1]
    split at h
    · rename_i h2
      rw [if_pos h2]
      refine ⟨h1, h2, ?_⟩
      obtain ⟨f, hf⟩ : ∃ f, freeF v.k v.l (v.its.map Prod.fst) 1 = f := ⟨_, rfl⟩
      rw [hf] at h ⊢
      rw [freeF] at hf
      split at hf
      · rw [show (max (1 : Int) 0).toNat = 1 from rfl] at hf
        rcases frL_spec (v.its.map Prod.fst) (24 - 1) 1 with ⟨h3, _⟩ | ⟨j, h3, h4, h5, h6, _⟩
        · rw [h3] at hf; omega
        · rw [h3] at hf
          subst hf
          refine ⟨by omega, ?_⟩
          rw [item_get] at h6
          have := (emp_size _).1 h6
          rw [show (v.its.map Prod.fst) = fstI v.its from rfl, fstI_getD] at this
          exact this
      · omega
    · omega
  · omega
theorem put_new {H : List PgI} {lsn n : Int} {v : VerD} (hH : okH H) (hl : 0 ≤ lsn ∧ lsn ≤ 2147483647) (hv : okD v) (hq : 0 < roomI (pvL H n) (txD v)) (hh : hdF (pvL H n) = true) :
    ∃ H', doL lsn H [(n, roomI (pvL H n) (txD v), (txD v, some v))] = some H' ∧ okH H' ∧ H'.length = H.length ∧ (∀ m, hdF (pvL H' m) = hdF (pvL H m) ∧ ofF (pvL H' m) = ofF (pvL H m)) ∧ atF (pvL H' n) (roomI (pvL H n) (txD v)) = some v ∧
      atF (pvL H n) (roomI (pvL H n) (txD v)) = none ∧ ∀ m k, m ≠ n ∨ k ≠ roomI (pvL H n) (txD v) → atF (pvL H' m) k = atF (pvL H m) k := by
  obtain ⟨h1, h2, h3, h4⟩ := roomI_pos hq
  have hn := pvL_ok h1
  have hpv := pvL_in hn
  obtain ⟨H', g1, g2, g3, g4, g5, g6⟩ := put_core (i := (txD v, some v)) hH hl hn (show 1 ≤ roomI (pvL H n) (txD v) by omega) ⟨hv, rfl⟩ (by
    have : putErr (pvL H n).k (pvL H n).l (fstI (pvL H n).its) (roomI (pvL H n) (txD v)) (txD v) = 0 := h2
    generalize roomI (pvL H n) (txD v) = q at this ⊢
    rw [hpv] at this
    exact this)
  refine ⟨H', g1, g2, g3, g4, g5 hh, ?_, g6⟩
  rw [atF_eq, if_pos ⟨hh, by omega⟩]
  have hc : clean (pvL H n).its := by rw [hpv]; exact (hH.get (by omega)).clean
  rw [clean_getD hc h4]
  rfl
theorem sizeT_take (l : List ByteArray) (k : Nat) : sizeT (l.take k) ≤ sizeT l := by
  have := sizeT_append (l.take k) (l.drop k)
  rw [List.take_append_drop] at this
  omega
theorem sizeT_plain (l : List ByteArray) : sizeT (plainL l) ≤ sizeT l := sizeT_take _ _
theorem putErr_old {k l j : Int} {ss : List ByteArray} {s : ByteArray} (hr : rightB k l ss = true) (hj : 0 ≤ j) (h0 : 0 < (ss.getD j.toNat ByteArray.empty).size) (hs : s.size = (ss.getD j.toNat ByteArray.empty).size) : putErr k l ss j s = 0 := by
  obtain ⟨_, _, ⟨h24, hsz⟩, h512⟩ := right_parts hr
  have hjl : j.toNat < ss.length := by
    rcases Nat.lt_or_ge j.toNat ss.length with g | g
    · exact g
    · rw [getD_ge g] at h0; exact absurd h0 (by decide)
  have hg : ss.getD j.toNat ByteArray.empty = ss[j.toNat] := by rw [List.getD_eq_getElem?_getD, List.getElem?_eq_getElem hjl, Option.getD_some]
  have h400 := hsz _ (List.getElem_mem hjl)
  rw [hg] at h0 hs
  have hpl : j.toNat < (plainL ss).length := by
    rcases Nat.lt_or_ge j.toNat (trimN ss ss.length) with g | g
    · rw [plainL, List.length_take]; omega
    · have := (emp_size _).1 (trimN_emp ss ss.length j.toNat g hjl)
      rw [item_get, hg] at this
      omega
  have ew : withL ss j.toNat s = (plainL ss).set j.toNat s := by
    rw [withL, padTo, show j.toNat + 1 - (plainL ss).length = 0 by omega]
    simp
  have h1 := sizeT_set (plainL ss) j.toNat s hpl
  have h2 : (plainL ss)[j.toNat] = ss[j.toNat] := by rw [plain_get hpl, item_get, hg]
  rw [h2] at h1
  have h3 := sizeT_plain (withL ss j.toNat s)
  rw [putErr, hr, if_neg (by decide), if_neg (by omega), if_neg ?_]
  rw [sizeL] at h512 ⊢
  rw [ew] at h3 ⊢
  omega
theorem put_old {H : List PgI} {lsn n j : Int} {v v' : VerD} (hH : okH H) (hl : 0 ≤ lsn ∧ lsn ≤ 2147483647) (ha : atF (pvL H n) j = some v) (hv : okD v') (hsz : v'.2.2.2.2.2 = v.2.2.2.2.2) :
    ∃ H', doL lsn H [(n, j, (txD v', some v'))] = some H' ∧ okH H' ∧ H'.length = H.length ∧ (∀ m, hdF (pvL H' m) = hdF (pvL H m) ∧ ofF (pvL H' m) = ofF (pvL H m)) ∧ atF (pvL H' n) j = some v' ∧ ∀ m k, m ≠ n ∨ k ≠ j → atF (pvL H' m) k = atF (pvL H m) k := by
  rw [atF_eq] at ha
  split at ha
  · rename_i h1
    have hok : (pvL H n).ok = true := by
      have := h1.1
      rw [hdF_eq, Bool.and_eq_true] at this
      exact this.1
    have hn := pvL_ok hok
    have hpv := pvL_in hn
    have hpo := hH.get (n := n.toNat) (by omega)
    have ha2 : ((H.getD n.toNat pgi0).2.2.getD j.toNat it0).2 = some v := by rw [hpv] at ha; exact ha
    have hD : Desc ((H.getD n.toNat pgi0).2.2.getD j.toNat it0).1 ((H.getD n.toNat pgi0).2.2.getD j.toNat it0).2 := by
      rcases getD_mem_or (H.getD n.toNat pgi0).2.2 it0 j.toNat with h2 | h2
      · exact hpo.2 _ h2
      · rw [h2] at ha2; cases ha2
    rw [ha2] at hD
    have hs1 := txD_size hD.1
    have hs2 := txD_size hv
    rw [hsz] at hs2
    obtain ⟨H', g1, g2, g3, g4, g5, g6⟩ := put_core (i := (txD v', some v')) hH hl hn h1.2 ⟨hv, rfl⟩ (putErr_old hpo.1 (by omega) (by rw [fstI_getD, hD.2]; omega) (by rw [fstI_getD, hD.2]; show (txD v').size = _; omega))
    exact ⟨H', g1, g2, g3, g4, g5 h1.1, g6⟩
  · cases ha
end
end Go.Proofs.YtjnplglnnamfdaaDoor

/- HeapAtOnceRow9: part 4 of the proof. -/
import Derived.Test.YtjnplglnnamfdaaDoorZ3
import Derived.Maps.OwnSet
import Derived.Maps.Views
import Derived.Carry
set_option linter.unusedVariables false
set_option linter.unusedSimpArgs false
namespace Go.Proofs.YtjnplglnnamfdaaDoor
section
open Go.RowKit
set_option linter.unusedVariables false
set_option linter.unusedSimpArgs false
theorem insA_len (pv : Int → PV) (fresh tb : Int) (ns : List Int) (s : ByteArray) : (insA pv fresh tb ns s).2.1.length ≤ 3 := by
  rw [insA]
  split
  · exact Nat.zero_le _
  · rw [insR]
    split
    · show 1 ≤ 3; decide
    · split
      · exact Nat.zero_le _
      · show 3 ≤ 3; decide
theorem atF_desc {v : PV} (h : v.wf) (j : Int) : ∃ s, Desc s (atF v j) := by
  rw [atF]
  split
  · have hj : j.toNat < v.its.length := by omega
    exact ⟨_, PV.desc h hj⟩
  · exact ⟨ByteArray.empty, by show 0 < 8; decide⟩
theorem atF_len {v : PV} (h : v.wf) (j : Int) : (vD (atF v j)).2.2.2.2.2.length ≤ 6 := by
  obtain ⟨s, hs⟩ := atF_desc h j
  exact hs.bd.2.2.2.2.2.2.2.2
def updBad (xid : Int) (s : ByteArray) (fresh tb : Int) : Bool := (((!(onF xid) || (s.toList == (⟨#[]⟩ : ByteArray).toList)) || (decide (tb < 0))) || (decide (65535 < tb))) || (decide (400 ≤ fresh))
def updQ (pv : Int → PV) (n : Int) (hot : Bool) (s : ByteArray) : Int := if hot then roomI (pv n) s else 0
def newB (xid : Int) (hot : Bool) (rs : List Val) : ByteArray := tbytesF xid 0 (-1) 0 hot rs
def oldB (o : VerD) (xid a b : Int) : ByteArray := tbytesF o.1 xid a b o.2.2.2.2.1 o.2.2.2.2.2
def updR (pv : Int → PV) (fresh tb : Int) (ns : List Int) (n j xid : Int) (hot : Bool) (rs : List Val) : (Int × Int) × Bool × List EdD × Int :=
  if 0 < updQ pv n hot (newB xid true rs) then ((n, updQ pv n hot (newB xid true rs)), true, [(n, updQ pv n hot (newB xid true rs), newB xid true rs), (n, j, oldB (vD (atF (pv n) j)) xid n (updQ pv n hot (newB xid true rs)))], 0)
  else if (insA pv fresh tb ns (newB xid false rs)).2.2 ≠ 0 then ((0, 0), false, [], (insA pv fresh tb ns (newB xid false rs)).2.2)
  else ((insA pv fresh tb ns (newB xid false rs)).1, false, (insA pv fresh tb ns (newB xid false rs)).2.1 ++ [(n, j, oldB (vD (atF (pv n) j)) xid (insA pv fresh tb ns (newB xid false rs)).1.1 (insA pv fresh tb ns (newB xid false rs)).1.2)], 0)
def updA (pv : Int → PV) (fresh tb : Int) (ns : List Int) (n j xid : Int) (hot : Bool) (rs : List Val) : (Int × Int) × Bool × List EdD × Int :=
  if !(atF (pv n) j).isSome then ((0, 0), false, [], 21) else if updBad xid (newB xid true rs) fresh tb then ((0, 0), false, [], 1) else updR pv fresh tb ns n j xid hot rs
def UpdPost (R : (Int × Int) × Bool × List EdD × Int) (w : World) (e : Ending) (w' : World) : Prop := ∃ A c, e = .returned (.tuple #[.agg #[.int .i64 R.1.1, .int .i64 R.1.2], .bool R.2.1, .slice A R.2.2.1.length c, .int .i64 R.2.2.2]) ∧
  w'.ownsRow w.heap.size 99 3 (.slice A R.2.2.1.length c) R.2.2.1.length (R.2.2.1.flatMap cellsE) ∧ Ext w w'
theorem UpdPost.of {R : (Int × Int) × Bool × List EdD × Int} {w w' : World} {a1 a2 er : Int} {b : Bool} {A : Option Addr} {c n : Nat} {l : List EdD} {xs : List Value} (h : R = ((a1, a2), b, l, er)) (hn : n = l.length) (hxs : xs = l.flatMap cellsE) (ho : w'.ownsRow w.heap.size 99 3 (.slice A n c) n xs) (hx : Ext w w') :
    UpdPost R w (.returned (.tuple #[.agg #[.int .i64 a1, .int .i64 a2], .bool b, .slice A n c, .int .i64 er])) w' := by
  subst hn hxs h
  exact ⟨A, c, rfl, ho, hx⟩
theorem UpdPost.nil {R : (Int × Int) × Bool × List EdD × Int} {w w' : World} {a1 a2 er : Int} {b : Bool} (h : R = ((a1, a2), b, [], er)) (hx : Ext w w') :
    UpdPost R w (.returned (.tuple #[.agg #[.int .i64 a1, .int .i64 a2], .bool b, .slice none 0 0, .int .i64 er])) w' := UpdPost.of h rfl rfl (World.ownsRow_nil _ _ _ _) hx
def delA (pv : Int → PV) (n j xid : Int) : List EdD × Int := if !(atF (pv n) j).isSome then ([], 21) else if !(onF xid) then ([], 1) else ([(n, j, oldB (vD (atF (pv n) j)) xid (-1) 0)], 0)
def DelPost (R : List EdD × Int) (w : World) (e : Ending) (w' : World) : Prop := ∃ A c, e = .returned (.tuple #[.slice A R.1.length c, .int .i64 R.2]) ∧
  w'.ownsRow w.heap.size 99 3 (.slice A R.1.length c) R.1.length (R.1.flatMap cellsE) ∧ Ext w w'
theorem DelPost.of {R : List EdD × Int} {w w' : World} {er : Int} {A : Option Addr} {c n : Nat} {l : List EdD} {xs : List Value} (h : R = (l, er)) (hn : n = l.length) (hxs : xs = l.flatMap cellsE) (ho : w'.ownsRow w.heap.size 99 3 (.slice A n c) n xs) (hx : Ext w w') :
    DelPost R w (.returned (.tuple #[.slice A n c, .int .i64 er])) w' := by
  subst hn hxs h
  exact ⟨A, c, rfl, ho, hx⟩
theorem DelPost.nil {R : List EdD × Int} {w w' : World} {er : Int} (h : R = ([], er)) (hx : Ext w w') : DelPost R w (.returned (.tuple #[.slice none 0 0, .int .i64 er])) w' := DelPost.of h rfl rfl (World.ownsRow_nil _ _ _ _) hx
set_option maxRecDepth 100000 in
set_option maxHeartbeats 2000000 in
theorem hdelete_any (tt : TypeId) (tv : Value) (pv : Int → PV) (n j xid : Int) (w : World) (hS : PgsOk w tt tv pv) (hN : NoneAt w) :
    Calls Tryd.prog 14 #[.iface tt (tv), .agg #[.int .i64 n, .int .i64 j], .int .i64 xid] w (DelPost (delA pv n j xid) w) := by
  have hwf := hS.wf n
  go_enter Tryd.func14, Tryd.ntmps14
  have hst0 := St.start w
  refine wp_seq (wp_region_Y [0, 0, 2] [] [[0]] [] [.a 4, .k 6 (.slice none 0 0), .k 7 (vi 0)] (fun ix σ β X => match ix with | 0 => σ 4 = vp (pb (β 4)) ∧ X 0 = eB (pb (β 4)) 24 #[vi n, vi j] | _ => True) [0] [0] [(4, 0, 1, 5), (1, 1, 2, 3)] hst0 ?_ ?_ ?_)
  · exact fun ix _ _ _ _ _ _ hs hb hx h => match ix, h with
    | 0, h => by dsimp only at h ⊢; rw [← hs 4 rfl, ← hb 4 rfl, ← hx 0 rfl]; exact h
    | _ + 1, _ => trivial
  · refine ⟨?_, trivial⟩
    · refine sv_any rfl rfl fun ρ β W X cx => ?_
      exact dv_box (cs := #[vi n, vi j]) rfl (cx.ou 1) rfl rfl rfl (fun σ β' X' hs hb hv hx => ⟨hv, hx⟩)
  intro σ β X W1 hD hst1 fr hfr
  obtain ⟨B4_1, hu_B4_1⟩ : ∃ z, pb (β 4) = z := ⟨_, rfl⟩
  simp only [exq 0 ((dTn (hD 0 lq)).2), hu_B4_1] at hst1
  simp only [ed 4 ((dTn (hD 0 lq)).1), hu_B4_1] at hfr
  clear hD hu_B4_1; subst hfr; clear σ β X
  refine then_normal (wp_seq (wp_region_Y [0, 0, 3, 7, 15, 15, 0, 95, 255] [[], [0], [], [], [], [], [], [2]] [[], [], [1], [], [], [], [2], [3]] [[], [], [], [], [], [], [], [2]] [.k 11 (.iface tt (tv)), .c 12 (.agg #[vi n, vi j]), .a 13, .a 10, .a 14, .c 15 (.bool ((atF (pv n) j).isSome)), .a 8, .n, .k 9 (.bool ((atF (pv n) j).isSome))] (fun ix σ β X => match ix with | 0 => True | 1 => True | 2 => σ 13 = .tuple #[.agg #[vi ((vD (atF (pv n) j)).1), vi ((vD (atF (pv n) j)).2.1), vi ((vD (atF (pv n) j)).2.2.1), vi ((vD (atF (pv n) j)).2.2.2.1), .bool ((vD (atF (pv n) j)).2.2.2.2.1), .slice (sA (tg (tg (β 13) 0) 5)) ((vD (atF (pv n) j)).2.2.2.2.2.length) (sC (tg (tg (β 13) 0) 5))], .bool ((atF (pv n) j).isSome)] ∧ X 1 = eO 82 3 (.slice (sA (tg (tg (β 13) 0) 5)) ((vD (atF (pv n) j)).2.2.2.2.2.length) (sC (tg (tg (β 13) 0) 5))) ((vD (atF (pv n) j)).2.2.2.2.2.length) (flatR (vD (atF (pv n) j)).2.2.2.2.2) | 3 => σ 10 = .tuple #[.agg #[vi ((vD (atF (pv n) j)).1), vi ((vD (atF (pv n) j)).2.1), vi ((vD (atF (pv n) j)).2.2.1), vi ((vD (atF (pv n) j)).2.2.2.1), .bool ((vD (atF (pv n) j)).2.2.2.2.1), .slice (sA (tg (tg (β 13) 0) 5)) ((vD (atF (pv n) j)).2.2.2.2.2.length) (sC (tg (tg (β 13) 0) 5))], .bool ((atF (pv n) j).isSome)] | 4 => σ 14 = .agg #[vi ((vD (atF (pv n) j)).1), vi ((vD (atF (pv n) j)).2.1), vi ((vD (atF (pv n) j)).2.2.1), vi ((vD (atF (pv n) j)).2.2.2.1), .bool ((vD (atF (pv n) j)).2.2.2.2.1), .slice (sA (tg (tg (β 13) 0) 5)) ((vD (atF (pv n) j)).2.2.2.2.2.length) (sC (tg (tg (β 13) 0) 5))] | 5 => True | 6 => σ 8 = vp (pb (β 8)) ∧ X 2 = eB (pb (β 8)) 41 #[vi 0, vi 0, vi 0, vi 0, .bool false, .slice none 0 0] | 7 => X 3 = eB (pb (β 8)) 41 #[vi ((vD (atF (pv n) j)).1), vi ((vD (atF (pv n) j)).2.1), vi ((vD (atF (pv n) j)).2.2.1), vi ((vD (atF (pv n) j)).2.2.2.1), .bool ((vD (atF (pv n) j)).2.2.2.2.1), .slice (sA (tg (tg (β 13) 0) 5)) ((vD (atF (pv n) j)).2.2.2.2.2.length) (sC (tg (tg (β 13) 0) 5))] | _ => True) [0, 1, 3] [1, 2, 3, 4, 5, 6, 7] [(8, 6, 3, 10), (0, 3, 1, 1), (0, 0, 3, 3), (0, 4, 2, 2)] hst1 ?_ ?_ ?_))
  · exact fun ix _ _ _ _ _ _ hs hb hx h => match ix, h with
    | 2, h => by dsimp only at h ⊢; rw [← hs 13 rfl, ← hb 13 rfl, ← hx 1 rfl]; exact h
    | 3, h => by dsimp only at h ⊢; rw [← hs 10 rfl, ← hb 13 rfl]; exact h
    | 4, h => by dsimp only at h ⊢; rw [← hs 14 rfl, ← hb 13 rfl]; exact h
    | 6, h => by dsimp only at h ⊢; rw [← hs 8 rfl, ← hb 8 rfl, ← hx 2 rfl]; exact h
    | 7, h => by dsimp only at h ⊢; rw [← hb 8 rfl, ← hb 13 rfl, ← hx 3 rfl]; exact h
    | 0, _ | 1, _ | 5, _ | _ + 8, _ => trivial
  · refine ⟨?_, ?_, ?_, ?_, ?_, ?_, ?_, trivial⟩
    · exact xs4 rfl id fun cx => run_loadB (n := 2) rfl (by kernel_rfl) (by kernel_rfl) (cx.ou 4) (cx.bi 0 rfl) (nle rfl) rfl
    · refine sv_any rfl rfl fun ρ β W X cx => ?_
      refine DoesU.call (run_callF (args := #[.iface tt (tv), .agg #[vi n, vi j]]) rfl cx.sees rfl (by kernel_rfl) (map2 (cx.an 0) (cx.an 1))) ?_
      refine (hget_any _ _ pv n j _ (hS.ext cx.upd.to_ext) (hN.ext cx.upd.to_ext)).mono ?_
      rintro e W1 ⟨A4, c4, rfl, ho, hx⟩
      refine ⟨_, rfl, post_call [eO 82 3 (.slice A4 (vD (atF (pv n) j)).2.2.2.2.2.length c4) (vD (atF (pv n) j)).2.2.2.2.2.length (flatR (vD (atF (pv n) j)).2.2.2.2.2)] rfl rfl hx (one_new (eO_new ho)) (List.pairwise_singleton _ _) (fun σ β' X' hs hb hv hN => ?_)⟩
      have hv1 := (hv 13 rfl).1; have hv2 := (hv 13 rfl).2
      exact ⟨hv1.trans (by rw [hv2]; rfl), (by rw [hv2]; exact (List.cons.inj hN).1)⟩
    · exact sv rfl rfl rfl rfl rfl _ (fun _ _ _ h => h) (fun β β' h => by rw [h 13 (by decide)]) fun ρ β W X cx => run_move' rfl (dTn (cx.an 2)).1
    · exact sv rfl rfl rfl rfl rfl _ (fun _ _ _ h => h) (fun β β' h => by rw [h 13 (by decide)]) fun ρ β W X cx => run_extract' rfl (dTn (cx.an 3)) rfl
    · exact xs4 rfl id fun cx => run_extract' rfl (dTn (cx.an 3)) rfl
    · refine sv_any rfl rfl fun ρ β W X cx => ?_
      exact dv_alloc (cs := #[vi 0, vi 0, vi 0, vi 0, .bool false, .slice none 0 0]) rfl (by kernel_rfl) rfl rfl (fun σ β' X' hs hb hv hx => ⟨hv, hx⟩)
    · refine sv_any rfl rfl fun ρ β W X cx => ?_
      exact dv_store (n := 6) rfl (dTn (cx.an 6)).1 (dTn (cx.an 4)) (by kernel_rfl) (by kernel_rfl) (by kernel_rfl) cx (dTn (cx.an 6)).2 rfl (nle rfl) (by kernel_rfl) rfl rfl rfl (fun σ β' X' hs hb hx => by rw [hb 8, hb 13]; exact hx)
  intro σ β X W2 hD hst2 fr hfr
  obtain ⟨A13_2, hu_A13_2⟩ : ∃ z, sA (tg (tg (β 13) 0) 5) = z := ⟨_, rfl⟩
  obtain ⟨c13_2, hu_c13_2⟩ : ∃ z, sC (tg (tg (β 13) 0) 5) = z := ⟨_, rfl⟩
  obtain ⟨B8_2, hu_B8_2⟩ : ∃ z, pb (β 8) = z := ⟨_, rfl⟩
  simp only [exq 1 ((dTn (hD 2 lq)).2), exq 3 ((dTn (hD 7 lq))), hu_A13_2, hu_c13_2, hu_B8_2] at hst2
  simp only [ed 13 ((dTn (hD 2 lq)).1), ed 10 ((dTn (hD 3 lq))), ed 14 ((dTn (hD 4 lq))), ed 8 ((dTn (hD 6 lq)).1), hu_A13_2, hu_c13_2, hu_B8_2] at hfr
  clear hD hu_A13_2 hu_c13_2 hu_B8_2; subst hfr; clear σ β X
  obtain ⟨od, hN_od⟩ : ∃ z, (vD (atF (pv n) j)) = z := ⟨_, rfl⟩
  rw [hN_od] at hst2 ⊢
  have hol : od.2.2.2.2.2.length ≤ 6 := by rw [← hN_od]; exact atF_len hwf j
  refine then_normal (wp_seq (wp_seq (wp_region_P [0, 1] [.k 16 (.bool ((atF (pv n) j).isSome)), .k 17 (.bool (!((atF (pv n) j).isSome)))] [(16, 0, 2, 18)] hst2 fun W3 hst3 => ?_)))
  refine then_normal ?_
  rcases Bool.eq_false_or_eq_true ((atF (pv n) j).isSome) with hs4 | hs4
  · skip
    refine wp_cond_false (show Act.eval _ _ = .bool false from (congrArg Value.bool (by rw [hs4]; rfl))) (wp_skip (then_normal (wp_seq (wp_seq (wp_region_Z [0, 1, 3] [] [.k 18 (vi xid), .c 19 (.bool (onF xid)), .k 20 (.bool (!(onF xid)))] [0, 1, 2] [1] [(18, 0, 3, 21)] hst3 ?_ fun W5 hst5 => ?_)))))
    · refine ⟨?_, trivial⟩
      · exact xsc rfl id rfl rfl fun cx => ⟨_, hring_any xid _, (map1 (cx.an 0))⟩
    refine then_normal ?_
    rcases Bool.eq_false_or_eq_true (onF xid) with hs6 | hs6
    · skip
      refine wp_cond_false (show Act.eval _ _ = .bool false from (congrArg Value.bool (by rw [hs6]; rfl))) (wp_skip (then_normal (wp_seq (wp_region_Y [0, 0, 1, 7, 15, 31] [[], [], [], [2], [], [3]] [[], [], [], [3], [], [4]] [[], [], [], [2], [], [3]] [.k 21 (vi xid), .c 22 (.agg #[vi (-1), vi 0]), .k 23 (.pointer (some ⟨B8_2, 1, none⟩)), .n, .k 24 (.pointer (some ⟨B8_2, 2, none⟩)), .n] (fun ix σ β X => match ix with | 0 => True | 1 => True | 2 => True | 3 => X 3 = eB B8_2 41 #[vi (od.1), vi xid, vi (od.2.2.1), vi (od.2.2.2.1), .bool (od.2.2.2.2.1), .slice A13_2 (od.2.2.2.2.2.length) c13_2] | 4 => True | 5 => X 4 = eB B8_2 41 #[vi (od.1), vi xid, vi (-1), vi 0, .bool (od.2.2.2.2.1), .slice A13_2 (od.2.2.2.2.2.length) c13_2] | _ => True) [0, 1, 4] [1, 3, 5] [(21, 0, 5, 25)] hst5 ?_ ?_ ?_))))
      · exact fun ix _ _ _ _ _ _ hs hb hx h => match ix, h with
        | 3, h => by dsimp only at h ⊢; rw [← hx 3 rfl]; exact h
        | 5, h => by dsimp only at h ⊢; rw [← hx 4 rfl]; exact h
        | 0, _ | 1, _ | 2, _ | 4, _ | _ + 6, _ => trivial
      · refine ⟨?_, ?_, ?_, trivial⟩
        · exact xsc rfl id rfl rfl fun cx => ⟨_, hnone_any _, map0⟩
        · refine sv_any rfl rfl fun ρ β W X cx => ?_
          exact dv_store (n := 1) rfl (cx.an 2) (cx.an 0) (by kernel_rfl) (by kernel_rfl) (by kernel_rfl) cx (cx.init 2 _ rfl) rfl (nle rfl) (by kernel_rfl) rfl rfl rfl (fun σ β' X' hs hb hx => hx)
        · refine sv_any rfl rfl fun ρ β W X cx => ?_
          exact dv_store (n := 2) rfl (cx.an 4) (cx.an 1) (by kernel_rfl) (by kernel_rfl) (by kernel_rfl) cx (dTn (cx.an 3)) rfl (nle rfl) (by kernel_rfl) rfl rfl rfl (fun σ β' X' hs hb hx => hx)
      intro σ β X W7 hD hst7 fr hfr
      simp only [exq 4 ((dTn (hD 5 lq)))] at hst7
      clear hD; subst hfr; clear σ β X
      refine then_normal (wp_seq (wp_region_Y [0, 1, 0, 4, 0, 16, 63, 127, 255, 511] [[], [0], [], [0], [2], [1]] [[], [], [], [], [], [], [], [3]] [] [.k 25 (vp B4_1), .c 26 (vi n), .k 27 (.pointer (some ⟨B4_1, 1, none⟩)), .c 28 (vi j), .c 29 (.agg #[vi (od.1), vi xid, vi (-1), vi 0, .bool (od.2.2.2.2.1), .slice A13_2 (od.2.2.2.2.2.length) c13_2]), .c 30 (.string (tbytesF od.1 xid (-1) 0 od.2.2.2.2.1 od.2.2.2.2.2)), .k 31 (.agg #[vi n, vi j, .string (tbytesF od.1 xid (-1) 0 od.2.2.2.2.1 od.2.2.2.2.2)]), .a 32, .a 6, .k 7 (vi 0)] (fun ix σ β X => match ix with | 0 => True | 1 => True | 2 => True | 3 => True | 4 => True | 5 => True | 6 => True | 7 => σ 32 = .slice ((some ⟨(pb' (β 32)), 0, none⟩)) 1 1 ∧ X 3 = eO 99 3 (.slice ((some ⟨(pb' (β 32)), 0, none⟩)) 1 1) 1 (cellsE (n, j, tbytesF od.1 xid (-1) 0 od.2.2.2.2.1 od.2.2.2.2.2)) | 8 => σ 6 = .slice ((some ⟨(pb' (β 32)), 0, none⟩)) 1 1 | _ => True) [0, 1, 2, 3] [1, 3, 4, 5, 7, 8] [(6, 8, 2, 8), (17, 0, 8, 25)] hst7 ?_ ?_ ?_))
      · exact fun ix _ _ _ _ _ _ hs hb hx h => match ix, h with
        | 7, h => by dsimp only at h ⊢; rw [← hs 32 rfl, ← hb 32 rfl, ← hx 3 rfl]; exact h
        | 8, h => by dsimp only at h ⊢; rw [← hs 6 rfl, ← hb 32 rfl]; exact h
        | 0, _ | 1, _ | 2, _ | 3, _ | 4, _ | 5, _ | 6, _ | _ + 9, _ => trivial
      · refine ⟨?_, ?_, ?_, ?_, ?_, ?_, trivial⟩
        · exact xs4 rfl id fun cx => run_load1 rfl (by kernel_rfl) (cx.an 0) ((cx.bi 0 rfl).cell 0)
        · exact xs4 rfl id fun cx => run_load1 rfl (by kernel_rfl) (cx.an 2) ((cx.bi 0 rfl).cell 1)
        · exact xs4 rfl id fun cx => run_loadB (n := 6) rfl (by kernel_rfl) (by kernel_rfl) (cx.ou 8) (cx.bi 2 rfl) (nle rfl) rfl
        · exact xsc rfl id rfl rfl fun cx => ⟨_, tbytes_any od.1 xid (-1) 0 od.2.2.2.2.1 _ _ od.2.2.2.2.2 _ (At.of_ownN (cx.ri 1 rfl)) (by first | omega | decide | (simp; done) | (simp; omega)) (hN.ext cx.upd.to_ext), (map1 (cx.an 4))⟩
        · refine sv_any rfl rfl fun ρ β W X cx => ?_
          have fF31 : ρ (.tmp 31) = .agg #[vi n, vi j, .string (tbytesF od.1 xid (-1) 0 od.2.2.2.2.1 od.2.2.2.2.2)] := (cx.an 6)
          exact dv_litN (e := 99) (sz := 3) (xs := [vi n, vi j, .string (tbytesF od.1 xid (-1) 0 od.2.2.2.2.1 od.2.2.2.2.2)]) rfl (by simp [go_sem, fF31]) rfl (by decide) rfl rfl (fun σ β' X' hs hb hv hx => ⟨hv, hx⟩)
        · exact sv rfl rfl rfl rfl rfl _ (fun _ _ _ h => h) (fun β β' h => by rw [h 32 (by decide)]) fun ρ β W X cx => run_assign' rfl (dTn (cx.an 7)).1
      intro σ β X W8 hD hst8 fr hfr
      obtain ⟨B32_8, hu_B32_8⟩ : ∃ z, pb' (β 32) = z := ⟨_, rfl⟩
      simp only [exq 3 ((dTn (hD 7 lq)).2), hu_B32_8] at hst8
      simp only [ed 32 ((dTn (hD 7 lq)).1), ed 6 ((dTn (hD 8 lq))), hu_B32_8] at hfr
      clear hD hu_B32_8; subst hfr; clear σ β X
      refine then_normal (wp_ret ?_)
      refine bodyPost_ret (v := .tuple #[.slice ((some ⟨B32_8, 0, none⟩)) 1 1, vi 0]) (by simp [results, Tryd.results14, go_sem]) rfl ?_
      exact DelPost.of (l := [(n, j, oldB od xid (-1) 0)]) (by rw [delA, if_neg (by rw [hs4]; decide), if_neg (by rw [hs6]; decide), hN_od]) rfl rfl (hst8.own' 3 rfl) hst8.ext
    refine wp_cond_true (show Act.eval _ _ = .bool true from (congrArg Value.bool (by rw [hs6]; rfl))) (wp_seq (wp_region_P [0, 1] [.k 6 (.slice none 0 0), .k 7 (vi 1)] [(6, 0, 2, 8)] hst5 fun W9 hst9 => ?_))
    refine then_normal (wp_ret (then_ret ?_))
    refine bodyPost_ret (v := .tuple #[.slice none 0 0, vi 1]) (by simp [results, Tryd.results14, go_sem]) rfl ?_
    exact DelPost.nil (by rw [delA, if_neg (by rw [hs4]; decide), if_pos (by rw [hs6]; rfl)]) hst9.ext
  refine wp_cond_true (show Act.eval _ _ = .bool true from (congrArg Value.bool (by rw [hs4]; rfl))) (wp_seq (wp_region_P [0, 1] [.k 6 (.slice none 0 0), .k 7 (vi 21)] [(6, 0, 2, 8)] hst3 fun W10 hst10 => ?_))
  refine then_normal (wp_ret (then_ret ?_))
  refine bodyPost_ret (v := .tuple #[.slice none 0 0, vi 21]) (by simp [results, Tryd.results14, go_sem]) rfl ?_
  exact DelPost.nil (by rw [delA, if_pos (by rw [hs4]; rfl)]) hst10.ext
set_option maxRecDepth 100000 in
set_option maxHeartbeats 16000000 in
theorem hupdate_any (tt : TypeId) (tv : Value) (pv : Int → PV) (NA : Option Addr) (nc : Nat) (ns : List Int) (fresh tb n j xid : Int) (RA : Option Addr) (rc : Nat) (rs : List Val) (hot : Bool) (w : World) (hS : PgsOk w tt tv pv) (hA : At w NA (ns.map (Value.int .i64))) (hnl : ns.length ≤ 100000) (hR : At w RA (flatR rs)) (hrl : rs.length ≤ 9223372036854775807) (hN : NoneAt w) :
    Calls Tryd.prog 13 #[.iface tt (tv), .slice NA ns.length nc, .int .i64 fresh, .int .i64 tb, .agg #[.int .i64 n, .int .i64 j], .int .i64 xid, .slice RA rs.length rc, .bool hot] w (UpdPost (updA pv fresh tb ns n j xid hot rs) w) := by
  have hwf := hS.wf n
  go_enter Tryd.func13, Tryd.ntmps13
  have hst0 := St.start w
  refine wp_seq (wp_region_Y [0, 0, 0, 4, 12] [] [[0], [1]] [] [.a 12, .a 16, .k 17 (.bool false), .k 18 (.slice none 0 0), .k 19 (vi 0)] (fun ix σ β X => match ix with | 0 => σ 12 = vp (pb (β 12)) ∧ X 0 = eB (pb (β 12)) 24 #[vi n, vi j] | 1 => σ 16 = vp (pb (β 16)) ∧ X 1 = eB (pb (β 16)) 24 #[vi 0, vi 0] | _ => True) [0, 1] [0, 1] [(12, 0, 1, 13), (3, 1, 4, 7)] hst0 ?_ ?_ ?_)
  · exact fun ix _ _ _ _ _ _ hs hb hx h => match ix, h with
    | 0, h => by dsimp only at h ⊢; rw [← hs 12 rfl, ← hb 12 rfl, ← hx 0 rfl]; exact h
    | 1, h => by dsimp only at h ⊢; rw [← hs 16 rfl, ← hb 16 rfl, ← hx 1 rfl]; exact h
    | _ + 2, _ => trivial
  · refine ⟨?_, ?_, trivial⟩
    · refine sv_any rfl rfl fun ρ β W X cx => ?_
      exact dv_box (cs := #[vi n, vi j]) rfl (cx.ou 4) rfl rfl rfl (fun σ β' X' hs hb hv hx => ⟨hv, hx⟩)
    · refine sv_any rfl rfl fun ρ β W X cx => ?_
      exact dv_alloc (cs := #[vi 0, vi 0]) rfl (by kernel_rfl) rfl rfl (fun σ β' X' hs hb hv hx => ⟨hv, hx⟩)
  intro σ β X W1 hD hst1 fr hfr
  obtain ⟨B12_1, hu_B12_1⟩ : ∃ z, pb (β 12) = z := ⟨_, rfl⟩
  obtain ⟨B16_1, hu_B16_1⟩ : ∃ z, pb (β 16) = z := ⟨_, rfl⟩
  simp only [exq 0 ((dTn (hD 0 lq)).2), exq 1 ((dTn (hD 1 lq)).2), hu_B12_1, hu_B16_1] at hst1
  simp only [ed 12 ((dTn (hD 0 lq)).1), ed 16 ((dTn (hD 1 lq)).1), hu_B12_1, hu_B16_1] at hfr
  clear hD hu_B12_1 hu_B16_1; subst hfr; clear σ β X
  refine then_normal (wp_seq (wp_region_Y [0, 0, 3, 7, 15, 15, 0, 95, 255] [[], [0], [], [], [], [], [], [3]] [[], [], [2], [], [], [], [3], [4]] [[], [], [], [], [], [], [], [3]] [.k 28 (.iface tt (tv)), .c 29 (.agg #[vi n, vi j]), .a 30, .a 27, .a 31, .c 32 (.bool ((atF (pv n) j).isSome)), .a 20, .n, .k 21 (.bool ((atF (pv n) j).isSome))] (fun ix σ β X => match ix with | 0 => True | 1 => True | 2 => σ 30 = .tuple #[.agg #[vi ((vD (atF (pv n) j)).1), vi ((vD (atF (pv n) j)).2.1), vi ((vD (atF (pv n) j)).2.2.1), vi ((vD (atF (pv n) j)).2.2.2.1), .bool ((vD (atF (pv n) j)).2.2.2.2.1), .slice (sA (tg (tg (β 30) 0) 5)) ((vD (atF (pv n) j)).2.2.2.2.2.length) (sC (tg (tg (β 30) 0) 5))], .bool ((atF (pv n) j).isSome)] ∧ X 2 = eO 82 3 (.slice (sA (tg (tg (β 30) 0) 5)) ((vD (atF (pv n) j)).2.2.2.2.2.length) (sC (tg (tg (β 30) 0) 5))) ((vD (atF (pv n) j)).2.2.2.2.2.length) (flatR (vD (atF (pv n) j)).2.2.2.2.2) | 3 => σ 27 = .tuple #[.agg #[vi ((vD (atF (pv n) j)).1), vi ((vD (atF (pv n) j)).2.1), vi ((vD (atF (pv n) j)).2.2.1), vi ((vD (atF (pv n) j)).2.2.2.1), .bool ((vD (atF (pv n) j)).2.2.2.2.1), .slice (sA (tg (tg (β 30) 0) 5)) ((vD (atF (pv n) j)).2.2.2.2.2.length) (sC (tg (tg (β 30) 0) 5))], .bool ((atF (pv n) j).isSome)] | 4 => σ 31 = .agg #[vi ((vD (atF (pv n) j)).1), vi ((vD (atF (pv n) j)).2.1), vi ((vD (atF (pv n) j)).2.2.1), vi ((vD (atF (pv n) j)).2.2.2.1), .bool ((vD (atF (pv n) j)).2.2.2.2.1), .slice (sA (tg (tg (β 30) 0) 5)) ((vD (atF (pv n) j)).2.2.2.2.2.length) (sC (tg (tg (β 30) 0) 5))] | 5 => True | 6 => σ 20 = vp (pb (β 20)) ∧ X 3 = eB (pb (β 20)) 41 #[vi 0, vi 0, vi 0, vi 0, .bool false, .slice none 0 0] | 7 => X 4 = eB (pb (β 20)) 41 #[vi ((vD (atF (pv n) j)).1), vi ((vD (atF (pv n) j)).2.1), vi ((vD (atF (pv n) j)).2.2.1), vi ((vD (atF (pv n) j)).2.2.2.1), .bool ((vD (atF (pv n) j)).2.2.2.2.1), .slice (sA (tg (tg (β 30) 0) 5)) ((vD (atF (pv n) j)).2.2.2.2.2.length) (sC (tg (tg (β 30) 0) 5))] | _ => True) [0, 1, 2, 4] [1, 2, 3, 4, 5, 6, 7] [(20, 6, 3, 22), (5, 3, 1, 6), (0, 0, 3, 3), (0, 4, 2, 2)] hst1 ?_ ?_ ?_))
  · exact fun ix _ _ _ _ _ _ hs hb hx h => match ix, h with
    | 2, h => by dsimp only at h ⊢; rw [← hs 30 rfl, ← hb 30 rfl, ← hx 2 rfl]; exact h
    | 3, h => by dsimp only at h ⊢; rw [← hs 27 rfl, ← hb 30 rfl]; exact h
    | 4, h => by dsimp only at h ⊢; rw [← hs 31 rfl, ← hb 30 rfl]; exact h
    | 6, h => by dsimp only at h ⊢; rw [← hs 20 rfl, ← hb 20 rfl, ← hx 3 rfl]; exact h
    | 7, h => by dsimp only at h ⊢; rw [← hb 20 rfl, ← hb 30 rfl, ← hx 4 rfl]; exact h
    | 0, _ | 1, _ | 5, _ | _ + 8, _ => trivial
  · refine ⟨?_, ?_, ?_, ?_, ?_, ?_, ?_, trivial⟩
    · exact xs4 rfl id fun cx => run_loadB (n := 2) rfl (by kernel_rfl) (by kernel_rfl) (cx.ou 12) (cx.bi 0 rfl) (nle rfl) rfl
    · refine sv_any rfl rfl fun ρ β W X cx => ?_
      refine DoesU.call (run_callF (args := #[.iface tt (tv), .agg #[vi n, vi j]]) rfl cx.sees rfl (by kernel_rfl) (map2 (cx.an 0) (cx.an 1))) ?_
      refine (hget_any _ _ pv n j _ (hS.ext cx.upd.to_ext) (hN.ext cx.upd.to_ext)).mono ?_
      rintro e W1 ⟨A4, c4, rfl, ho, hx⟩
      refine ⟨_, rfl, post_call [eO 82 3 (.slice A4 (vD (atF (pv n) j)).2.2.2.2.2.length c4) (vD (atF (pv n) j)).2.2.2.2.2.length (flatR (vD (atF (pv n) j)).2.2.2.2.2)] rfl rfl hx (one_new (eO_new ho)) (List.pairwise_singleton _ _) (fun σ β' X' hs hb hv hN => ?_)⟩
      have hv1 := (hv 30 rfl).1; have hv2 := (hv 30 rfl).2
      exact ⟨hv1.trans (by rw [hv2]; rfl), (by rw [hv2]; exact (List.cons.inj hN).1)⟩
    · exact sv rfl rfl rfl rfl rfl _ (fun _ _ _ h => h) (fun β β' h => by rw [h 30 (by decide)]) fun ρ β W X cx => run_move' rfl (dTn (cx.an 2)).1
    · exact sv rfl rfl rfl rfl rfl _ (fun _ _ _ h => h) (fun β β' h => by rw [h 30 (by decide)]) fun ρ β W X cx => run_extract' rfl (dTn (cx.an 3)) rfl
    · exact xs4 rfl id fun cx => run_extract' rfl (dTn (cx.an 3)) rfl
    · refine sv_any rfl rfl fun ρ β W X cx => ?_
      exact dv_alloc (cs := #[vi 0, vi 0, vi 0, vi 0, .bool false, .slice none 0 0]) rfl (by kernel_rfl) rfl rfl (fun σ β' X' hs hb hv hx => ⟨hv, hx⟩)
    · refine sv_any rfl rfl fun ρ β W X cx => ?_
      exact dv_store (n := 6) rfl (dTn (cx.an 6)).1 (dTn (cx.an 4)) (by kernel_rfl) (by kernel_rfl) (by kernel_rfl) cx (dTn (cx.an 6)).2 rfl (nle rfl) (by kernel_rfl) rfl rfl rfl (fun σ β' X' hs hb hx => by rw [hb 20, hb 30]; exact hx)
  intro σ β X W2 hD hst2 fr hfr
  obtain ⟨A30_2, hu_A30_2⟩ : ∃ z, sA (tg (tg (β 30) 0) 5) = z := ⟨_, rfl⟩
  obtain ⟨c30_2, hu_c30_2⟩ : ∃ z, sC (tg (tg (β 30) 0) 5) = z := ⟨_, rfl⟩
  obtain ⟨B20_2, hu_B20_2⟩ : ∃ z, pb (β 20) = z := ⟨_, rfl⟩
  simp only [exq 2 ((dTn (hD 2 lq)).2), exq 4 ((dTn (hD 7 lq))), hu_A30_2, hu_c30_2, hu_B20_2] at hst2
  simp only [ed 30 ((dTn (hD 2 lq)).1), ed 27 ((dTn (hD 3 lq))), ed 31 ((dTn (hD 4 lq))), ed 20 ((dTn (hD 6 lq)).1), hu_A30_2, hu_c30_2, hu_B20_2] at hfr
  clear hD hu_A30_2 hu_c30_2 hu_B20_2; subst hfr; clear σ β X
  obtain ⟨od, hN_od⟩ : ∃ z, (vD (atF (pv n) j)) = z := ⟨_, rfl⟩
  rw [hN_od] at hst2 ⊢
  have hol : od.2.2.2.2.2.length ≤ 6 := by rw [← hN_od]; exact atF_len hwf j
  refine then_normal (wp_seq (wp_seq (wp_region_P [0, 1] [.k 33 (.bool ((atF (pv n) j).isSome)), .k 34 (.bool (!((atF (pv n) j).isSome)))] [(33, 0, 2, 35)] hst2 fun W3 hst3 => ?_)))
  refine then_normal ?_
  rcases Bool.eq_false_or_eq_true ((atF (pv n) j).isSome) with hs4 | hs4
  · skip
    refine wp_cond_false (show Act.eval _ _ = .bool false from (congrArg Value.bool (by rw [hs4]; rfl))) (wp_skip (then_normal (wp_seq (wp_region_Y [0, 0, 0, 7, 0, 31] [[], [], [], [], [], [4]] [[], [], [], [], [4], [5]] [[], [], [], [], [], [4]] [.k 36 (vi xid), .c 37 (.agg #[vi (-1), vi 0]), .k 38 (.slice RA rs.length rc), .k 39 (.agg #[vi xid, vi 0, vi (-1), vi 0, .bool true, .slice RA rs.length rc]), .a 22, .n] (fun ix σ β X => match ix with | 0 => True | 1 => True | 2 => True | 3 => True | 4 => σ 22 = vp (pb (β 22)) ∧ X 4 = eB (pb (β 22)) 41 #[vi 0, vi 0, vi 0, vi 0, .bool false, .slice none 0 0] | 5 => X 5 = eB (pb (β 22)) 41 #[vi xid, vi 0, vi (-1), vi 0, .bool true, .slice RA rs.length rc] | _ => True) [0, 1, 2, 3, 5] [1, 4, 5] [(22, 4, 1, 23), (13, 0, 4, 17)] hst3 ?_ ?_ ?_))))
    · exact fun ix _ _ _ _ _ _ hs hb hx h => match ix, h with
      | 4, h => by dsimp only at h ⊢; rw [← hs 22 rfl, ← hb 22 rfl, ← hx 4 rfl]; exact h
      | 5, h => by dsimp only at h ⊢; rw [← hb 22 rfl, ← hx 5 rfl]; exact h
      | 0, _ | 1, _ | 2, _ | 3, _ | _ + 6, _ => trivial
    · refine ⟨?_, ?_, ?_, trivial⟩
      · exact xsc rfl id rfl rfl fun cx => ⟨_, hnone_any _, map0⟩
      · refine sv_any rfl rfl fun ρ β W X cx => ?_
        exact dv_alloc (cs := #[vi 0, vi 0, vi 0, vi 0, .bool false, .slice none 0 0]) rfl (by kernel_rfl) rfl rfl (fun σ β' X' hs hb hv hx => ⟨hv, hx⟩)
      · refine sv_any rfl rfl fun ρ β W X cx => ?_
        exact dv_store (n := 6) rfl (dTn (cx.an 4)).1 (cx.an 3) (by kernel_rfl) (by kernel_rfl) (by kernel_rfl) cx (dTn (cx.an 4)).2 rfl (nle rfl) (by kernel_rfl) rfl rfl rfl (fun σ β' X' hs hb hx => by rw [hb 22]; exact hx)
    intro σ β X W5 hD hst5 fr hfr
    obtain ⟨B22_5, hu_B22_5⟩ : ∃ z, pb (β 22) = z := ⟨_, rfl⟩
    simp only [exq 5 ((dTn (hD 5 lq))), hu_B22_5] at hst5
    simp only [ed 22 ((dTn (hD 4 lq)).1), hu_B22_5] at hfr
    clear hD hu_B22_5; subst hfr; clear σ β X
    refine then_normal (wp_seq (wp_region_Z [0, 1, 3] [[4]] [.c 40 (.agg #[vi xid, vi 0, vi (-1), vi 0, .bool true, .slice RA rs.length rc]), .c 41 (.string (tbytesF xid 0 (-1) 0 true rs)), .k 23 (.string (tbytesF xid 0 (-1) 0 true rs))] [0, 1, 2, 3, 4] [0, 1] [(23, 2, 1, 24), (16, 0, 2, 18)] hst5 ?_ fun W6 hst6 => ?_))
    · refine ⟨?_, ?_, trivial⟩
      · exact xs4 rfl id fun cx => run_loadB (n := 6) rfl (by kernel_rfl) (by kernel_rfl) (cx.ou 22) (cx.bi 4 rfl) (nle rfl) rfl
      · exact xsc rfl id rfl rfl fun cx => ⟨_, tbytes_any xid 0 (-1) 0 true _ _ rs _ (hR.ext cx.upd.to_ext) (by first | omega | decide | (simp; done) | (simp; omega)) (hN.ext cx.upd.to_ext), (map1 (cx.an 0))⟩
    obtain ⟨s, hN_s⟩ : ∃ z, tbytesF xid 0 (-1) 0 true rs = z := ⟨_, rfl⟩
    rw [hN_s]
    have hs309 : s.size ≤ 309 := by rw [← hN_s]; exact tb_le _ _ _ _ _ _
    have hN_s' : newB xid true rs = s := hN_s
    refine then_normal (wp_seq (wp_seq (wp_region_Z [0, 1, 3, 7, 15, 31, 63, 127, 255, 511, 1023, 2047, 4095, 8191, 16383, 32767, 65535, 131071, 262143] [] [.k 42 (vi xid), .c 43 (.bool (onF xid)), .k 44 (.bool (!(onF xid))), .k 45 (.bool (!(onF xid))), .z 46 (!(!(onF xid))) (.string (s)), .y 47 (!(!(onF xid))) (.bool (s.toList == ((⟨#[]⟩ : ByteArray)).toList)), tO 48 (!(onF xid)) (s.toList == ((⟨#[]⟩ : ByteArray)).toList), .k 49 (.bool ((!(onF xid)) || (s.toList == ((⟨#[]⟩ : ByteArray)).toList))), .z 50 (!((!(onF xid)) || (s.toList == ((⟨#[]⟩ : ByteArray)).toList))) (vi tb), .z 51 (!((!(onF xid)) || (s.toList == ((⟨#[]⟩ : ByteArray)).toList))) (.bool (decide (tb < 0))), tO 52 ((!(onF xid)) || (s.toList == ((⟨#[]⟩ : ByteArray)).toList)) (decide (tb < 0)), .k 53 (.bool (((!(onF xid)) || (s.toList == ((⟨#[]⟩ : ByteArray)).toList)) || (decide (tb < 0)))), .z 54 (!(((!(onF xid)) || (s.toList == ((⟨#[]⟩ : ByteArray)).toList)) || (decide (tb < 0)))) (vi tb), .z 55 (!(((!(onF xid)) || (s.toList == ((⟨#[]⟩ : ByteArray)).toList)) || (decide (tb < 0)))) (.bool (decide (65535 < tb))), tO 56 (((!(onF xid)) || (s.toList == ((⟨#[]⟩ : ByteArray)).toList)) || (decide (tb < 0))) (decide (65535 < tb)), .k 57 (.bool ((((!(onF xid)) || (s.toList == ((⟨#[]⟩ : ByteArray)).toList)) || (decide (tb < 0))) || (decide (65535 < tb)))), .z 58 (!((((!(onF xid)) || (s.toList == ((⟨#[]⟩ : ByteArray)).toList)) || (decide (tb < 0))) || (decide (65535 < tb)))) (vi fresh), .z 59 (!((((!(onF xid)) || (s.toList == ((⟨#[]⟩ : ByteArray)).toList)) || (decide (tb < 0))) || (decide (65535 < tb)))) (.bool (decide (400 ≤ fresh))), tO 60 ((((!(onF xid)) || (s.toList == ((⟨#[]⟩ : ByteArray)).toList)) || (decide (tb < 0))) || (decide (65535 < tb))) (decide (400 ≤ fresh))] [0, 1, 2, 3, 4] [1, 5] [(42, 0, 19, 61)] hst6 ?_ fun W7 hst7 => ?_)))
    · refine ⟨?_, ?_, trivial⟩
      · exact xsc rfl id rfl rfl fun cx => ⟨_, hring_any xid _, (map1 (cx.an 0))⟩
      · exact m2 rfl (fun _ _ _ h => h) (fun cx => (cx.an 3)) fun cx hq => run_streq rfl (mbv (cx.an 4) hq) (cx.co _)
    refine then_normal ?_
    rcases Bool.eq_false_or_eq_true (((((!(onF xid)) || (s.toList == ((⟨#[]⟩ : ByteArray)).toList)) || (decide (tb < 0))) || (decide (65535 < tb))) || (decide (400 ≤ fresh))) with hs8 | hs8
    · skip
      have hs8p := hs8
      simp only [zB] at hs8p
      refine wp_cond_true (show Act.eval _ _ = .bool true from (congrArg Value.bool hs8)) (wp_seq (wp_region_Y [0, 1, 3, 7, 15] [[], [1]] [[], [5]] [[], [1]] [.k 61 (.agg #[vi 0, vi 0]), .n, .k 17 (.bool false), .k 18 (.slice none 0 0), .k 19 (vi 1)] (fun ix σ β X => match ix with | 0 => True | 1 => X 5 = eB B16_1 24 #[vi 0, vi 0] | _ => True) [0, 2, 3, 4, 5] [1] [(17, 2, 3, 20), (41, 0, 1, 42)] hst7 ?_ ?_ ?_))
      · exact fun ix _ _ _ _ _ _ hs hb hx h => match ix, h with
        | 1, h => by dsimp only at h ⊢; rw [← hx 5 rfl]; exact h
        | 0, _ | _ + 2, _ => trivial
      · refine ⟨?_, trivial⟩
        · refine sv_any rfl rfl fun ρ β W X cx => ?_
          exact dv_store (n := 2) rfl (cx.ou 16) (cx.an 0) (by kernel_rfl) (by kernel_rfl) (by kernel_rfl) cx (cx.init 1 _ rfl) rfl (nle rfl) (by kernel_rfl) rfl rfl rfl (fun σ β' X' hs hb hx => hx)
      intro σ β X W9 hD hst9 fr hfr
      simp only [exq 5 ((dTn (hD 1 lq)))] at hst9
      clear hD; subst hfr; clear σ β X
      refine then_normal (wp_ret (then_ret ?_))
      have hr10 : W9.cell? ⟨B16_1, 0, none⟩ = some (vi 0) := (hst9.blk 4 rfl).cell 0
      have hr11 : W9.cell? ⟨B16_1, 1, none⟩ = some (vi 0) := (hst9.blk 4 rfl).cell 1
      refine bodyPost_ret (v := .tuple #[.agg #[vi 0, vi 0], .bool false, .slice none 0 0, vi 1]) (by simp [results, Tryd.results13, go_sem, hr10, hr11]) rfl ?_
      exact UpdPost.nil (by rw [updA, if_neg (by rw [hs4]; decide), hN_s', updBad, if_pos hs8]) hst9.ext
    have hs8p := hs8
    simp only [zB] at hs8p
    obtain ⟨⟨⟨⟨hs8p1, hs8p2⟩, hs8p3⟩, hs8p4⟩, hs8p5⟩ := hs8p
    refine wp_cond_false (show Act.eval _ _ = .bool false from (congrArg Value.bool hs8)) (wp_skip (then_normal (wp_seq (wp_region_Y [0, 1, 3, 0, 15] [[], [0], [], [], [5]] [[], [], [], [5], [6]] [[], [], [], [], [5]] [.k 62 (vp B12_1), .c 63 (vi n), .k 64 (.agg #[vi n, vi 0]), .a 24, .n] (fun ix σ β X => match ix with | 0 => True | 1 => True | 2 => True | 3 => σ 24 = vp (pb (β 24)) ∧ X 5 = eB (pb (β 24)) 24 #[vi 0, vi 0] | 4 => X 6 = eB (pb (β 24)) 24 #[vi n, vi 0] | _ => True) [0, 1, 2, 3, 4, 6] [1, 3, 4] [(24, 3, 1, 25), (37, 0, 3, 40)] hst7 ?_ ?_ ?_))))
    · exact fun ix _ _ _ _ _ _ hs hb hx h => match ix, h with
      | 3, h => by dsimp only at h ⊢; rw [← hs 24 rfl, ← hb 24 rfl, ← hx 5 rfl]; exact h
      | 4, h => by dsimp only at h ⊢; rw [← hb 24 rfl, ← hx 6 rfl]; exact h
      | 0, _ | 1, _ | 2, _ | _ + 5, _ => trivial
    · refine ⟨?_, ?_, ?_, trivial⟩
      · exact xs4 rfl id fun cx => run_load1 rfl (by kernel_rfl) (cx.an 0) ((cx.bi 0 rfl).cell 0)
      · refine sv_any rfl rfl fun ρ β W X cx => ?_
        exact dv_alloc (cs := #[vi 0, vi 0]) rfl (by kernel_rfl) rfl rfl (fun σ β' X' hs hb hv hx => ⟨hv, hx⟩)
      · refine sv_any rfl rfl fun ρ β W X cx => ?_
        exact dv_store (n := 2) rfl (dTn (cx.an 3)).1 (cx.an 2) (by kernel_rfl) (by kernel_rfl) (by kernel_rfl) cx (dTn (cx.an 3)).2 rfl (nle rfl) (by kernel_rfl) rfl rfl rfl (fun σ β' X' hs hb hx => by rw [hb 24]; exact hx)
    intro σ β X W12 hD hst12 fr hfr
    obtain ⟨B24_12, hu_B24_12⟩ : ∃ z, pb (β 24) = z := ⟨_, rfl⟩
    simp only [exq 6 ((dTn (hD 4 lq))), hu_B24_12] at hst12
    simp only [ed 24 ((dTn (hD 3 lq)).1), hu_B24_12] at hfr
    clear hD hu_B24_12; subst hfr; clear σ β X
    refine then_normal ?_
    refine wp_cut (fun az W => ∃ q : Int, q = updQ pv n hot s ∧ az = ⟨#[.iface tt (tv), .slice NA ns.length nc, vi fresh, vi tb, .agg #[vi n, vi j], vi xid, .slice RA rs.length rc, .bool hot, undef, undef, undef, undef, vp B12_1, undef, undef, undef, vp B16_1, .bool false, .slice none 0 0, vi 0, vp B20_2, .bool ((atF (pv n) j).isSome), vp B22_5, .string (s), vp B24_12, undef, undef, .tuple #[.agg #[vi (od.1), vi (od.2.1), vi (od.2.2.1), vi (od.2.2.2.1), .bool (od.2.2.2.2.1), .slice A30_2 (od.2.2.2.2.2.length) c30_2], .bool ((atF (pv n) j).isSome)], .iface tt (tv), .agg #[vi n, vi j], .tuple #[.agg #[vi (od.1), vi (od.2.1), vi (od.2.2.1), vi (od.2.2.2.1), .bool (od.2.2.2.2.1), .slice A30_2 (od.2.2.2.2.2.length) c30_2], .bool ((atF (pv n) j).isSome)], .agg #[vi (od.1), vi (od.2.1), vi (od.2.2.1), vi (od.2.2.2.1), .bool (od.2.2.2.2.1), .slice A30_2 (od.2.2.2.2.2.length) c30_2], .bool ((atF (pv n) j).isSome), .bool ((atF (pv n) j).isSome), .bool (!((atF (pv n) j).isSome)), undef, vi xid, .agg #[vi (-1), vi 0], .slice RA rs.length rc, .agg #[vi xid, vi 0, vi (-1), vi 0, .bool true, .slice RA rs.length rc], .agg #[vi xid, vi 0, vi (-1), vi 0, .bool true, .slice RA rs.length rc], .string (s), vi xid, .bool (onF xid), .bool (!(onF xid)), .bool (!(onF xid)), mb (!(!(onF xid))) (.string (s)), mb (!(!(onF xid))) (.bool (s.toList == ((⟨#[]⟩ : ByteArray)).toList)), .bool ((!(onF xid)) || (s.toList == ((⟨#[]⟩ : ByteArray)).toList)), .bool ((!(onF xid)) || (s.toList == ((⟨#[]⟩ : ByteArray)).toList)), mb (!((!(onF xid)) || (s.toList == ((⟨#[]⟩ : ByteArray)).toList))) (vi tb), mb (!((!(onF xid)) || (s.toList == ((⟨#[]⟩ : ByteArray)).toList))) (.bool (decide (tb < 0))), .bool (((!(onF xid)) || (s.toList == ((⟨#[]⟩ : ByteArray)).toList)) || (decide (tb < 0))), .bool (((!(onF xid)) || (s.toList == ((⟨#[]⟩ : ByteArray)).toList)) || (decide (tb < 0))), mb (!(((!(onF xid)) || (s.toList == ((⟨#[]⟩ : ByteArray)).toList)) || (decide (tb < 0)))) (vi tb), mb (!(((!(onF xid)) || (s.toList == ((⟨#[]⟩ : ByteArray)).toList)) || (decide (tb < 0)))) (.bool (decide (65535 < tb))), .bool ((((!(onF xid)) || (s.toList == ((⟨#[]⟩ : ByteArray)).toList)) || (decide (tb < 0))) || (decide (65535 < tb))), .bool ((((!(onF xid)) || (s.toList == ((⟨#[]⟩ : ByteArray)).toList)) || (decide (tb < 0))) || (decide (65535 < tb))), mb (!((((!(onF xid)) || (s.toList == ((⟨#[]⟩ : ByteArray)).toList)) || (decide (tb < 0))) || (decide (65535 < tb)))) (vi fresh), mb (!((((!(onF xid)) || (s.toList == ((⟨#[]⟩ : ByteArray)).toList)) || (decide (tb < 0))) || (decide (65535 < tb)))) (.bool (decide (400 ≤ fresh))), .bool (((((!(onF xid)) || (s.toList == ((⟨#[]⟩ : ByteArray)).toList)) || (decide (tb < 0))) || (decide (65535 < tb))) || (decide (400 ≤ fresh))), undef, vp B12_1, vi n, .agg #[vi n, vi 0], jv az 65, jv az 66, jv az 67, jv az 68, jv az 69, jv az 70, jv az 71, undef, undef, undef, undef, undef, undef, undef, undef, undef, undef, undef, undef, undef, undef, undef, undef, undef, undef, undef, undef, undef, undef, undef, undef, undef, undef, undef, undef, undef, undef, undef, undef, undef, undef, undef, undef, undef, undef, undef, undef, undef, undef, undef], []⟩ ∧ St w [] [eB B12_1 24 #[vi n, vi j], eB B16_1 24 #[vi 0, vi 0], eO 82 3 (.slice A30_2 (od.2.2.2.2.2.length) c30_2) od.2.2.2.2.2.length (flatR od.2.2.2.2.2), eB B20_2 41 #[vi (od.1), vi (od.2.1), vi (od.2.2.1), vi (od.2.2.2.1), .bool (od.2.2.2.2.1), .slice A30_2 (od.2.2.2.2.2.length) c30_2], eB B22_5 41 #[vi xid, vi 0, vi (-1), vi 0, .bool true, .slice RA rs.length rc], eB B24_12 24 #[vi n, vi q]] W) ?_ ?_
    · skip
      refine wp_seq (wp_region_P [0] [.k 65 (.bool hot)] [(65, 0, 1, 66)] hst12 fun W14 hst14 => ?_)
      refine then_normal ?_
      rcases Bool.eq_false_or_eq_true (hot) with hs15 | hs15
      · skip
        refine wp_cond_true (show Act.eval _ _ = .bool true from (congrArg Value.bool hs15)) (wp_region_Y [0, 0, 2, 0, 15, 31, 63] [[], [], [0], [], [], [], [5]] [[], [], [], [], [], [], [6]] [[], [], [], [], [], [], [5]] [.k 66 (.iface tt (tv)), .k 67 (vp B12_1), .c 68 (vi n), .k 69 (.string (s)), .c 70 (vi ((roomI (pv n) s))), .k 71 (.pointer (some ⟨B24_12, 1, none⟩)), .n] (fun ix σ β X => match ix with | 0 => True | 1 => True | 2 => True | 3 => True | 4 => True | 5 => True | 6 => X 6 = eB B24_12 24 #[vi n, vi ((roomI (pv n) s))] | _ => True) [0, 1, 2, 3, 4, 6] [2, 4, 6] [(66, 0, 6, 72)] hst14 ?_ ?_ ?_)
        · exact fun ix _ _ _ _ _ _ hs hb hx h => match ix, h with
          | 6, h => by dsimp only at h ⊢; rw [← hx 6 rfl]; exact h
          | 0, _ | 1, _ | 2, _ | 3, _ | 4, _ | 5, _ | _ + 7, _ => trivial
        · refine ⟨?_, ?_, ?_, trivial⟩
          · exact xs4 rfl id fun cx => run_load1 rfl (by kernel_rfl) (cx.an 1) ((cx.bi 0 rfl).cell 0)
          · exact xsc rfl id rfl rfl fun cx => ⟨_, hroomi_any _ _ pv n s _ (hS.ext cx.upd.to_ext) (by omega), (map3 (cx.an 0) (cx.an 2) (cx.an 3))⟩
          · refine sv_any rfl rfl fun ρ β W X cx => ?_
            exact dv_store (n := 1) rfl (cx.an 5) (cx.an 4) (by kernel_rfl) (by kernel_rfl) (by kernel_rfl) cx (cx.init 5 _ rfl) rfl (nle rfl) (by kernel_rfl) rfl rfl rfl (fun σ β' X' hs hb hx => hx)
        intro σ β X W16 hD hst16 fr hfr
        simp only [exq 6 ((dTn (hD 6 lq)))] at hst16
        clear hD; subst hfr; clear σ β X
        refine then_normal ?_
        have hp17 := hst16.pick [0, 1, 2, 3, 4, 5] (by decide) rfl
        exact ⟨(roomI (pv n) s), by rw [updQ, if_pos (by simp [hs15])], (by kernel_rfl), hp17⟩
      refine wp_cond_false (show Act.eval _ _ = .bool false from (congrArg Value.bool hs15)) (wp_skip (then_normal ?_))
      have hp18 := hst14.pick [0, 1, 2, 3, 4, 5] (by decide) rfl
      exact ⟨0, by rw [updQ, if_neg (by simp [hs15])], (by kernel_rfl), hp18⟩
    rintro a13 W13 ⟨q, hq, hj_, hst13⟩
    obtain ⟨u13_, hu_⟩ : ∃ z, jv a13 = z := ⟨_, rfl⟩
    rw [hu_] at hj_; clear hu_; subst hj_
    refine wp_seq (wp_region_Y [0, 1, 0, 4, 0, 31, 63, 127] [[], [5], [], [5]] [[], [], [], [], [], [], [6]] [] [.k 72 (vp B24_12), .c 73 (vi n), .k 74 (.pointer (some ⟨B24_12, 1, none⟩)), .c 75 (vi q), .k 76 (.string (s)), .k 77 (.agg #[vi n, vi q, .string (s)]), .a 78, .a 25] (fun ix σ β X => match ix with | 0 => True | 1 => True | 2 => True | 3 => True | 4 => True | 5 => True | 6 => σ 78 = .slice ((some ⟨(pb' (β 78)), 0, none⟩)) 1 1 ∧ X 6 = eO 99 3 (.slice ((some ⟨(pb' (β 78)), 0, none⟩)) 1 1) 1 (cellsE (n, q, s)) | 7 => σ 25 = .slice ((some ⟨(pb' (β 78)), 0, none⟩)) 1 1 | _ => True) [0, 1, 2, 3, 4, 5, 6] [1, 3, 6, 7] [(25, 7, 1, 26), (46, 0, 7, 53)] hst13 ?_ ?_ ?_)
    · exact fun ix _ _ _ _ _ _ hs hb hx h => match ix, h with
      | 6, h => by dsimp only at h ⊢; rw [← hs 78 rfl, ← hb 78 rfl, ← hx 6 rfl]; exact h
      | 7, h => by dsimp only at h ⊢; rw [← hs 25 rfl, ← hb 78 rfl]; exact h
      | 0, _ | 1, _ | 2, _ | 3, _ | 4, _ | 5, _ | _ + 8, _ => trivial
    · refine ⟨?_, ?_, ?_, ?_, trivial⟩
      · exact xs4 rfl id fun cx => run_load1 rfl (by kernel_rfl) (cx.an 0) ((cx.bi 5 rfl).cell 0)
      · exact xs4 rfl id fun cx => run_load1 rfl (by kernel_rfl) (cx.an 2) ((cx.bi 5 rfl).cell 1)
      · refine sv_any rfl rfl fun ρ β W X cx => ?_
        have fF77 : ρ (.tmp 77) = .agg #[vi n, vi q, .string (s)] := (cx.an 5)
        exact dv_litN (e := 99) (sz := 3) (xs := [vi n, vi q, .string (s)]) rfl (by simp [go_sem, fF77]) rfl (by decide) rfl rfl (fun σ β' X' hs hb hv hx => ⟨hv, hx⟩)
      · exact sv rfl rfl rfl rfl rfl _ (fun _ _ _ h => h) (fun β β' h => by rw [h 78 (by decide)]) fun ρ β W X cx => run_assign' rfl (dTn (cx.an 6)).1
    intro σ β X W19 hD hst19 fr hfr
    obtain ⟨B78_19, hu_B78_19⟩ : ∃ z, pb' (β 78) = z := ⟨_, rfl⟩
    simp only [exq 6 ((dTn (hD 6 lq)).2), hu_B78_19] at hst19
    simp only [ed 78 ((dTn (hD 6 lq)).1), ed 25 ((dTn (hD 7 lq))), hu_B78_19] at hfr
    clear hD hu_B78_19; subst hfr; clear σ β X
    refine then_normal (wp_seq (wp_region_Z [0, 1, 3, 7] [[], [5]] [.k 79 (.pointer (some ⟨B24_12, 1, none⟩)), .c 80 (vi q), .k 81 (.bool (decide (0 < q))), .k 7 (.bool (decide (0 < q)))] [0, 1, 2, 3, 4, 5, 6] [1] [(7, 3, 1, 8), (71, 0, 3, 74)] hst19 ?_ fun W20 hst20 => ?_))
    · refine ⟨?_, trivial⟩
      · exact xs4 rfl id fun cx => run_load1 rfl (by kernel_rfl) (cx.an 0) ((cx.bi 5 rfl).cell 1)
    refine then_normal (wp_seq (wp_seq (wp_region_P [0, 1] [.k 82 (.bool (decide (0 < q))), .k 83 (.bool (!(decide (0 < q))))] [(82, 0, 2, 84)] hst20 fun W21 hst21 => ?_)))
    refine then_normal ?_
    rcases Bool.eq_false_or_eq_true (decide (0 < q)) with hs22 | hs22
    · skip
      have hs22p : 0 < q := by simpa using hs22
      refine wp_cond_false (show Act.eval _ _ = .bool false from (congrArg Value.bool (by rw [hs22]; rfl))) (wp_skip (then_normal (wp_seq (wp_region_Y [0, 0, 1, 5, 15, 31] [[], [5], [], [3], [], [7]] [[], [], [], [7], [], [8]] [[], [], [], [3], [], [7]] [.k 99 (vi xid), .c 100 (.agg #[vi n, vi q]), .k 101 (.pointer (some ⟨B20_2, 1, none⟩)), .n, .k 102 (.pointer (some ⟨B20_2, 2, none⟩)), .n] (fun ix σ β X => match ix with | 0 => True | 1 => True | 2 => True | 3 => X 7 = eB B20_2 41 #[vi (od.1), vi xid, vi (od.2.2.1), vi (od.2.2.2.1), .bool (od.2.2.2.2.1), .slice A30_2 (od.2.2.2.2.2.length) c30_2] | 4 => True | 5 => X 8 = eB B20_2 41 #[vi (od.1), vi xid, vi n, vi q, .bool (od.2.2.2.2.1), .slice A30_2 (od.2.2.2.2.2.length) c30_2] | _ => True) [0, 1, 2, 4, 5, 6, 8] [1, 3, 5] [(99, 0, 5, 103)] hst21 ?_ ?_ ?_))))
      · exact fun ix _ _ _ _ _ _ hs hb hx h => match ix, h with
        | 3, h => by dsimp only at h ⊢; rw [← hx 7 rfl]; exact h
        | 5, h => by dsimp only at h ⊢; rw [← hx 8 rfl]; exact h
        | 0, _ | 1, _ | 2, _ | 4, _ | _ + 6, _ => trivial
      · refine ⟨?_, ?_, ?_, trivial⟩
        · exact xs4 rfl id fun cx => run_loadB (n := 2) rfl (by kernel_rfl) (by kernel_rfl) (cx.ou 24) (cx.bi 5 rfl) (nle rfl) rfl
        · refine sv_any rfl rfl fun ρ β W X cx => ?_
          exact dv_store (n := 1) rfl (cx.an 2) (cx.an 0) (by kernel_rfl) (by kernel_rfl) (by kernel_rfl) cx (cx.init 3 _ rfl) rfl (nle rfl) (by kernel_rfl) rfl rfl rfl (fun σ β' X' hs hb hx => hx)
        · refine sv_any rfl rfl fun ρ β W X cx => ?_
          exact dv_store (n := 2) rfl (cx.an 4) (cx.an 1) (by kernel_rfl) (by kernel_rfl) (by kernel_rfl) cx (dTn (cx.an 3)) rfl (nle rfl) (by kernel_rfl) rfl rfl rfl (fun σ β' X' hs hb hx => hx)
      intro σ β X W23 hD hst23 fr hfr
      simp only [exq 8 ((dTn (hD 5 lq)))] at hst23
      clear hD; subst hfr; clear σ β X
      refine then_normal (wp_seq (wp_region_Y [0, 0, 0, 0, 8, 0, 32, 0, 128, 504, 1016, 2044, 4093, 8191, 16383, 32767] [[4], [], [], [], [0], [], [0], [6], [2], [], [], [7, 5], [1]] [[], [], [], [], [], [], [], [], [], [], [7], [8], [9]] [[], [], [], [], [], [], [], [], [], [], [], [5], [1]] [.c 103 (.agg #[vi n, vi q]), .c 104 (.bool true), .k 105 (.slice ((some ⟨B78_19, 0, none⟩)) 1 1), .k 106 (vp B12_1), .c 107 (vi n), .k 108 (.pointer (some ⟨B12_1, 1, none⟩)), .c 109 (vi j), .c 110 (.agg #[vi (od.1), vi xid, vi n, vi q, .bool (od.2.2.2.2.1), .slice A30_2 (od.2.2.2.2.2.length) c30_2]), .c 111 (.string (tbytesF od.1 xid n q od.2.2.2.2.1 od.2.2.2.2.2)), .k 112 (.agg #[vi n, vi j, .string (tbytesF od.1 xid n q od.2.2.2.2.1 od.2.2.2.2.2)]), .a 113, .a 114, .n, .k 17 (.bool true), .a 18, .k 19 (vi 0)] (fun ix σ β X => match ix with | 0 => True | 1 => True | 2 => True | 3 => True | 4 => True | 5 => True | 6 => True | 7 => True | 8 => True | 9 => True | 10 => σ 113 = .slice ((some ⟨(pb' (β 113)), 0, none⟩)) 1 1 ∧ X 7 = eO 99 3 (.slice ((some ⟨(pb' (β 113)), 0, none⟩)) 1 1) 1 (cellsE (n, j, tbytesF od.1 xid n q od.2.2.2.2.1 od.2.2.2.2.2)) | 11 => σ 114 = .slice (sA (β 114)) 2 (sC (β 114)) ∧ X 8 = eO 99 3 (.slice (sA (β 114)) 2 (sC (β 114))) 2 ([(n, q, s), (n, j, tbytesF od.1 xid n q od.2.2.2.2.1 od.2.2.2.2.2)].flatMap cellsE) | 12 => X 9 = eB B16_1 24 #[vi n, vi q] | 13 => True | 14 => σ 18 = .slice (sA (β 114)) 2 (sC (β 114)) | _ => True) [0, 2, 3, 4, 6, 7, 8, 9] [0, 1, 4, 6, 7, 8, 10, 11, 12, 14] [(17, 13, 3, 20), (83, 0, 12, 95)] hst23 ?_ ?_ ?_))
      · exact fun ix _ _ _ _ _ _ hs hb hx h => match ix, h with
        | 10, h => by dsimp only at h ⊢; rw [← hs 113 rfl, ← hb 113 rfl, ← hx 7 rfl]; exact h
        | 11, h => by dsimp only at h ⊢; rw [← hs 114 rfl, ← hb 114 rfl, ← hx 8 rfl]; exact h
        | 12, h => by dsimp only at h ⊢; rw [← hx 9 rfl]; exact h
        | 14, h => by dsimp only at h ⊢; rw [← hs 18 rfl, ← hb 114 rfl]; exact h
        | 0, _ | 1, _ | 2, _ | 3, _ | 4, _ | 5, _ | 6, _ | 7, _ | 8, _ | 9, _ | 13, _ | _ + 15, _ => trivial
      · refine ⟨?_, ?_, ?_, ?_, ?_, ?_, ?_, ?_, ?_, ?_, trivial⟩
        · exact xs4 rfl id fun cx => run_loadB (n := 2) rfl (by kernel_rfl) (by kernel_rfl) (cx.ou 24) (cx.bi 4 rfl) (nle rfl) rfl
        · exact xs4 rfl id fun cx => run_move' rfl (Eq.trans (cx.ou 7) (congrArg Value.bool hs22))
        · exact xs4 rfl id fun cx => run_load1 rfl (by kernel_rfl) (cx.an 3) ((cx.bi 0 rfl).cell 0)
        · exact xs4 rfl id fun cx => run_load1 rfl (by kernel_rfl) (cx.an 5) ((cx.bi 0 rfl).cell 1)
        · exact xs4 rfl id fun cx => run_loadB (n := 6) rfl (by kernel_rfl) (by kernel_rfl) (cx.ou 20) (cx.bi 6 rfl) (nle rfl) rfl
        · exact xsc rfl id rfl rfl fun cx => ⟨_, tbytes_any od.1 xid n q od.2.2.2.2.1 _ _ od.2.2.2.2.2 _ (At.of_ownN (cx.ri 2 rfl)) (by first | omega | decide | (simp; done) | (simp; omega)) (hN.ext cx.upd.to_ext), (map1 (cx.an 7))⟩
        · refine sv_any rfl rfl fun ρ β W X cx => ?_
          have fF112 : ρ (.tmp 112) = .agg #[vi n, vi j, .string (tbytesF od.1 xid n q od.2.2.2.2.1 od.2.2.2.2.2)] := (cx.an 9)
          exact dv_litN (e := 99) (sz := 3) (xs := [vi n, vi j, .string (tbytesF od.1 xid n q od.2.2.2.2.1 od.2.2.2.2.2)]) rfl (by simp [go_sem, fF112]) rfl (by decide) rfl rfl (fun σ β' X' hs hb hv hx => ⟨hv, hx⟩)
        · refine sv_any rfl rfl fun ρ β W X cx => ?_
          obtain ⟨i0, hi0, hz0, hz1, hz2⟩ := info_parts Tryd.infoEdit
          refine dv_appendN (n := 1) (m := 1) (nm := 2) (sz := 3) (xs := cellsE (n, q, s)) (news := cellsE (n, j, tbytesF od.1 xid n q od.2.2.2.2.1 od.2.2.2.2.2)) (xs' := [(n, q, s), (n, j, tbytesF od.1 xid n q od.2.2.2.2.1 od.2.2.2.2.2)].flatMap cellsE) rfl (ty := 36) rfl (by kernel_rfl) hi0 hz0 hz1 hz2 rfl (by decide) (cx.an 2) cx (cx.init 5 _ rfl) rfl (dTn (cx.an 10)).1 (by rfl) (At.of_ownN (cx.row (dTn (cx.an 10)).2 rfl)) (by simp [cellsE, Value.oneCell']) (by simp only [maxLen]; omega) (by omega) rfl rfl rfl (by omega) (rfl) (fun σ β' X' hs hb hv hx => ?_)
          exact ⟨hv, hx⟩
        · refine sv_any rfl rfl fun ρ β W X cx => ?_
          exact dv_store (n := 2) rfl (cx.ou 16) (cx.an 0) (by kernel_rfl) (by kernel_rfl) (by kernel_rfl) cx (cx.init 1 _ rfl) rfl (nle rfl) (by kernel_rfl) rfl rfl rfl (fun σ β' X' hs hb hx => hx)
        · exact sv rfl rfl rfl rfl rfl _ (fun _ _ _ h => h) (fun β β' h => by rw [h 114 (by decide)]) fun ρ β W X cx => run_assign' rfl (dTn (cx.an 11)).1
      intro σ β X W24 hD hst24 fr hfr
      obtain ⟨B113_24, hu_B113_24⟩ : ∃ z, pb' (β 113) = z := ⟨_, rfl⟩
      obtain ⟨A114_24, hu_A114_24⟩ : ∃ z, sA (β 114) = z := ⟨_, rfl⟩
      obtain ⟨c114_24, hu_c114_24⟩ : ∃ z, sC (β 114) = z := ⟨_, rfl⟩
      simp only [exq 7 ((dTn (hD 10 lq)).2), exq 8 ((dTn (hD 11 lq)).2), exq 9 ((dTn (hD 12 lq))), hu_B113_24, hu_A114_24, hu_c114_24] at hst24
      simp only [ed 113 ((dTn (hD 10 lq)).1), ed 114 ((dTn (hD 11 lq)).1), ed 18 ((dTn (hD 14 lq))), hu_B113_24, hu_A114_24, hu_c114_24] at hfr
      clear hD hu_B113_24 hu_A114_24 hu_c114_24; subst hfr; clear σ β X
      refine then_normal (wp_ret ?_)
      have hr25 : W24.cell? ⟨B16_1, 0, none⟩ = some (vi n) := (hst24.blk 7 rfl).cell 0
      have hr26 : W24.cell? ⟨B16_1, 1, none⟩ = some (vi q) := (hst24.blk 7 rfl).cell 1
      refine bodyPost_ret (v := .tuple #[.agg #[vi n, vi q], .bool true, .slice A114_24 2 c114_24, vi 0]) (by simp [results, Tryd.results13, go_sem, hr25, hr26]) rfl ?_
      exact UpdPost.of (l := [(n, q, s), (n, j, oldB od xid n q)]) (by rw [updA, if_neg (by rw [hs4]; decide), hN_s', updBad, if_neg (by rw [hs8]; decide), updR, hN_s', ← hq, if_pos (by omega), hN_od]) rfl rfl (hst24.own' 6 rfl) hst24.ext
    have hs22p : ¬ (0 < q) := by simpa using hs22
    refine wp_cond_true (show Act.eval _ _ = .bool true from (congrArg Value.bool (by rw [hs22]; rfl))) (wp_seq (wp_region_P [0] [.k 26 (vi 0)] [(26, 0, 1, 27)] hst21 fun W27 hst27 => ?_))
    refine then_normal (wp_seq (wp_region_Y [0, 1] [[], [4]] [[], [7]] [[], [4]] [.k 84 (.pointer (some ⟨B22_5, 4, none⟩)), .n] (fun ix σ β X => match ix with | 0 => True | 1 => X 7 = eB B22_5 41 #[vi xid, vi 0, vi (-1), vi 0, .bool false, .slice RA rs.length rc] | _ => True) [0, 1, 2, 3, 5, 6, 7] [1] [(84, 0, 1, 85)] hst27 ?_ ?_ ?_))
    · exact fun ix _ _ _ _ _ _ hs hb hx h => match ix, h with
      | 1, h => by dsimp only at h ⊢; rw [← hx 7 rfl]; exact h
      | 0, _ | _ + 2, _ => trivial
    · refine ⟨?_, trivial⟩
      · refine sv_any rfl rfl fun ρ β W X cx => ?_
        exact dv_store (n := 1) rfl (cx.an 0) (cx.co _) (by kernel_rfl) (by kernel_rfl) (by kernel_rfl) cx (cx.init 4 _ rfl) rfl (nle rfl) (by kernel_rfl) rfl rfl rfl (fun σ β' X' hs hb hx => hx)
    intro σ β X W28 hD hst28 fr hfr
    simp only [exq 7 ((dTn (hD 1 lq)))] at hst28
    clear hD; subst hfr; clear σ β X
    refine then_normal (wp_seq (wp_region_Y [0, 0, 0, 0, 0, 31, 63, 127, 127, 127, 255, 1535, 4095] [[], [], [], [], [6], [], [], [], [], [], [4]] [[], [], [], [], [], [7], [], [], [], [], [8]] [[], [], [], [], [], [], [], [], [], [], [4]] [.k 86 (.iface tt (tv)), .k 87 (.slice NA ns.length nc), .k 88 (vi fresh), .k 89 (vi tb), .c 90 (.agg #[vi xid, vi 0, vi (-1), vi 0, .bool false, .slice RA rs.length rc]), .a 91, .a 85, .c 92 (.agg #[vi ((insA pv fresh tb ns (tbytesF xid 0 (-1) 0 false rs)).1.1), vi ((insA pv fresh tb ns (tbytesF xid 0 (-1) 0 false rs)).1.2)]), .a 93, .c 94 (vi ((insA pv fresh tb ns (tbytesF xid 0 (-1) 0 false rs)).2.2)), .n, .a 25, .k 26 (vi ((insA pv fresh tb ns (tbytesF xid 0 (-1) 0 false rs)).2.2))] (fun ix σ β X => match ix with | 0 => True | 1 => True | 2 => True | 3 => True | 4 => True | 5 => σ 91 = .tuple #[.agg #[vi ((insA pv fresh tb ns (tbytesF xid 0 (-1) 0 false rs)).1.1), vi ((insA pv fresh tb ns (tbytesF xid 0 (-1) 0 false rs)).1.2)], .slice (sA (tg (β 91) 1)) ((insA pv fresh tb ns (tbytesF xid 0 (-1) 0 false rs)).2.1.length) (sC (tg (β 91) 1)), vi ((insA pv fresh tb ns (tbytesF xid 0 (-1) 0 false rs)).2.2)] ∧ X 7 = eO 99 3 (.slice (sA (tg (β 91) 1)) ((insA pv fresh tb ns (tbytesF xid 0 (-1) 0 false rs)).2.1.length) (sC (tg (β 91) 1))) ((insA pv fresh tb ns (tbytesF xid 0 (-1) 0 false rs)).2.1.length) ((insA pv fresh tb ns (tbytesF xid 0 (-1) 0 false rs)).2.1.flatMap cellsE) | 6 => σ 85 = .tuple #[.agg #[vi ((insA pv fresh tb ns (tbytesF xid 0 (-1) 0 false rs)).1.1), vi ((insA pv fresh tb ns (tbytesF xid 0 (-1) 0 false rs)).1.2)], .slice (sA (tg (β 91) 1)) ((insA pv fresh tb ns (tbytesF xid 0 (-1) 0 false rs)).2.1.length) (sC (tg (β 91) 1)), vi ((insA pv fresh tb ns (tbytesF xid 0 (-1) 0 false rs)).2.2)] | 7 => True | 8 => σ 93 = .slice (sA (tg (β 91) 1)) ((insA pv fresh tb ns (tbytesF xid 0 (-1) 0 false rs)).2.1.length) (sC (tg (β 91) 1)) | 9 => True | 10 => X 8 = eB B24_12 24 #[vi ((insA pv fresh tb ns (tbytesF xid 0 (-1) 0 false rs)).1.1), vi ((insA pv fresh tb ns (tbytesF xid 0 (-1) 0 false rs)).1.2)] | 11 => σ 25 = .slice (sA (tg (β 91) 1)) ((insA pv fresh tb ns (tbytesF xid 0 (-1) 0 false rs)).2.1.length) (sC (tg (β 91) 1)) | _ => True) [0, 1, 2, 3, 5, 6, 7, 8] [4, 5, 6, 7, 8, 9, 10, 11] [(25, 11, 2, 27), (58, 6, 1, 59), (0, 0, 6, 6), (0, 7, 3, 3)] hst28 ?_ ?_ ?_))
    · exact fun ix _ _ _ _ _ _ hs hb hx h => match ix, h with
      | 5, h => by dsimp only at h ⊢; rw [← hs 91 rfl, ← hb 91 rfl, ← hx 7 rfl]; exact h
      | 6, h => by dsimp only at h ⊢; rw [← hs 85 rfl, ← hb 91 rfl]; exact h
      | 8, h => by dsimp only at h ⊢; rw [← hs 93 rfl, ← hb 91 rfl]; exact h
      | 10, h => by dsimp only at h ⊢; rw [← hx 8 rfl]; exact h
      | 11, h => by dsimp only at h ⊢; rw [← hs 25 rfl, ← hb 91 rfl]; exact h
      | 0, _ | 1, _ | 2, _ | 3, _ | 4, _ | 7, _ | 9, _ | _ + 12, _ => trivial
    · refine ⟨?_, ?_, ?_, ?_, ?_, ?_, ?_, ?_, trivial⟩
      · exact xs4 rfl id fun cx => run_loadB (n := 6) rfl (by kernel_rfl) (by kernel_rfl) (cx.ou 22) (cx.bi 6 rfl) (nle rfl) rfl
      · refine sv_any rfl rfl fun ρ β W X cx => ?_
        refine DoesU.call (run_callF (args := #[.iface tt (tv), .slice NA ns.length nc, vi fresh, vi tb, .agg #[vi xid, vi 0, vi (-1), vi 0, .bool false, .slice RA rs.length rc]]) rfl cx.sees rfl (by kernel_rfl) (map5 (cx.an 0) (cx.an 1) (cx.an 2) (cx.an 3) (cx.an 4))) ?_
        refine (hinsert_any _ _ pv _ _ ns fresh tb xid 0 (-1) 0 false _ _ rs _ (hS.ext cx.upd.to_ext) (hA.ext cx.upd.to_ext) (by first | (simp; done) | omega) (hR.ext cx.upd.to_ext) (by first | omega | (simp; done)) (hN.ext cx.upd.to_ext)).mono ?_
        rintro e W1 ⟨A4, c4, rfl, ho_, hx⟩
        refine ⟨_, rfl, post_call [eO 99 3 (.slice A4 ((insA pv fresh tb ns (tbytesF xid 0 (-1) 0 false rs)).2.1.length) c4) ((insA pv fresh tb ns (tbytesF xid 0 (-1) 0 false rs)).2.1.length) ((insA pv fresh tb ns (tbytesF xid 0 (-1) 0 false rs)).2.1.flatMap cellsE)] rfl rfl hx (one_new (eO_new ho_)) (List.pairwise_singleton _ _) (fun σ β' X' hs hb hv hN => ?_)⟩
        have hv1 := (hv 91 rfl).1; have hv2 := (hv 91 rfl).2
        exact ⟨hv1.trans (by rw [hv2]; rfl), (by rw [hv2]; exact (List.cons.inj hN).1)⟩
      · exact sv rfl rfl rfl rfl rfl _ (fun _ _ _ h => h) (fun β β' h => by rw [h 91 (by decide)]) fun ρ β W X cx => run_move' rfl (dTn (cx.an 5)).1
      · exact xs4 rfl id fun cx => run_extract' rfl (dTn (cx.an 6)) rfl
      · exact sv rfl rfl rfl rfl rfl _ (fun _ _ _ h => h) (fun β β' h => by rw [h 91 (by decide)]) fun ρ β W X cx => run_extract' rfl (dTn (cx.an 6)) rfl
      · exact xs4 rfl id fun cx => run_extract' rfl (dTn (cx.an 6)) rfl
      · refine sv_any rfl rfl fun ρ β W X cx => ?_
        exact dv_store (n := 2) rfl (cx.ou 24) (cx.an 7) (by kernel_rfl) (by kernel_rfl) (by kernel_rfl) cx (cx.init 4 _ rfl) rfl (nle rfl) (by kernel_rfl) rfl rfl rfl (fun σ β' X' hs hb hx => hx)
      · exact sv rfl rfl rfl rfl rfl _ (fun _ _ _ h => h) (fun β β' h => by rw [h 91 (by decide)]) fun ρ β W X cx => run_assign' rfl (dTn (cx.an 8))
    intro σ β X W29 hD hst29 fr hfr
    obtain ⟨A91_29, hu_A91_29⟩ : ∃ z, sA (tg (β 91) 1) = z := ⟨_, rfl⟩
    obtain ⟨c91_29, hu_c91_29⟩ : ∃ z, sC (tg (β 91) 1) = z := ⟨_, rfl⟩
    simp only [exq 7 ((dTn (hD 5 lq)).2), exq 8 ((dTn (hD 10 lq))), hu_A91_29, hu_c91_29] at hst29
    simp only [ed 91 ((dTn (hD 5 lq)).1), ed 85 ((dTn (hD 6 lq))), ed 93 ((dTn (hD 8 lq))), ed 25 ((dTn (hD 11 lq))), hu_A91_29, hu_c91_29] at hfr
    clear hD hu_A91_29 hu_c91_29; subst hfr; clear σ β X
    obtain ⟨RI, hN_RI⟩ : ∃ z, (insA pv fresh tb ns (tbytesF xid 0 (-1) 0 false rs)) = z := ⟨_, rfl⟩
    rw [hN_RI] at hst29 ⊢
    have hN_r' : insA pv fresh tb ns (newB xid false rs) = RI := hN_RI
    have hRl : RI.2.1.length ≤ 3 := by rw [← hN_RI]; exact insA_len _ _ _ _ _
    refine then_normal (wp_seq (wp_region_P [0, 1] [.k 95 (vi (RI.2.2)), .k 96 (.bool (RI.2.2 != 0))] [(95, 0, 2, 97)] hst29 fun W30 hst30 => ?_))
    refine then_normal ?_
    rcases Bool.eq_false_or_eq_true (RI.2.2 != 0) with hs31 | hs31
    · skip
      have hs31p : RI.2.2 ≠ 0 := by simpa using hs31
      refine wp_cond_true (show Act.eval _ _ = .bool true from (congrArg Value.bool hs31)) (wp_seq (wp_region_Y [0, 0, 1, 5, 13, 31] [[], [], [1]] [[], [], [8]] [[], [], [1]] [.k 97 (.agg #[vi 0, vi 0]), .k 98 (vi (RI.2.2)), .n, .k 17 (.bool false), .k 18 (.slice none 0 0), .k 19 (vi (RI.2.2))] (fun ix σ β X => match ix with | 0 => True | 1 => True | 2 => X 8 = eB B16_1 24 #[vi 0, vi 0] | _ => True) [0, 2, 3, 4, 5, 6, 7, 8] [2] [(17, 3, 3, 20), (77, 0, 2, 79)] hst30 ?_ ?_ ?_))
      · exact fun ix _ _ _ _ _ _ hs hb hx h => match ix, h with
        | 2, h => by dsimp only at h ⊢; rw [← hx 8 rfl]; exact h
        | 0, _ | 1, _ | _ + 3, _ => trivial
      · refine ⟨?_, trivial⟩
        · refine sv_any rfl rfl fun ρ β W X cx => ?_
          exact dv_store (n := 2) rfl (cx.ou 16) (cx.an 0) (by kernel_rfl) (by kernel_rfl) (by kernel_rfl) cx (cx.init 1 _ rfl) rfl (nle rfl) (by kernel_rfl) rfl rfl rfl (fun σ β' X' hs hb hx => hx)
      intro σ β X W32 hD hst32 fr hfr
      simp only [exq 8 ((dTn (hD 2 lq)))] at hst32
      clear hD; subst hfr; clear σ β X
      refine then_normal (wp_ret (then_ret ?_))
      have hr33 : W32.cell? ⟨B16_1, 0, none⟩ = some (vi 0) := (hst32.blk 7 rfl).cell 0
      have hr34 : W32.cell? ⟨B16_1, 1, none⟩ = some (vi 0) := (hst32.blk 7 rfl).cell 1
      refine bodyPost_ret (v := .tuple #[.agg #[vi 0, vi 0], .bool false, .slice none 0 0, vi (RI.2.2)]) (by simp [results, Tryd.results13, go_sem, hr33, hr34]) rfl ?_
      exact UpdPost.nil (by rw [updA, if_neg (by rw [hs4]; decide), hN_s', updBad, if_neg (by rw [hs8]; decide), updR, hN_s', ← hq, if_neg (by omega), hN_r', if_pos (by omega)]) hst32.ext
    have hs31p : RI.2.2 = 0 := by simpa using hs31
    refine wp_cond_false (show Act.eval _ _ = .bool false from (congrArg Value.bool hs31)) (wp_skip (then_normal (wp_seq (wp_region_Y [0, 0, 1, 5, 15, 31] [[], [7], [], [3], [], [8]] [[], [], [], [8], [], [9]] [[], [], [], [3], [], [8]] [.k 99 (vi xid), .c 100 (.agg #[vi (RI.1.1), vi (RI.1.2)]), .k 101 (.pointer (some ⟨B20_2, 1, none⟩)), .n, .k 102 (.pointer (some ⟨B20_2, 2, none⟩)), .n] (fun ix σ β X => match ix with | 0 => True | 1 => True | 2 => True | 3 => X 8 = eB B20_2 41 #[vi (od.1), vi xid, vi (od.2.2.1), vi (od.2.2.2.1), .bool (od.2.2.2.2.1), .slice A30_2 (od.2.2.2.2.2.length) c30_2] | 4 => True | 5 => X 9 = eB B20_2 41 #[vi (od.1), vi xid, vi (RI.1.1), vi (RI.1.2), .bool (od.2.2.2.2.1), .slice A30_2 (od.2.2.2.2.2.length) c30_2] | _ => True) [0, 1, 2, 4, 5, 6, 7, 9] [1, 3, 5] [(99, 0, 5, 103)] hst30 ?_ ?_ ?_))))
    · exact fun ix _ _ _ _ _ _ hs hb hx h => match ix, h with
      | 3, h => by dsimp only at h ⊢; rw [← hx 8 rfl]; exact h
      | 5, h => by dsimp only at h ⊢; rw [← hx 9 rfl]; exact h
      | 0, _ | 1, _ | 2, _ | 4, _ | _ + 6, _ => trivial
    · refine ⟨?_, ?_, ?_, trivial⟩
      · exact xs4 rfl id fun cx => run_loadB (n := 2) rfl (by kernel_rfl) (by kernel_rfl) (cx.ou 24) (cx.bi 7 rfl) (nle rfl) rfl
      · refine sv_any rfl rfl fun ρ β W X cx => ?_
        exact dv_store (n := 1) rfl (cx.an 2) (cx.an 0) (by kernel_rfl) (by kernel_rfl) (by kernel_rfl) cx (cx.init 3 _ rfl) rfl (nle rfl) (by kernel_rfl) rfl rfl rfl (fun σ β' X' hs hb hx => hx)
      · refine sv_any rfl rfl fun ρ β W X cx => ?_
        exact dv_store (n := 2) rfl (cx.an 4) (cx.an 1) (by kernel_rfl) (by kernel_rfl) (by kernel_rfl) cx (dTn (cx.an 3)) rfl (nle rfl) (by kernel_rfl) rfl rfl rfl (fun σ β' X' hs hb hx => hx)
    intro σ β X W35 hD hst35 fr hfr
    simp only [exq 9 ((dTn (hD 5 lq)))] at hst35
    clear hD; subst hfr; clear σ β X
    refine then_normal (wp_seq (wp_region_Y [0, 0, 0, 0, 8, 0, 32, 0, 128, 504, 1016, 2044, 4093, 8191, 16383, 32767] [[6], [], [], [], [0], [], [0], [7], [2], [], [], [8, 5], [1]] [[], [], [], [], [], [], [], [], [], [], [8], [9], [10]] [[], [], [], [], [], [], [], [], [], [], [], [5], [1]] [.c 103 (.agg #[vi (RI.1.1), vi (RI.1.2)]), .c 104 (.bool false), .k 105 (.slice A91_29 (RI.2.1.length) c91_29), .k 106 (vp B12_1), .c 107 (vi n), .k 108 (.pointer (some ⟨B12_1, 1, none⟩)), .c 109 (vi j), .c 110 (.agg #[vi (od.1), vi xid, vi (RI.1.1), vi (RI.1.2), .bool (od.2.2.2.2.1), .slice A30_2 (od.2.2.2.2.2.length) c30_2]), .c 111 (.string (tbytesF od.1 xid RI.1.1 RI.1.2 od.2.2.2.2.1 od.2.2.2.2.2)), .k 112 (.agg #[vi n, vi j, .string (tbytesF od.1 xid RI.1.1 RI.1.2 od.2.2.2.2.1 od.2.2.2.2.2)]), .a 113, .a 114, .n, .k 17 (.bool false), .a 18, .k 19 (vi 0)] (fun ix σ β X => match ix with | 0 => True | 1 => True | 2 => True | 3 => True | 4 => True | 5 => True | 6 => True | 7 => True | 8 => True | 9 => True | 10 => σ 113 = .slice ((some ⟨(pb' (β 113)), 0, none⟩)) 1 1 ∧ X 8 = eO 99 3 (.slice ((some ⟨(pb' (β 113)), 0, none⟩)) 1 1) 1 (cellsE (n, j, tbytesF od.1 xid RI.1.1 RI.1.2 od.2.2.2.2.1 od.2.2.2.2.2)) | 11 => σ 114 = .slice (sA (β 114)) (RI.2.1.length + 1) (sC (β 114)) ∧ X 9 = eO 99 3 (.slice (sA (β 114)) (RI.2.1.length + 1) (sC (β 114))) (RI.2.1.length + 1) ((RI.2.1 ++ [(n, j, tbytesF od.1 xid RI.1.1 RI.1.2 od.2.2.2.2.1 od.2.2.2.2.2)]).flatMap cellsE) | 12 => X 10 = eB B16_1 24 #[vi (RI.1.1), vi (RI.1.2)] | 13 => True | 14 => σ 18 = .slice (sA (β 114)) (RI.2.1.length + 1) (sC (β 114)) | _ => True) [0, 2, 3, 4, 6, 7, 8, 9, 10] [0, 1, 4, 6, 7, 8, 10, 11, 12, 14] [(17, 13, 3, 20), (83, 0, 12, 95)] hst35 ?_ ?_ ?_))
    · exact fun ix _ _ _ _ _ _ hs hb hx h => match ix, h with
      | 10, h => by dsimp only at h ⊢; rw [← hs 113 rfl, ← hb 113 rfl, ← hx 8 rfl]; exact h
      | 11, h => by dsimp only at h ⊢; rw [← hs 114 rfl, ← hb 114 rfl, ← hx 9 rfl]; exact h
      | 12, h => by dsimp only at h ⊢; rw [← hx 10 rfl]; exact h
      | 14, h => by dsimp only at h ⊢; rw [← hs 18 rfl, ← hb 114 rfl]; exact h
      | 0, _ | 1, _ | 2, _ | 3, _ | 4, _ | 5, _ | 6, _ | 7, _ | 8, _ | 9, _ | 13, _ | _ + 15, _ => trivial
    · refine ⟨?_, ?_, ?_, ?_, ?_, ?_, ?_, ?_, ?_, ?_, trivial⟩
      · exact xs4 rfl id fun cx => run_loadB (n := 2) rfl (by kernel_rfl) (by kernel_rfl) (cx.ou 24) (cx.bi 6 rfl) (nle rfl) rfl
      · exact xs4 rfl id fun cx => run_move' rfl (Eq.trans (cx.ou 7) (congrArg Value.bool hs22))
      · exact xs4 rfl id fun cx => run_load1 rfl (by kernel_rfl) (cx.an 3) ((cx.bi 0 rfl).cell 0)
      · exact xs4 rfl id fun cx => run_load1 rfl (by kernel_rfl) (cx.an 5) ((cx.bi 0 rfl).cell 1)
      · exact xs4 rfl id fun cx => run_loadB (n := 6) rfl (by kernel_rfl) (by kernel_rfl) (cx.ou 20) (cx.bi 7 rfl) (nle rfl) rfl
      · exact xsc rfl id rfl rfl fun cx => ⟨_, tbytes_any od.1 xid RI.1.1 RI.1.2 od.2.2.2.2.1 _ _ od.2.2.2.2.2 _ (At.of_ownN (cx.ri 2 rfl)) (by first | omega | decide | (simp; done) | (simp; omega)) (hN.ext cx.upd.to_ext), (map1 (cx.an 7))⟩
      · refine sv_any rfl rfl fun ρ β W X cx => ?_
        have fF112 : ρ (.tmp 112) = .agg #[vi n, vi j, .string (tbytesF od.1 xid RI.1.1 RI.1.2 od.2.2.2.2.1 od.2.2.2.2.2)] := (cx.an 9)
        exact dv_litN (e := 99) (sz := 3) (xs := [vi n, vi j, .string (tbytesF od.1 xid RI.1.1 RI.1.2 od.2.2.2.2.1 od.2.2.2.2.2)]) rfl (by simp [go_sem, fF112]) rfl (by decide) rfl rfl (fun σ β' X' hs hb hv hx => ⟨hv, hx⟩)
      · refine sv_any rfl rfl fun ρ β W X cx => ?_
        obtain ⟨i0, hi0, hz0, hz1, hz2⟩ := info_parts Tryd.infoEdit
        refine dv_appendN (n := RI.2.1.length) (m := 1) (nm := RI.2.1.length + 1) (sz := 3) (xs := RI.2.1.flatMap cellsE) (news := cellsE (n, j, tbytesF od.1 xid RI.1.1 RI.1.2 od.2.2.2.2.1 od.2.2.2.2.2)) (xs' := (RI.2.1 ++ [(n, j, tbytesF od.1 xid RI.1.1 RI.1.2 od.2.2.2.2.1 od.2.2.2.2.2)]).flatMap cellsE) rfl (ty := 36) rfl (by kernel_rfl) hi0 hz0 hz1 hz2 rfl (by decide) (cx.an 2) cx (cx.init 5 _ rfl) rfl (dTn (cx.an 10)).1 (by rfl) (At.of_ownN (cx.row (dTn (cx.an 10)).2 rfl)) (by simp [cellsE, Value.oneCell']) (by simp only [maxLen]; omega) (by omega) rfl rfl rfl (by omega) (eds_snoc _ _) (fun σ β' X' hs hb hv hx => ?_)
        exact ⟨hv, hx⟩
      · refine sv_any rfl rfl fun ρ β W X cx => ?_
        exact dv_store (n := 2) rfl (cx.ou 16) (cx.an 0) (by kernel_rfl) (by kernel_rfl) (by kernel_rfl) cx (cx.init 1 _ rfl) rfl (nle rfl) (by kernel_rfl) rfl rfl rfl (fun σ β' X' hs hb hx => hx)
      · exact sv rfl rfl rfl rfl rfl _ (fun _ _ _ h => h) (fun β β' h => by rw [h 114 (by decide)]) fun ρ β W X cx => run_assign' rfl (dTn (cx.an 11)).1
    intro σ β X W36 hD hst36 fr hfr
    obtain ⟨B113_36, hu_B113_36⟩ : ∃ z, pb' (β 113) = z := ⟨_, rfl⟩
    obtain ⟨A114_36, hu_A114_36⟩ : ∃ z, sA (β 114) = z := ⟨_, rfl⟩
    obtain ⟨c114_36, hu_c114_36⟩ : ∃ z, sC (β 114) = z := ⟨_, rfl⟩
    simp only [exq 8 ((dTn (hD 10 lq)).2), exq 9 ((dTn (hD 11 lq)).2), exq 10 ((dTn (hD 12 lq))), hu_B113_36, hu_A114_36, hu_c114_36] at hst36
    simp only [ed 113 ((dTn (hD 10 lq)).1), ed 114 ((dTn (hD 11 lq)).1), ed 18 ((dTn (hD 14 lq))), hu_B113_36, hu_A114_36, hu_c114_36] at hfr
    clear hD hu_B113_36 hu_A114_36 hu_c114_36; subst hfr; clear σ β X
    refine then_normal (wp_ret ?_)
    have hr37 : W36.cell? ⟨B16_1, 0, none⟩ = some (vi (RI.1.1)) := (hst36.blk 8 rfl).cell 0
    have hr38 : W36.cell? ⟨B16_1, 1, none⟩ = some (vi (RI.1.2)) := (hst36.blk 8 rfl).cell 1
    refine bodyPost_ret (v := .tuple #[.agg #[vi (RI.1.1), vi (RI.1.2)], .bool false, .slice A114_36 (RI.2.1.length + 1) c114_36, vi 0]) (by simp [results, Tryd.results13, go_sem, hr37, hr38]) rfl ?_
    exact UpdPost.of (l := RI.2.1 ++ [(n, j, oldB od xid RI.1.1 RI.1.2)]) (by rw [updA, if_neg (by rw [hs4]; decide), hN_s', updBad, if_neg (by rw [hs8]; decide), updR, hN_s', ← hq, if_neg (by omega), hN_r', if_neg (by omega), hN_od]) (by rw [List.length_append]; rfl) rfl (hst36.own' 7 rfl) hst36.ext
  refine wp_cond_true (show Act.eval _ _ = .bool true from (congrArg Value.bool (by rw [hs4]; rfl))) (wp_seq (wp_region_Y [0, 1, 3, 7, 15] [[], [1]] [[], [4]] [[], [1]] [.k 35 (.agg #[vi 0, vi 0]), .n, .k 17 (.bool false), .k 18 (.slice none 0 0), .k 19 (vi 21)] (fun ix σ β X => match ix with | 0 => True | 1 => X 4 = eB B16_1 24 #[vi 0, vi 0] | _ => True) [0, 2, 3, 4] [1] [(17, 2, 3, 20), (15, 0, 1, 16)] hst3 ?_ ?_ ?_))
  · exact fun ix _ _ _ _ _ _ hs hb hx h => match ix, h with
    | 1, h => by dsimp only at h ⊢; rw [← hx 4 rfl]; exact h
    | 0, _ | _ + 2, _ => trivial
  · refine ⟨?_, trivial⟩
    · refine sv_any rfl rfl fun ρ β W X cx => ?_
      exact dv_store (n := 2) rfl (cx.ou 16) (cx.an 0) (by kernel_rfl) (by kernel_rfl) (by kernel_rfl) cx (cx.init 1 _ rfl) rfl (nle rfl) (by kernel_rfl) rfl rfl rfl (fun σ β' X' hs hb hx => hx)
  intro σ β X W39 hD hst39 fr hfr
  simp only [exq 4 ((dTn (hD 1 lq)))] at hst39
  clear hD; subst hfr; clear σ β X
  refine then_normal (wp_ret (then_ret ?_))
  have hr40 : W39.cell? ⟨B16_1, 0, none⟩ = some (vi 0) := (hst39.blk 3 rfl).cell 0
  have hr41 : W39.cell? ⟨B16_1, 1, none⟩ = some (vi 0) := (hst39.blk 3 rfl).cell 1
  refine bodyPost_ret (v := .tuple #[.agg #[vi 0, vi 0], .bool false, .slice none 0 0, vi 21]) (by simp [results, Tryd.results13, go_sem, hr40, hr41]) rfl ?_
  exact UpdPost.nil (by rw [updA, if_pos (by rw [hs4]; rfl)]) hst39.ext
end
end Go.Proofs.YtjnplglnnamfdaaDoor
namespace Go.Proofs.YtjnplglnnamfdaaDoor
section
open Go.RowKit
set_option linter.unusedVariables false
set_option linter.unusedSimpArgs false
theorem sizeT_rep (m : Nat) : sizeT (List.replicate m ByteArray.empty) = 2 * m := by
  induction m with
  | zero => rfl
  | succ m ih =>
    rw [List.replicate_succ]
    have e : sizeT (ByteArray.empty :: List.replicate m ByteArray.empty) = 2 + 0 + sizeT (List.replicate m ByteArray.empty) := by simp [sizeT]
    rw [e, ih]; omega
theorem sizeT_with (ss : List ByteArray) (K : Nat) (s : ByteArray) : sizeT (withL ss K s) ≤ sizeT (plainL ss) + 2 * (K + 1) + s.size := by
  rw [withL]
  have hl : K < (padTo (plainL ss) (K + 1)).length := by rw [padTo, List.length_append, List.length_replicate]; omega
  have h1 := sizeT_set (padTo (plainL ss) (K + 1)) K s hl
  have h2 : sizeT (padTo (plainL ss) (K + 1)) = sizeT (plainL ss) + 2 * (K + 1 - (plainL ss).length) := by rw [padTo, sizeT_append, sizeT_rep]
  omega
theorem putErr_small {k l j : Int} {ss : List ByteArray} {s : ByteArray} (hr : rightB k l ss = true) (hj : 0 ≤ j ∧ j < 24) (hs : s.size ≤ 400) (hz : sizeT (plainL ss) + 2 * (j.toNat + 1) + s.size ≤ 498) : putErr k l ss j s = 0 := by
  have h1 := sizeT_with ss j.toNat s
  have h2 := sizeT_plain (withL ss j.toNat s)
  rw [putErr, hr, if_neg (by decide), if_neg (by omega), if_neg ?_]
  rw [sizeL]
  omega
theorem putS2_size (n : Int) : (putS n 2).size = 2 := putS_size n 2 (by omega)
theorem put_fresh {H : List PgI} {lsn f tb : Int} {v : VerD} (hH : okH H) (hl : 0 ≤ lsn ∧ lsn ≤ 2147483647) (hf : 0 ≤ f ∧ f < H.length) (hv : okD v) (htb : 0 ≤ tb ∧ tb < 65536) :
    ∃ H', doL lsn H [(f, -1, ((⟨#[1]⟩ : ByteArray), none)), (f, 0, (putS tb 2, none)), (f, 1, (txD v, some v))] = some H' ∧ okH H' ∧ H'.length = H.length ∧ hdF (pvL H' f) = true ∧ ofF (pvL H' f) = tb ∧ atF (pvL H' f) 1 = some v ∧
      (∀ m, m ≠ f → pvL H' m = pvL H m) ∧ ∀ k, k ≠ 1 → atF (pvL H' f) k = none := by
  have hr1 := right_kind hl
  have hs2 := putS2_size tb
  have hsv : (txD v).size ≤ 309 := (show Desc (txD v) (some v) from ⟨hv, rfl⟩).le
  have hd1 : Desc (putS tb 2) none := by show (putS tb 2).size < 8; omega
  have hp1 : okP (1, lsn, []) := ⟨hr1, fun i hi => by cases hi⟩
  have hz0 : sizeT (plainL (fstI [])) = 0 := rfl
  have he1 : putErr 1 lsn (fstI []) 0 (putS tb 2) = 0 := putErr_small hr1 (by omega) (by omega) (by rw [hz0, hs2]; decide)
  have hp2 : okP (1, lsn, putI [] 0 (putS tb 2, none)) := hp1.put (j := 0) (i := (putS tb 2, none)) hl hd1 he1
  have hz2 : sizeT (plainL (fstI (putI [] 0 (putS tb 2, none)))) ≤ 4 := by
    have h1 := sizeT_plain (fstI (putI [] 0 (putS tb 2, none)))
    have h2 : sizeT (fstI (putI [] 0 (putS tb 2, none))) ≤ sizeT (withL (fstI []) 0 (putS tb 2)) := by rw [putI_fst]; exact sizeT_plain _
    have h3 := sizeT_with (fstI []) 0 (putS tb 2)
    omega
  have he2 : putErr 1 lsn (fstI (putI [] 0 (putS tb 2, none))) 1 (txD v) = 0 := putErr_small hp2.1 (by omega) (by omega) (by show sizeT (plainL (fstI (putI [] 0 (putS tb 2, none)))) + 2 * (1 + 1) + (txD v).size ≤ 498; omega)
  have hp3 : okP (1, lsn, putI (putI [] 0 (putS tb 2, none)) 1 (txD v, some v)) := hp2.put (j := 1) (i := (txD v, some v)) hl ⟨hv, rfl⟩ he2
  have hc1 : clean ([] : List Itm) := fun x hx => by cases hx
  have hci : (putS tb 2, (none : Option VerD)).1.size = 0 → (putS tb 2, (none : Option VerD)) = it0 := fun h => by rw [hs2] at h; cases h
  have hg1 := fun j => putI_get (K := 0) (i := (putS tb 2, (none : Option VerD))) hc1 hci j
  have hg2 := fun j => putI_get (K := 1) (i := (txD v, some v)) hp2.clean (Desc.clean (x := (txD v, some v)) ⟨hv, rfl⟩) j
  have h00 : (putI (putI [] 0 (putS tb 2, none)) 1 (txD v, some v)).getD 0 it0 = (putS tb 2, none) := by rw [hg2, if_neg (by decide), hg1, if_pos rfl]
  have hl1 : (H.set f.toNat (1, lsn, [])).length = H.length := List.length_set ..
  have hl2 : ((H.set f.toNat (1, lsn, [])).set f.toNat (1, lsn, putI [] 0 (putS tb 2, none))).length = H.length := by rw [List.length_set, hl1]
  have s1 : doL lsn H [(f, -1, ((⟨#[1]⟩ : ByteArray), none))] = some (H.set f.toNat (1, lsn, [])) := doL_one (e := (f, -1, ((⟨#[1]⟩ : ByteArray), none))) hf (by rw [do1, if_pos rfl, if_pos rfl])
  have s2 : doL lsn (H.set f.toNat (1, lsn, [])) [(f, 0, (putS tb 2, none))] = some ((H.set f.toNat (1, lsn, [])).set f.toNat (1, lsn, putI [] 0 (putS tb 2, none))) :=
    doL_one (e := (f, 0, (putS tb 2, none))) (by rw [hl1]; exact hf) (by rw [getD_set' hf, do1, if_neg (show ¬ (0 : Int) = -1 by decide), if_pos he1]; rfl)
  have s3 : doL lsn ((H.set f.toNat (1, lsn, [])).set f.toNat (1, lsn, putI [] 0 (putS tb 2, none))) [(f, 1, (txD v, some v))] = some (((H.set f.toNat (1, lsn, [])).set f.toNat (1, lsn, putI [] 0 (putS tb 2, none))).set f.toNat (1, lsn, putI (putI [] 0 (putS tb 2, none)) 1 (txD v, some v))) :=
    doL_one (e := (f, 1, (txD v, some v))) (by rw [hl2]; exact hf) (by rw [getD_set' (by rw [hl1]; exact hf), do1, if_neg (show ¬ (1 : Int) = -1 by decide), if_pos he2]; rfl)
  have hpv := pvL_at (H := (H.set f.toNat (1, lsn, [])).set f.toNat (1, lsn, putI [] 0 (putS tb 2, none))) (n := f) (p := (1, lsn, putI (putI [] 0 (putS tb 2, none)) 1 (txD v, some v))) (by rw [hl2]; exact hf)
  obtain ⟨H', hH'⟩ : ∃ z, ((H.set f.toNat (1, lsn, [])).set f.toNat (1, lsn, putI [] 0 (putS tb 2, none))).set f.toNat (1, lsn, putI (putI [] 0 (putS tb 2, none)) 1 (txD v, some v)) = z := ⟨_, rfl⟩
  rw [hH'] at hpv s3
  have hh : hdF (pvL H' f) = true := by rw [hpv, hdF_eq]; dsimp only; rw [h00]; dsimp only; rw [hs2]; rfl
  refine ⟨H', ?_, ?_, ?_, hh, ?_, ?_, fun m hm => ?_, fun k hk => ?_⟩
  · have := doL_app (fs := [(f, 0, (putS tb 2, none)), (f, 1, (txD v, some v))]) s1
    rw [show ([(f, -1, ((⟨#[1]⟩ : ByteArray), none)), (f, 0, (putS tb 2, none)), (f, 1, (txD v, some v))] : List EdI) = [(f, -1, ((⟨#[1]⟩ : ByteArray), none))] ++ [(f, 0, (putS tb 2, none)), (f, 1, (txD v, some v))] from rfl, this]
    have h2 := doL_app (fs := [(f, 1, (txD v, some v))]) s2
    rw [show ([(f, 0, (putS tb 2, none)), (f, 1, (txD v, some v))] : List EdI) = [(f, 0, (putS tb 2, none))] ++ [(f, 1, (txD v, some v))] from rfl, h2, s3]
  · rw [← hH']; exact ((hH.set hp1).set hp2).set hp3
  · rw [← hH', List.length_set, hl2]
  · rw [ofF_eq, if_pos hh, hpv]
    dsimp only
    rw [h00]
    dsimp only
    rw [numS_at (a := []) (b := bl (putS tb 2)) (c := []) (p := 0) (k := 2) (by simp) rfl (putS_bl _ 2 (by omega))]
    exact putS_num2 tb htb.1 htb.2
  · rw [atF_eq, if_pos ⟨hh, by decide⟩, hpv]
    dsimp only
    rw [show (1 : Int).toNat = 1 from rfl, hg2, if_pos rfl]
  · rw [← hH', pvL_ne hf.1 hm, pvL_ne hf.1 hm, pvL_ne hf.1 hm]
  · rw [atF_eq, hpv]
    dsimp only
    split
    · rename_i h1
      rw [hg2, if_neg (by omega), hg1]
      split
      · rfl
      · rfl
    · rfl
/-- an edit's cells -/
def edD (e : EdI) : EdD := (e.1, e.2.1, e.2.2.1)
theorem edD_cells (es : List EdI) : (es.map edD).flatMap cellsE = es.flatMap cellsI := by rw [List.flatMap_map]; rfl
theorem okD_new {xid : Int} (hot : Bool) {rs : List Val} (hx : 3 ≤ xid ∧ xid < 128) (h1 : rrightF rs = true) (h2 : NsOk rs) (h3 : plainR rs = rs) : okD (xid, 0, -1, 0, hot, rs) := by
  refine ⟨?_, h2, h3⟩
  show trightF xid 0 (-1) 0 rs = true
  have e : trightF xid 0 (-1) 0 rs = ((xid == 2 || onF xid) && true && true && rrightF rs) := rfl
  have e2 : onF xid = true := by rw [onF, decide_eq_true hx.1, decide_eq_true hx.2]; rfl
  rw [e, h1, e2, Bool.or_true]
  rfl
theorem okD_old {v : VerD} {xid a b : Int} (h : okD v) (hx : 3 ≤ xid ∧ xid < 128) (hab : (a = -1 ∧ b = 0) ∨ (0 ≤ a ∧ a < 400 ∧ 0 ≤ b ∧ b < 24)) : okD (v.1, xid, a, b, v.2.2.2.2.1, v.2.2.2.2.2) := by
  obtain ⟨h1, h2, h3⟩ := h
  refine ⟨?_, h2, h3⟩
  show trightF v.1 xid a b v.2.2.2.2.2 = true
  simp only [trightF, onZ, onF, tnextF, Bool.and_eq_true, Bool.or_eq_true, beq_iff_eq, decide_eq_true_eq] at h1 ⊢
  refine ⟨⟨⟨h1.1.1.1, .inr hx⟩, ?_⟩, h1.2⟩
  omega
theorem newB_tx (xid : Int) (hot : Bool) (rs : List Val) : newB xid hot rs = txD (xid, 0, -1, 0, hot, rs) := rfl
theorem ne_emp {v : VerD} (h : okD v) : ((txD v).toList == (⟨#[]⟩ : ByteArray).toList) = false := by
  have h1 := txD_size h
  rw [beq_eq_false_iff_ne]
  intro h2
  have h3 := ba_inj_z h2
  rw [h3] at h1
  have h4 : (⟨#[]⟩ : ByteArray).size = 0 := rfl
  omega
theorem insP_some {pv : Int → PV} {tb : Int} {s : ByteArray} : ∀ {ns : List Int} {q : Int × Int}, insP pv tb s ns = some q → hdF (pv q.1) = true ∧ ofF (pv q.1) = tb ∧ 0 < roomI (pv q.1) s ∧ q.2 = roomI (pv q.1) s ∧ q.1 ∈ ns
  | [], q, h => by cases h
  | n :: l, q, h => by
    rw [insP] at h
    split at h
    · rename_i h1
      simp only [Bool.and_eq_true, beq_iff_eq, decide_eq_true_eq] at h1
      obtain rfl := Option.some.inj h
      exact ⟨h1.1.1, h1.1.2, h1.2, rfl, by simp⟩
    · obtain ⟨h1, h2, h3, h4, h5⟩ := insP_some h
      exact ⟨h1, h2, h3, h4, by simp [h5]⟩
theorem insBad_no {v : VerD} {fresh tb : Int} (hv : okD v) (htb : 0 ≤ tb ∧ tb < 65536) (hf : fresh < 400) : insBad (txD v) fresh tb = false := by
  rw [insBad, ne_emp hv]
  simp only [Bool.false_or, Bool.or_eq_false_iff, decide_eq_false_iff_not]
  omega
/-- what Insert's edits do -/
theorem ins_law {H : List PgI} {lsn fresh tb : Int} {ns : List Int} {v : VerD} (hH : okH H) (hl : 0 ≤ lsn ∧ lsn ≤ 2147483647) (hv : okD v) (htb : 0 ≤ tb ∧ tb < 65536) (hf : fresh < 400 ∧ fresh < H.length) :
    ((insA (pvL H) fresh tb ns (txD v)).2.2 = 23 ∧ (insA (pvL H) fresh tb ns (txD v)).2.1 = [] ∧ fresh < 0) ∨ ((insA (pvL H) fresh tb ns (txD v)).2.2 = 0 ∧ ∃ es H', es.map edD = (insA (pvL H) fresh tb ns (txD v)).2.1 ∧ (∀ e ∈ es, Desc e.2.2.1 e.2.2.2) ∧ doL lsn H es = some H' ∧ okH H' ∧ H'.length = H.length ∧
      atF (pvL H' (insA (pvL H) fresh tb ns (txD v)).1.1) (insA (pvL H) fresh tb ns (txD v)).1.2 = some v ∧ (0 ≤ (insA (pvL H) fresh tb ns (txD v)).1.1 ∧ (insA (pvL H) fresh tb ns (txD v)).1.1 < H.length) ∧ (1 ≤ (insA (pvL H) fresh tb ns (txD v)).1.2 ∧ (insA (pvL H) fresh tb ns (txD v)).1.2 < 24) ∧
      (∀ m k, m ≠ fresh → m ≠ (insA (pvL H) fresh tb ns (txD v)).1.1 ∨ k ≠ (insA (pvL H) fresh tb ns (txD v)).1.2 → atF (pvL H' m) k = atF (pvL H m) k) ∧ ((insA (pvL H) fresh tb ns (txD v)).1.1 ≠ fresh → atF (pvL H (insA (pvL H) fresh tb ns (txD v)).1.1) (insA (pvL H) fresh tb ns (txD v)).1.2 = none)) := by
  have hR : insA (pvL H) fresh tb ns (txD v) = insR (pvL H) fresh tb ns (txD v) := by rw [insA, if_neg (by rw [insBad_no hv htb hf.1]; decide)]
  cases hq : insP (pvL H) tb (txD v) ns with
  | none =>
    by_cases h0 : fresh < 0
    · have hR2 : insA (pvL H) fresh tb ns (txD v) = ((0, 0), [], 23) := by
        rw [hR, insR, hq]
        show (if fresh < 0 then _ else _) = _
        rw [if_pos h0]
      rw [hR2]
      exact .inl ⟨rfl, rfl, h0⟩
    · have hR2 : insA (pvL H) fresh tb ns (txD v) = ((fresh, 1), bgL fresh tb ++ [(fresh, 1, txD v)], 0) := by
        rw [hR, insR, hq]
        show (if fresh < 0 then _ else _) = _
        rw [if_neg h0]
      rw [hR2]
      obtain ⟨H', g1, g2, g3, g4, g5, g6, g7, g8⟩ := put_fresh (f := fresh) hH hl ⟨by omega, hf.2⟩ hv htb
      refine .inr ⟨rfl, _, H', rfl, fun e he => ?_, g1, g2, g3, g6, ⟨by show 0 ≤ fresh; omega, hf.2⟩, ⟨by show (1 : Int) ≤ 1; decide, by show (1 : Int) < 24; decide⟩, fun m k hm _ => by rw [g7 m hm], fun h => absurd rfl h⟩
      simp only [List.mem_cons, List.not_mem_nil, or_false] at he
      rcases he with rfl | rfl | rfl
      · show (1 : Nat) < 8; decide
      · show (putS tb 2).size < 8; rw [putS2_size]; decide
      · exact ⟨hv, rfl⟩
  | some q =>
    have hR2 : insA (pvL H) fresh tb ns (txD v) = (q, [(q.1, q.2, txD v)], 0) := by rw [hR, insR, hq]
    rw [hR2]
    obtain ⟨h1, h2, h3, h4, h5⟩ := insP_some hq
    obtain ⟨H', g1, g2, g3, g4, g5, g6, g7⟩ := put_new (lsn := lsn) hH hl hv h3 h1
    obtain ⟨r1, r2, r3, r4⟩ := roomI_pos h3
    have hn := pvL_ok r1
    obtain ⟨q1, q2⟩ := q
    dsimp only at h1 h2 h3 h4 h5 g1 g2 g3 g4 g5 g6 g7 r1 r2 r3 r4 hn ⊢
    subst h4
    refine .inr ⟨rfl, [(q1, roomI (pvL H q1) (txD v), (txD v, some v))], H', rfl, fun e he => ?_, g1, g2, g3, g5, hn, ⟨by omega, r3⟩, fun m k _ hmk => g7 m k hmk, fun _ => g6⟩
    rw [List.mem_singleton] at he
    subst he
    exact ⟨hv, rfl⟩
theorem at_in {H : List PgI} {n j : Int} {v : VerD} (h : atF (pvL H n) j = some v) : (0 ≤ n ∧ n < H.length) ∧ hdF (pvL H n) = true ∧ 1 ≤ j := by
  rw [atF_eq] at h
  split at h
  · rename_i h1
    have h2 := h1.1
    rw [hdF_eq, Bool.and_eq_true] at h2
    exact ⟨pvL_ok h2.1, h1.1, h1.2⟩
  · cases h
theorem at_ok {H : List PgI} (hH : okH H) {n j : Int} {v : VerD} (h : atF (pvL H n) j = some v) : okD v := by
  have h1 := at_in h
  have hd : Desc ((pvL H n).its.getD j.toNat it0).1 ((pvL H n).its.getD j.toNat it0).2 := by
    rw [pvL_in h1.1]
    rcases getD_mem_or (H.getD n.toNat pgi0).2.2 it0 j.toNat with h2 | h2
    · exact (hH.get (by omega)).2 _ h2
    · dsimp only
      rw [h2]; show (0 : Nat) < 8; decide
  rw [atF_eq, if_pos ⟨h1.2.1, h1.2.2⟩] at h
  rw [h] at hd
  exact hd.1
/-- the old version is marked behind a new one that lies elsewhere -/
theorem upd_two {H : List PgI} {lsn n j xid q1 q2 : Int} {v v2 : VerD} {es : List EdI} {H1 : List PgI} (hl : 0 ≤ lsn ∧ lsn ≤ 2147483647) (hx : 3 ≤ xid ∧ xid < 128) (ha : atF (pvL H n) j = some v) (hH : okH H) (hlen : H.length ≤ 400)
    (h1 : doL lsn H es = some H1) (hed : ∀ e ∈ es, Desc e.2.2.1 e.2.2.2) (hH1 : okH H1) (hl1 : H1.length = H.length) (hat : atF (pvL H1 q1) q2 = some v2) (hq1 : 0 ≤ q1 ∧ q1 < H.length) (hq2 : 1 ≤ q2 ∧ q2 < 24) (hne : n ≠ q1 ∨ j ≠ q2) (hold : atF (pvL H1 n) j = some v) :
    ∃ H', doL lsn H (es ++ [(n, j, (oldB v xid q1 q2, some (v.1, xid, q1, q2, v.2.2.2.2.1, v.2.2.2.2.2)))]) = some H' ∧ (∀ e ∈ es ++ [((n, j, (oldB v xid q1 q2, some (v.1, xid, q1, q2, v.2.2.2.2.1, v.2.2.2.2.2))) : EdI)], Desc e.2.2.1 e.2.2.2) ∧ okH H' ∧ H'.length = H.length ∧ atF (pvL H' n) j = some (v.1, xid, q1, q2, v.2.2.2.2.1, v.2.2.2.2.2) ∧ atF (pvL H' q1) q2 = some v2 := by
  have hv' := okD_old (xid := xid) (a := q1) (b := q2) (at_ok hH ha) hx (.inr ⟨hq1.1, by omega, by omega, hq2.2⟩)
  obtain ⟨H', g1, g2, g3, g4, g5, g6⟩ := put_old (lsn := lsn) hH1 hl hold hv' rfl
  refine ⟨H', by rw [doL_app h1]; exact g1, fun e he => ?_, g2, by rw [g3, hl1], g5, by rw [g6 q1 q2 (hne.imp (fun h e => h e.symm) (fun h e => h e.symm))]; exact hat⟩
  rcases List.mem_append.1 he with h2 | h2
  · exact hed e h2
  · rw [List.mem_singleton] at h2
    subst h2
    exact ⟨hv', rfl⟩
/-- what Update's edits do, no fresh page -/
theorem upd_law {H : List PgI} {lsn tb n j xid : Int} {ns : List Int} {hot : Bool} {rs : List Val} {v : VerD} (hH : okH H) (hl : 0 ≤ lsn ∧ lsn ≤ 2147483647) (hlen : H.length ≤ 400) (ha : atF (pvL H n) j = some v) (hx : 3 ≤ xid ∧ xid < 128) (htb : 0 ≤ tb ∧ tb < 65536) (h1 : rrightF rs = true) (h2 : NsOk rs) (h3 : plainR rs = rs) :
    (updA (pvL H) (-1) tb ns n j xid hot rs).2.2.2 = 23 ∨ ((updA (pvL H) (-1) tb ns n j xid hot rs).2.2.2 = 0 ∧ ∃ es H', es.map edD = (updA (pvL H) (-1) tb ns n j xid hot rs).2.2.1 ∧ (∀ e ∈ es, Desc e.2.2.1 e.2.2.2) ∧ doL lsn H es = some H' ∧ okH H' ∧ H'.length = H.length ∧
      atF (pvL H' n) j = some (v.1, xid, (updA (pvL H) (-1) tb ns n j xid hot rs).1.1, (updA (pvL H) (-1) tb ns n j xid hot rs).1.2, v.2.2.2.2.1, v.2.2.2.2.2) ∧
      atF (pvL H' (updA (pvL H) (-1) tb ns n j xid hot rs).1.1) (updA (pvL H) (-1) tb ns n j xid hot rs).1.2 = some (xid, 0, -1, 0, (updA (pvL H) (-1) tb ns n j xid hot rs).2.1, rs) ∧
      ((updA (pvL H) (-1) tb ns n j xid hot rs).2.1 = true → (updA (pvL H) (-1) tb ns n j xid hot rs).1.1 = n ∧ hot = true)) := by
  have hon : onF xid = true := by rw [onF, decide_eq_true hx.1, decide_eq_true hx.2]; rfl
  have hvT := okD_new true hx h1 h2 h3
  have hvF := okD_new false hx h1 h2 h3
  have hin := at_in ha
  have hbad : updBad xid (newB xid true rs) (-1) tb = false := by
    rw [updBad, hon, newB_tx, ne_emp hvT]
    simp only [Bool.not_true, Bool.false_or, Bool.or_eq_false_iff, decide_eq_false_iff_not]
    omega
  have hR : updA (pvL H) (-1) tb ns n j xid hot rs = updR (pvL H) (-1) tb ns n j xid hot rs := by rw [updA, ha, if_neg (by simp), if_neg (by rw [hbad]; decide)]
  by_cases hq : 0 < updQ (pvL H) n hot (newB xid true rs)
  · have hh : hot = true := by
      cases hot with
      | true => rfl
      | false => rw [updQ, if_neg (by decide)] at hq; omega
    subst hh
    have hq' : 0 < roomI (pvL H n) (txD (xid, 0, -1, 0, true, rs)) := by rw [updQ, if_pos rfl, newB_tx] at hq; exact hq
    have hR2 : updA (pvL H) (-1) tb ns n j xid true rs = ((n, roomI (pvL H n) (txD (xid, 0, -1, 0, true, rs))), true, [(n, roomI (pvL H n) (txD (xid, 0, -1, 0, true, rs)), txD (xid, 0, -1, 0, true, rs)), (n, j, oldB v xid n (roomI (pvL H n) (txD (xid, 0, -1, 0, true, rs))))], 0) := by
      rw [hR, updR, if_pos hq, ha]; rfl
    rw [hR2]
    obtain ⟨H1, g1, g2, g3, g4, g5, g6, g7⟩ := put_new (lsn := lsn) hH hl hvT hq' hin.2.1
    obtain ⟨r1, r2, r3, r4⟩ := roomI_pos hq'
    have hjq : j ≠ roomI (pvL H n) (txD (xid, 0, -1, 0, true, rs)) := fun e => by rw [e, g6] at ha; cases ha
    obtain ⟨H', k1, k2, k3, k4, k5, k6⟩ := upd_two (xid := xid) hl hx ha hH hlen g1 (fun e he => by rw [List.mem_singleton] at he; subst he; exact ⟨hvT, rfl⟩) g2 g3 g5 hin.1 ⟨by omega, r3⟩ (.inr hjq) (by rw [g7 n j (.inr hjq)]; exact ha)
    exact .inr ⟨rfl, _, H', rfl, k2, k1, k3, k4, k5, k6, fun _ => ⟨rfl, rfl⟩⟩
  · rcases ins_law (lsn := lsn) (fresh := -1) (tb := tb) (ns := ns) hH hl hvF htb ⟨by decide, by omega⟩ with ⟨g1, _, _⟩ | ⟨g0, es, H1, g1, g2, g3, g4, g5, g6, g7, g8, g9, g10⟩
    · left
      rw [hR, updR, if_neg hq, newB_tx, if_pos (by rw [g1]; decide)]
      exact g1
    · obtain ⟨RI, hRI⟩ : ∃ z, insA (pvL H) (-1) tb ns (txD (xid, 0, -1, 0, false, rs)) = z := ⟨_, rfl⟩
      rw [hRI] at g0 g1 g6 g7 g8 g9 g10
      have hR2 : updA (pvL H) (-1) tb ns n j xid hot rs = (RI.1, false, RI.2.1 ++ [(n, j, oldB v xid RI.1.1 RI.1.2)], 0) := by
        rw [hR, updR, if_neg hq, newB_tx, hRI, if_neg (by rw [g0]; decide), ha]; rfl
      rw [hR2]
      have hne : n ≠ RI.1.1 ∨ j ≠ RI.1.2 := by
        rcases Decidable.em (n = RI.1.1) with e1 | e1
        · refine .inr fun e2 => ?_
          have := g10 (by omega)
          rw [← e1, ← e2, ha] at this
          cases this
        · exact .inl e1
      obtain ⟨H', k1, k2, k3, k4, k5, k6⟩ := upd_two (xid := xid) hl hx ha hH hlen g3 g2 g4 g5 g6 g7 g8 hne (by rw [g9 n j (by omega) hne]; exact ha)
      exact .inr ⟨rfl, _, H', by rw [List.map_append, g1]; rfl, k2, k1, k3, k4, k5, k6, fun h => by cases h⟩
end
end Go.Proofs.YtjnplglnnamfdaaDoor
namespace Go.Proofs.YtjnplglnnamfdaaDoor
section
open Go.RowKit Go.Maps
set_option linter.unusedVariables false
set_option linter.unusedSimpArgs false
/-- block b holds a map from int to bool of at most n entries that answers m -/
def MapB (P : Program) (k e b n : Nat) (m : Int → Bool) (W : World) : Prop :=
  ∃ D : DataW Unit, W.ownsMap P k (plainElem P e) b n D ∧ IsMap D ∧ ∀ x : Int, (Lit.int .i64 x).wf = true → D.atKey (.int .i64 x) (.lit (.bool false)) = .lit (.bool (m x))
def eMb (P : Program) (k e b n : Nat) (m : Int → Bool) : Ent := ⟨[b], MapB P k e b n m⟩
theorem eMb_loc (P : Program) (k e b n : Nat) (m : Int → Bool) : (eMb P k e b n m).loc := fun W W' h hb => by
  obtain ⟨D, ⟨es, clock, h1, h2⟩, h3⟩ := hb
  exact ⟨D, ⟨es, clock, (h b (by simp [eMb])).trans h1, h2⟩, h3⟩
theorem MapB.lt {P : Program} {k e b n : Nat} {m : Int → Bool} {W : World} (h : MapB P k e b n m W) : b < W.heap.size := by
  obtain ⟨D, hD, _⟩ := h
  exact hD.lt
theorem i64_wf {x : Int} (h : -9223372036854775808 ≤ x ∧ x ≤ 9223372036854775807) : (Lit.int .i64 x).wf = true := by
  show (decide (IntKind.i64.min ≤ x) && decide (x ≤ IntKind.i64.max)) = true
  have h1 : IntKind.i64.min = -9223372036854775808 := by decide
  have h2 : IntKind.i64.max = 9223372036854775807 := by decide
  rw [h1, h2, decide_eq_true h.1, decide_eq_true h.2]; rfl
section
variable {P : Program} {o : Oper} {ρ : Operand → Value} {W : World} {k e b n : Nat} {m : Int → Bool}
theorem MapB.look {t : TypeId} {x : Int} (h : MapB P k e b n m W) (hk : P.underlying k = some (.int .i64)) (he : P.underlying e = some .bool) (ht : P.underlying t = some (.map k e)) (hz : ∀ w, (zeroValue e).run P w = .ok (.bool false) w) (hx : (Lit.int .i64 x).wf = true) :
    (Instr.lookup t (.map (some b)) (.int .i64 x) false).run P W = .ok (.bool (m x)) W := by
  obtain ⟨D, hD, _, hm⟩ := h
  obtain ⟨v, ps, hrun, hv⟩ := hD.lookup (int_keyed hk) ht (hz W) (plainElem_bool he false) (keyOf_int_mk hk hx)
  rw [hm x hx] at hv
  have : v = .bool (m x) := by
    unfold plainElem at hv
    rw [he] at hv
    cases v <;> simp at hv
    rw [hv.1]
  rw [this] at hrun
  exact hrun
theorem run_lookMb {t : TypeId} {y z : Operand} {x : Int} (h : o.op = .lookup t y z false) (hy : ρ y = .map (some b)) (hz : ρ z = .int .i64 x) (hb : MapB P k e b n m W) (hk : P.underlying k = some (.int .i64) := by kernel_rfl) (he : P.underlying e = some .bool := by kernel_rfl) (ht : P.underlying t = some (.map k e) := by kernel_rfl) (h0 : ∀ w, (zeroValue e).run P w = .ok (.bool false) w) (hx : -9223372036854775808 ≤ x ∧ x ≤ 9223372036854775807) :
    (execOp ρ o).run P W = .ok (.value (.bool (m x))) W := by
  have hrun := hb.look hk he ht h0 (i64_wf hx)
  unfold execOp
  rw [h]
  simp [hy, hz, hrun]
theorem MapB.set {t : TypeId} {x : Int} {v : Bool} (h : MapB P k e b n m W) (hk : P.underlying k = some (.int .i64)) (he : P.underlying e = some .bool) (ht : P.underlying t = some (.map k e)) (hn : n < 1000000) (hx : (Lit.int .i64 x).wf = true) :
    ∃ W', (Instr.mapUpdate t (.map (some b)) (.int .i64 x) (.bool v)).run P W = .ok () W' ∧ MapB P k e b (n + 1) (fun y => if y = x then v else m y) W' ∧ Upd [b] W W' := by
  obtain ⟨D, hD, hI, hm⟩ := h
  obtain ⟨W', hrun, hown, hg⟩ := hD.update (int_keyed hk) ht (by simp only [maxLen]; omega) (keyOf_int_mk hk hx) (plainElem_bool he v)
  refine ⟨W', hrun, ⟨_, hown, hown.isMap, fun y hy => ?_⟩, ⟨hg.os, hg.tape, hg.output, hg.size, fun i hi hn => hg.block i hi (fun e' => hn (by cases e'; simp))⟩⟩
  by_cases e' : y = x
  · subst e'
    show _ = DataW.lit (Lit.bool (if y = y then v else m y))
    rw [if_pos rfl]
    exact atKey_put_same hI (by trivial) _ _
  · show _ = DataW.lit (Lit.bool (if y = x then v else m y))
    rw [if_neg e', atKey_put_other (by simpa using e')]
    exact hm y hy
theorem run_setMb {t : TypeId} {y z u : Operand} {x : Int} {v : Bool} (h : o.op = .mapUpdate t y z u ∨ o.op = .insert t y z u) (hy : ρ y = .map (some b)) (hz : ρ z = .int .i64 x) (hu : ρ u = .bool v) (hb : MapB P k e b n m W) (hn : n < 1000000) (hx : -9223372036854775808 ≤ x ∧ x ≤ 9223372036854775807)
    (hk : P.underlying k = some (.int .i64) := by kernel_rfl) (he : P.underlying e = some .bool := by kernel_rfl) (ht : P.underlying t = some (.map k e) := by kernel_rfl) :
    ∃ W', (execOp ρ o).run P W = .ok .skip W' ∧ MapB P k e b (n + 1) (fun y => if y = x then v else m y) W' ∧ Upd [b] W W' := by
  obtain ⟨W', hrun, h1, h2⟩ := hb.set (v := v) hk he ht hn (i64_wf hx)
  refine ⟨W', ?_, h1, h2⟩
  unfold execOp
  rcases h with h | h <;> rw [h] <;> simp [hy, hz, hu, hrun]
theorem MapB.made : MapB P k e W.heap.size 0 (fun _ => false) (W.alloc (.map #[] 0)) := ⟨.map [], World.ownsMap_made W P k (plainElem P e), ⟨_, rfl⟩, fun x hx => rfl⟩
end
def pbm : Value → Nat
  | .map (some b) => b
  | _ => 0
section
variable {P : Program} {ops : Array Oper} {L : List Nat} {a0 : Act} {w0 : World} {bor : List Nat} {X0 : List Ent} {us cr kl : List (List Nat)}
  {D : Nat → (Tmp → Value) → (Tmp → Value) → (Nat → Ent) → Prop} {i : Nat} {o : Oper} {ρ : Operand → Value} {β : Tmp → Value} {W : World} {X : Nat → Ent}
theorem CtxV.mb {q k e b n : Nat} {m : Int → Bool} (cx : CtxV ops L a0 w0 bor X0 us D i ρ β W X) (hX : X q = eMb P k e b n m) (hu : (atV us i).contains q = true) : MapB P k e b n m W := by
  have h := (cx.ok q hu).holds
  rw [hX] at h; exact h
theorem dv_makeMb {t d k e q : Nat} (h : o.op = .makeMap t none) (hd : o.dst = some d) (hc : atV cr i = [q]) (hk : atV kl i = [])
    (hD : ∀ (σ β' : Tmp → Value) (X' : Nat → Ent), (∀ t, t ≠ d → σ t = ρ (.tmp t)) → (∀ t, t ≠ d → β' t = β t) → σ d = .map (some (pbm (β' d))) → X' q = eMb P k e (pbm (β' d)) 0 (fun _ => false) → D i σ β' X') : DoesU P o ρ W (PostV cr kl D i o.dst ρ β W X) := by
  refine DoesU.value (v := .map (some W.heap.size)) (w' := W.alloc (.map #[] 0)) (by unfold execOp; rw [h]; rfl) ?_
  refine post_call [eMb P k e W.heap.size 0 (fun _ => false)] hk (by rw [hc]; rfl) ((Ext.refl W).alloc _) (one_new ⟨MapB.made, eMb_loc _ _ _ _ _ _, fun k' hk' => ?_⟩) (List.pairwise_singleton _ _) (fun σ β' X' hs hb hv hN => ?_)
  · have : k' = W.heap.size := by simpa [eMb] using hk'
    subst this
    exact ⟨Nat.le_refl _, by simp⟩
  · have hv1 := (hv d hd).1; have hv2 := (hv d hd).2
    rw [hc] at hN
    refine hD σ β' X' (fun t ht => hs t (by rw [hd]; simpa using ht.symm)) (fun t ht => hb t (by rw [hd]; simpa using ht.symm)) ?_ ?_
    · rw [hv1, hv2]; rfl
    · rw [hv2]; exact (List.cons.inj hN).1
theorem dv_setMb {t k e b n q q' : Nat} {m : Int → Bool} {y z u : Operand} {x : Int} {v : Bool} (h : o.op = .mapUpdate t y z u ∨ o.op = .insert t y z u) (hy : ρ y = .map (some b)) (hz : ρ z = .int .i64 x) (hu : ρ u = .bool v)
    (cx : CtxV ops L a0 w0 bor X0 us D i ρ β W X) (hX : X q = eMb P k e b n m) (hq : (atV us i).contains q = true) (hn : n < 1000000) (hx : -9223372036854775808 ≤ x ∧ x ≤ 9223372036854775807) (hd : o.dst = none) (hc : atV cr i = [q']) (hkl : atV kl i = [q])
    (hD : ∀ (σ β' : Tmp → Value) (X' : Nat → Ent), (∀ t, σ t = ρ (.tmp t)) → (∀ t, β' t = β t) → X' q' = eMb P k e b (n + 1) (fun y => if y = x then v else m y) → D i σ β' X')
    (hk : P.underlying k = some (.int .i64) := by kernel_rfl) (he : P.underlying e = some .bool := by kernel_rfl) (ht : P.underlying t = some (.map k e) := by kernel_rfl) : DoesU P o ρ W (PostV cr kl D i o.dst ρ β W X) := by
  obtain ⟨W', hrun, h1, h2⟩ := run_setMb (v := v) h hy hz hu (cx.mb hX hq) hn hx hk he ht
  refine DoesU.skip hrun ⟨[eMb P k e b (n + 1) (fun y => if y = x then v else m y)], by rw [hc]; rfl, ⟨?_, fun e' he' => ?_, List.pairwise_singleton _ _⟩, fun σ β' X' hs hv hb' hbv hx' hN => hD σ β' X' (fun t => hs t (by rw [hd]; simp)) (fun t => hb' t (by rw [hd]; simp)) ?_⟩
  · rw [hkl]
    simp only [List.flatMap_cons, List.flatMap_nil, List.append_nil, hX]
    exact h2
  · rw [List.mem_singleton] at he'
    subst he'
    refine ⟨h1, eMb_loc _ _ _ _ _ _, fun k' hk' => ?_⟩
    have hkb : k' = b := by simpa [eMb] using hk'
    subst hkb
    refine ⟨.inl ?_, h1.lt⟩
    rw [hkl]
    simp [hX, eMb]
  · rw [hc] at hN
    exact (List.cons.inj hN).1
end
end
end Go.Proofs.YtjnplglnnamfdaaDoor
namespace Go.Proofs.YtjnplglnnamfdaaDoor
section
open Go.RowKit
set_option linter.unusedVariables false
set_option linter.unusedSimpArgs false
section
variable {P : Program} {o : Oper} {ρ : Operand → Value} {W : World}
theorem run_indexS {t : TypeId} {x y : Operand} {s : ByteArray} {k : IntKind} {j : Int} {m : Nat} (h : o.op = .index t x y) (ht : P.underlying t = some .string) (hx : ρ x = .string s) (hy : ρ y = .int k j) (hj : j = (m : Int)) (hm : m < s.size) :
    (execOp ρ o).run P W = .ok (.value (.int .u8 (byteI (bl s) m))) W := by
  have e : s = strL (bl s) := strL_bl s
  rw [e] at hx
  exact run_indexStr h ht hx hy hj (by rw [bl_len]; exact hm)
end
/-- the slot that a redirect leads to, or -1 -/
def rdF (v : PV) (j : Int) : Int := if hdF v = true ∧ 1 ≤ j ∧ j < v.its.length ∧ (v.its.getD j.toNat it0).1.size = 2 ∧ byteI (bl (v.its.getD j.toNat it0).1) 0 = 0 then byteI (bl (v.its.getD j.toNat it0).1) 1 else -1
def inS : List Int → Int → Bool
  | [] => fun _ => false
  | s :: l => fun y => if y = s then true else inS l y
theorem inS_mem {l : List Int} {x : Int} : inS l x = true ↔ x ∈ l := by
  induction l with
  | nil => simp [inS]
  | cons a l ih =>
    rw [inS]
    by_cases h : x = a
    · simp [h]
    · show (if x = a then true else inS l x) = true ↔ _
      rw [if_neg h, ih, List.mem_cons]
      simp [h]
def chStop (hot : Bool) (m : Nat) (o : Option VerD) : Bool := !(o.isSome) || ((hot || decide (0 < (m : Int))) && !((vD o).2.2.2.2.1))
def chR (v : PV) (n : Int) (hot : Bool) : Nat → List Int → Int → Int → List (Nat × VerD)
  | 0, _, _, _ => []
  | f + 1, seen, pg, sl => if ((pg == n) && !(inS seen sl)) = true then (if chStop hot seen.length (atF v sl) = true then [] else (sl.toNat, vD (atF v sl)) :: chR v n hot f (sl :: seen) (vD (atF v sl)).2.2.1 (vD (atF v sl)).2.2.2.1) else []
def chF (v : PV) (n j : Int) : List (Nat × VerD) := chR v n (decide (0 ≤ rdF v j)) 24 [] n (if 0 ≤ rdF v j then rdF v j else j)
theorem chR_no {v : PV} {n : Int} {hot : Bool} {f : Nat} {seen : List Int} {pg sl : Int} (h : ((pg == n) && !(inS seen sl)) = false) : chR v n hot f seen pg sl = [] := by
  cases f with
  | zero => rfl
  | succ f => rw [chR, if_neg (by rw [h]; decide)]
theorem chR_stop {v : PV} {n : Int} {hot : Bool} {f : Nat} {seen : List Int} {pg sl : Int} (h : chStop hot seen.length (atF v sl) = true) : chR v n hot f seen pg sl = [] := by
  cases f with
  | zero => rfl
  | succ f => rw [chR]; split <;> simp [h]
theorem chR_go {v : PV} {n : Int} {hot : Bool} {f : Nat} {seen : List Int} {pg sl : Int} (hf : 0 < f) (h1 : ((pg == n) && !(inS seen sl)) = true) (h : chStop hot seen.length (atF v sl) = false) :
    chR v n hot f seen pg sl = (sl.toNat, vD (atF v sl)) :: chR v n hot (f - 1) (sl :: seen) (vD (atF v sl)).2.2.1 (vD (atF v sl)).2.2.2.1 := by
  obtain ⟨f, rfl⟩ : ∃ g, f = g + 1 := ⟨f - 1, by omega⟩
  rw [chR, if_pos h1, if_neg (by rw [h]; decide)]
  rfl
theorem nodup_len : ∀ (n : Nat) (l : List Int), l.Nodup → (∀ x ∈ l, 1 ≤ x ∧ x < (n : Int) + 1) → l.length ≤ n
  | 0, l, _, h => by
    cases l with
    | nil => exact Nat.le_refl _
    | cons a l => have := h a (by simp); omega
  | n + 1, l, hn, h => by
    have h1 : (l.erase ((n : Int) + 1)).length ≤ n := nodup_len n _ (hn.erase _) fun x hx => by
      have h2 := (List.Nodup.mem_erase_iff hn).1 hx
      have h3 := h x h2.2
      have h4 := h2.1
      omega
    have h2 := List.length_erase (a := (n : Int) + 1) (l := l)
    split at h2 <;> omega
theorem atF_some {v : PV} (h : v.wf) {j : Int} (hs : (atF v j).isSome = true) : 1 ≤ j ∧ j < 24 := by
  rw [atF] at hs
  split at hs
  · have := h.1; omega
  · cases hs
theorem atF_next {v : PV} (h : v.wf) (j : Int) : -1 ≤ (vD (atF v j)).2.2.1 ∧ (vD (atF v j)).2.2.1 < 400 ∧ 0 ≤ (vD (atF v j)).2.2.2.1 ∧ (vD (atF v j)).2.2.2.1 < 24 := by
  obtain ⟨s, hs⟩ := atF_desc h j
  have := hs.bd
  exact ⟨this.2.2.2.2.1, this.2.2.2.2.2.1, this.2.2.2.2.2.2.1, this.2.2.2.2.2.2.2.1⟩
theorem rdF_bd (v : PV) (j : Int) : -1 ≤ rdF v j ∧ rdF v j < 256 := by
  rw [rdF]
  split
  · have := byte_lt (bl (v.its.getD j.toNat it0).1) 1
    exact ⟨by have := this.1; rw [byteI]; omega, by have := this.2; exact this⟩
  · omega
def LPost (t : TypeId) (l : List (Nat × VerD)) (n : Int) (w : World) (e : Ending) (w' : World) : Prop := ∃ A c, ∃ ks : List FK, ks.map Prod.fst = l ∧ e = .returned (.slice A l.length c) ∧ w'.ownsRow w.heap.size t 8 (.slice A l.length c) l.length (ks.flatMap (cellsF n)) ∧ Ext w w'
set_option maxRecDepth 100000 in
set_option maxHeartbeats 4000000 in
theorem hredirect_any (tt : TypeId) (tv : Value) (pv : Int → PV) (n j : Int) (w : World) (hS : PgsOk w tt tv pv) :
    Calls Tryd.prog 50 #[.iface tt (tv), .agg #[.int .i64 n, .int .i64 j]] w (Ret (.int .i64 (rdF (pv n) j)) w) := by
  obtain ⟨f0, rv, hM, hC, hG⟩ := hS.ex
  have hwf := hS.wf n
  have hwl := hwf.1
  have hb0 := byte_lt (bl ((pv n).its.getD j.toNat it0).1) 0
  have hb1 := byte_lt (bl ((pv n).its.getD j.toNat it0).1) 1
  have hb0' : 0 ≤ byteI (bl ((pv n).its.getD (j).toNat it0).1) 0 ∧ byteI (bl ((pv n).its.getD (j).toNat it0).1) 0 < 256 := hb0
  have hb1' : 0 ≤ byteI (bl ((pv n).its.getD (j).toNat it0).1) 1 ∧ byteI (bl ((pv n).its.getD (j).toNat it0).1) 1 < 256 := hb1
  go_enter Tryd.func50, Tryd.ntmps50
  have hst0 := St.start w
  refine wp_seq (wp_region_Y [0, 0] [] [[0]] [] [.a 3, .k 4 (vi 0)] (fun ix σ β X => match ix with | 0 => σ 3 = vp (pb (β 3)) ∧ X 0 = eB (pb (β 3)) 24 #[vi n, vi j] | _ => True) [0] [0] [(3, 0, 2, 5)] hst0 ?_ ?_ ?_)
  · exact fun ix _ _ _ _ _ _ hs hb hx h => match ix, h with
    | 0, h => by dsimp only at h ⊢; rw [← hs 3 rfl, ← hb 3 rfl, ← hx 0 rfl]; exact h
    | _ + 1, _ => trivial
  · refine ⟨?_, trivial⟩
    · refine sv_any rfl rfl fun ρ β W X cx => ?_
      exact dv_box (cs := #[vi n, vi j]) rfl (cx.ou 1) rfl rfl rfl (fun σ β' X' hs hb hv hx => ⟨hv, hx⟩)
  intro σ β X W1 hD hst1 fr hfr
  obtain ⟨B3_1, hu_B3_1⟩ : ∃ z, pb (β 3) = z := ⟨_, rfl⟩
  simp only [exq 0 ((dTn (hD 0 lq)).2), hu_B3_1] at hst1
  simp only [ed 3 ((dTn (hD 0 lq)).1), hu_B3_1] at hfr
  clear hD hu_B3_1; subst hfr; clear σ β X
  refine then_normal (wp_seq (wp_seq (wp_region_Z [0, 0, 2, 7, 15, 31, 31, 63, 255] [[], [], [0]] [.k 10 (.iface tt (tv)), .k 11 (vp B3_1), .c 12 (vi n), .c 13 (.tuple #[vi ((ofF (pv n))), .bool ((hdF (pv n)))]), .k 9 (.tuple #[vi ((ofF (pv n))), .bool ((hdF (pv n)))]), .k 14 (vi ((ofF (pv n)))), .k 15 (.bool ((hdF (pv n)))), .k 5 (vi ((ofF (pv n)))), .k 6 (.bool ((hdF (pv n))))] [0] [2, 3] [(5, 7, 2, 7), (2, 4, 1, 3), (0, 0, 4, 4), (0, 5, 2, 2)] hst1 ?_ fun W2 hst2 => ?_)))
  · refine ⟨?_, ?_, trivial⟩
    · exact xs4 rfl id fun cx => run_load1 rfl (by kernel_rfl) (cx.an 1) ((cx.bi 0 rfl).cell 0)
    · exact xsc rfl id rfl rfl fun cx => ⟨_, of_any _ _ pv n _ (hS.ext cx.upd.to_ext), (map2 (cx.an 0) (cx.an 2))⟩
  refine then_normal (wp_seq (wp_region_Z [0, 1, 3, 7, 15, 31, 63] [[], [], [], [], [0]] [.k 16 (.bool ((hdF (pv n)))), .k 17 (.bool (!((hdF (pv n))))), .k 18 (.bool (!((hdF (pv n))))), .z 19 (!(!((hdF (pv n))))) (.pointer (some ⟨B3_1, 1, none⟩)), .y 20 (!(!((hdF (pv n))))) (vi j), .z 21 (!(!((hdF (pv n))))) (.bool (decide (j < 1))), tO 22 (!((hdF (pv n)))) (decide (j < 1))] [0] [4] [(16, 0, 7, 23)] hst2 ?_ fun W3 hst3 => ?_))
  · refine ⟨?_, trivial⟩
    · exact m2 rfl (fun _ _ _ h => h) (fun cx => (cx.an 2)) fun cx hq => run_load1 rfl (by kernel_rfl) (mbv (cx.an 3) hq) ((cx.bi 0 rfl).cell 1)
  refine then_normal ?_
  rcases Bool.eq_false_or_eq_true ((!((hdF (pv n)))) || (decide (j < 1))) with hs4 | hs4
  · skip
    have hs4p := hs4
    simp only [zB] at hs4p
    refine wp_cond_true (show Act.eval _ _ = .bool true from (congrArg Value.bool hs4)) (wp_seq (wp_region_P [0] [.k 4 (vi (-1))] [(4, 0, 1, 5)] hst3 fun W5 hst5 => ?_))
    refine then_normal (wp_ret (then_ret ?_))
    refine bodyPost_ret (v := vi (-1)) (results_tmp Tryd.results50 rfl) rfl ?_
    have hrd : rdF (pv n) j = -1 := by rw [rdF, if_neg (by rintro ⟨a_, b_, c_, d_, e_⟩; simp_all; try omega)]
    rw [hrd]
    exact Ret.of rfl hst5.ext
  have hs4p := hs4
  simp only [zB] at hs4p
  obtain ⟨hs4p1, hs4p2⟩ := hs4p
  refine wp_cond_false (show Act.eval _ _ = .bool false from (congrArg Value.bool hs4)) (wp_skip (then_normal (wp_seq (wp_region_Y [0, 0, 2, 7, 15, 31, 31, 0, 191, 511] [[], [], [0], [], [], [], [], [], [2]] [[], [], [], [1], [], [], [], [2], [3]] [[], [], [], [], [], [], [], [], [2]] [.k 24 (.iface tt (tv)), .k 25 (vp B3_1), .c 26 (vi n), .a 27, .a 23, .a 28, .c 29 (.bool ((pv n).ok)), .a 7, .n, .k 8 (.bool ((pv n).ok))] (fun ix σ β X => match ix with | 0 => True | 1 => True | 2 => True | 3 => σ 27 = .tuple #[.agg #[vi ((pv n).k), vi ((pv n).l), .slice (sA (tg (tg (β 27) 0) 2)) ((pv n).its.length) (sC (tg (tg (β 27) 0) 2))], .bool ((pv n).ok)] ∧ X 1 = eO 9 1 (.slice (sA (tg (tg (β 27) 0) 2)) ((pv n).its.length) (sC (tg (tg (β 27) 0) 2))) ((pv n).its.length) (strs (pv n).its) | 4 => σ 23 = .tuple #[.agg #[vi ((pv n).k), vi ((pv n).l), .slice (sA (tg (tg (β 27) 0) 2)) ((pv n).its.length) (sC (tg (tg (β 27) 0) 2))], .bool ((pv n).ok)] | 5 => σ 28 = .agg #[vi ((pv n).k), vi ((pv n).l), .slice (sA (tg (tg (β 27) 0) 2)) ((pv n).its.length) (sC (tg (tg (β 27) 0) 2))] | 6 => True | 7 => σ 7 = vp (pb (β 7)) ∧ X 2 = eB (pb (β 7)) 86 #[vi 0, vi 0, .slice none 0 0] | 8 => X 3 = eB (pb (β 7)) 86 #[vi ((pv n).k), vi ((pv n).l), .slice (sA (tg (tg (β 27) 0) 2)) ((pv n).its.length) (sC (tg (tg (β 27) 0) 2))] | _ => True) [0, 1, 3] [2, 3, 4, 5, 6, 7, 8] [(7, 7, 3, 9), (14, 4, 1, 15), (0, 0, 4, 4), (0, 5, 2, 2)] hst3 ?_ ?_ ?_))))
  · exact fun ix _ _ _ _ _ _ hs hb hx h => match ix, h with
    | 3, h => by dsimp only at h ⊢; rw [← hs 27 rfl, ← hb 27 rfl, ← hx 1 rfl]; exact h
    | 4, h => by dsimp only at h ⊢; rw [← hs 23 rfl, ← hb 27 rfl]; exact h
    | 5, h => by dsimp only at h ⊢; rw [← hs 28 rfl, ← hb 27 rfl]; exact h
    | 7, h => by dsimp only at h ⊢; rw [← hs 7 rfl, ← hb 7 rfl, ← hx 2 rfl]; exact h
    | 8, h => by dsimp only at h ⊢; rw [← hb 7 rfl, ← hb 27 rfl, ← hx 3 rfl]; exact h
    | 0, _ | 1, _ | 2, _ | 6, _ | _ + 9, _ => trivial
  · refine ⟨?_, ?_, ?_, ?_, ?_, ?_, ?_, trivial⟩
    · exact xs4 rfl id fun cx => run_load1 rfl (by kernel_rfl) (cx.an 1) ((cx.bi 0 rfl).cell 0)
    · refine sv_any rfl rfl fun ρ β W X cx => ?_
      refine DoesU.call (run_invoke (args := #[vi n]) (args' := #[rv, vi n]) rfl rfl (cx.an 0) hM hC (map1 (cx.an 2)) rfl) ?_
      refine (hG _ n cx.upd.to_ext).mono ?_
      rintro e W1 ⟨A4, c4, rfl, ho, hx⟩
      refine ⟨_, rfl, post_call [eO 9 1 (.slice A4 (pv n).its.length c4) (pv n).its.length (strs (pv n).its)] rfl rfl hx (one_new (eO_new ho)) (List.pairwise_singleton _ _) (fun σ β' X' hs hb hv hN => ?_)⟩
      have hv1 := (hv 27 rfl).1; have hv2 := (hv 27 rfl).2
      exact ⟨hv1.trans (by rw [hv2]; rfl), (by rw [hv2]; exact (List.cons.inj hN).1)⟩
    · exact sv rfl rfl rfl rfl rfl _ (fun _ _ _ h => h) (fun β β' h => by rw [h 27 (by decide)]) fun ρ β W X cx => run_move' rfl (dTn (cx.an 3)).1
    · exact sv rfl rfl rfl rfl rfl _ (fun _ _ _ h => h) (fun β β' h => by rw [h 27 (by decide)]) fun ρ β W X cx => run_extract' rfl (dTn (cx.an 4)) rfl
    · exact xs4 rfl id fun cx => run_extract' rfl (dTn (cx.an 4)) rfl
    · refine sv_any rfl rfl fun ρ β W X cx => ?_
      exact dv_alloc (cs := #[vi 0, vi 0, .slice none 0 0]) rfl (by kernel_rfl) rfl rfl (fun σ β' X' hs hb hv hx => ⟨hv, hx⟩)
    · refine sv_any rfl rfl fun ρ β W X cx => ?_
      exact dv_store (n := 3) rfl (dTn (cx.an 7)).1 (dTn (cx.an 5)) (by kernel_rfl) (by kernel_rfl) (by kernel_rfl) cx (dTn (cx.an 7)).2 rfl (nle rfl) (by kernel_rfl) rfl rfl rfl (fun σ β' X' hs hb hx => by rw [hb 7, hb 27]; exact hx)
  intro σ β X W6 hD hst6 fr hfr
  obtain ⟨A27_6, hu_A27_6⟩ : ∃ z, sA (tg (tg (β 27) 0) 2) = z := ⟨_, rfl⟩
  obtain ⟨c27_6, hu_c27_6⟩ : ∃ z, sC (tg (tg (β 27) 0) 2) = z := ⟨_, rfl⟩
  obtain ⟨B7_6, hu_B7_6⟩ : ∃ z, pb (β 7) = z := ⟨_, rfl⟩
  simp only [exq 1 ((dTn (hD 3 lq)).2), exq 3 ((dTn (hD 8 lq))), hu_A27_6, hu_c27_6, hu_B7_6] at hst6
  simp only [ed 27 ((dTn (hD 3 lq)).1), ed 23 ((dTn (hD 4 lq))), ed 28 ((dTn (hD 5 lq))), ed 7 ((dTn (hD 7 lq)).1), hu_A27_6, hu_c27_6, hu_B7_6] at hfr
  clear hD hu_A27_6 hu_c27_6 hu_B7_6; subst hfr; clear σ β X
  refine then_normal (wp_seq (wp_seq (wp_region_Z [0, 1, 0, 4, 12, 31, 63, 127, 255, 127, 639, 2047, 4095, 8191, 16383, 32767, 65535, 131071, 262143, 131071, 655359, 2097151, 4194303, 8388607, 16777215, 33554431] [[], [0], [], [2], [], [], [], [], [2], [], [0], [1], [1], [], [], [], [], [], [2], [], [0], [1], [1]] [.k 30 (.pointer (some ⟨B3_1, 1, none⟩)), .c 31 (vi j), .k 32 (.pointer (some ⟨B7_6, 2, none⟩)), .c 33 (.slice A27_6 ((pv n).its.length) c27_6), .k 34 (vi (((pv n).its.length : Int))), .k 35 (.bool (decide (((pv n).its.length : Int) ≤ j))), .k 36 (.bool (decide (((pv n).its.length : Int) ≤ j))), .z 37 (!(decide (((pv n).its.length : Int) ≤ j))) (.pointer (some ⟨B7_6, 2, none⟩)), .y 38 (!(decide (((pv n).its.length : Int) ≤ j))) (.slice A27_6 ((pv n).its.length) c27_6), .z 39 (!(decide (((pv n).its.length : Int) ≤ j))) (.pointer (some ⟨B3_1, 1, none⟩)), .y 40 (!(decide (((pv n).its.length : Int) ≤ j))) (vi j), .y 41 (!(decide (((pv n).its.length : Int) ≤ j))) (.pointer (some ((ad A27_6).add ((j).toNat)))), .y 42 (!(decide (((pv n).its.length : Int) ≤ j))) (.string (((pv n).its.getD (j).toNat it0).1)), .z 43 (!(decide (((pv n).its.length : Int) ≤ j))) (vi (((((pv n).its.getD (j).toNat it0).1).size : Int))), .z 44 (!(decide (((pv n).its.length : Int) ≤ j))) (.bool (((((pv n).its.getD (j).toNat it0).1).size : Int) != 2)), tO 45 (decide (((pv n).its.length : Int) ≤ j)) (((((pv n).its.getD (j).toNat it0).1).size : Int) != 2), .k 46 (.bool ((decide (((pv n).its.length : Int) ≤ j)) || (((((pv n).its.getD (j).toNat it0).1).size : Int) != 2))), .z 47 (!((decide (((pv n).its.length : Int) ≤ j)) || (((((pv n).its.getD (j).toNat it0).1).size : Int) != 2))) (.pointer (some ⟨B7_6, 2, none⟩)), .y 48 (!((decide (((pv n).its.length : Int) ≤ j)) || (((((pv n).its.getD (j).toNat it0).1).size : Int) != 2))) (.slice A27_6 ((pv n).its.length) c27_6), .z 49 (!((decide (((pv n).its.length : Int) ≤ j)) || (((((pv n).its.getD (j).toNat it0).1).size : Int) != 2))) (.pointer (some ⟨B3_1, 1, none⟩)), .y 50 (!((decide (((pv n).its.length : Int) ≤ j)) || (((((pv n).its.getD (j).toNat it0).1).size : Int) != 2))) (vi j), .y 51 (!((decide (((pv n).its.length : Int) ≤ j)) || (((((pv n).its.getD (j).toNat it0).1).size : Int) != 2))) (.pointer (some ((ad A27_6).add ((j).toNat)))), .y 52 (!((decide (((pv n).its.length : Int) ≤ j)) || (((((pv n).its.getD (j).toNat it0).1).size : Int) != 2))) (.string (((pv n).its.getD (j).toNat it0).1)), .y 53 (!((decide (((pv n).its.length : Int) ≤ j)) || (((((pv n).its.getD (j).toNat it0).1).size : Int) != 2))) (.int .u8 (byteI (bl (((pv n).its.getD (j).toNat it0).1)) 0)), .z 54 (!((decide (((pv n).its.length : Int) ≤ j)) || (((((pv n).its.getD (j).toNat it0).1).size : Int) != 2))) (.bool ((byteI (bl (((pv n).its.getD (j).toNat it0).1)) 0) != 0)), tO 55 ((decide (((pv n).its.length : Int) ≤ j)) || (((((pv n).its.getD (j).toNat it0).1).size : Int) != 2)) ((byteI (bl (((pv n).its.getD (j).toNat it0).1)) 0) != 0)] [0, 1, 2] [1, 3, 8, 10, 11, 12, 18, 20, 21, 22, 23] [(30, 0, 26, 56)] hst6 ?_ fun W7 hst7 => ?_)))
  · refine ⟨?_, ?_, ?_, ?_, ?_, ?_, ?_, ?_, ?_, ?_, ?_, trivial⟩
    · exact xs4 rfl id fun cx => run_load1 rfl (by kernel_rfl) (cx.an 0) ((cx.bi 0 rfl).cell 1)
    · exact xs4 rfl id fun cx => run_load1 rfl (by kernel_rfl) (cx.an 2) ((cx.bi 2 rfl).cell 2)
    · exact m2 rfl (fun _ _ _ h => h) (fun cx => (cx.an 6)) fun cx hq => run_load1 rfl (by kernel_rfl) (mbv (cx.an 7) hq) ((cx.bi 2 rfl).cell 2)
    · exact m2 rfl (fun _ _ _ h => h) (fun cx => (cx.an 6)) fun cx hq => run_load1 rfl (by kernel_rfl) (mbv (cx.an 9) hq) ((cx.bi 0 rfl).cell 1)
    · exact m2 rfl (fun _ _ _ h => h) (fun cx => (cx.an 6)) fun cx hq => run_indexSl (e := 9) (m := (j).toNat) rfl (by kernel_rfl) (by kernel_rfl) (mbv (cx.an 8) hq) (mbv (cx.an 10) hq) (by have hq_ := hq; simp only [zB] at hq_; omega) (by have hq_ := hq; simp only [zB] at hq_; omega) (At.of_own (cx.ri 1 rfl)) (strs_len _)
    · exact m2 rfl (fun _ _ _ h => h) (fun cx => (cx.an 6)) fun cx hq => run_load1 rfl (by kernel_rfl) (mbv (cx.an 11) hq) (At.cellAd (At.of_own (cx.ri 1 rfl)) (getD_strs (by have hq_ := hq; simp only [zB] at hq_; omega)))
    · exact m2 rfl (fun _ _ _ h => h) (fun cx => (cx.an 16)) fun cx hq => run_load1 rfl (by kernel_rfl) (mbv (cx.an 17) hq) ((cx.bi 2 rfl).cell 2)
    · exact m2 rfl (fun _ _ _ h => h) (fun cx => (cx.an 16)) fun cx hq => run_load1 rfl (by kernel_rfl) (mbv (cx.an 19) hq) ((cx.bi 0 rfl).cell 1)
    · exact m2 rfl (fun _ _ _ h => h) (fun cx => (cx.an 16)) fun cx hq => run_indexSl (e := 9) (m := (j).toNat) rfl (by kernel_rfl) (by kernel_rfl) (mbv (cx.an 18) hq) (mbv (cx.an 20) hq) (by have hq_ := hq; simp only [zB] at hq_; omega) (by have hq_ := hq; simp only [zB] at hq_; omega) (At.of_own (cx.ri 1 rfl)) (strs_len _)
    · exact m2 rfl (fun _ _ _ h => h) (fun cx => (cx.an 16)) fun cx hq => run_load1 rfl (by kernel_rfl) (mbv (cx.an 21) hq) (At.cellAd (At.of_own (cx.ri 1 rfl)) (getD_strs (by have hq_ := hq; simp only [zB] at hq_; omega)))
    · exact m2 rfl (fun _ _ _ h => h) (fun cx => (cx.an 16)) fun cx hq => run_indexS (m := 0) rfl (by kernel_rfl) (mbv (cx.an 22) hq) (cx.co _) (by have hq_ := hq; simp only [zB] at hq_; omega) (by have hq_ := hq; simp only [zB] at hq_; omega)
  refine then_normal ?_
  rcases Bool.eq_false_or_eq_true (((decide (((pv n).its.length : Int) ≤ j)) || (((((pv n).its.getD (j).toNat it0).1).size : Int) != 2)) || ((byteI (bl (((pv n).its.getD (j).toNat it0).1)) 0) != 0)) with hs8 | hs8
  · skip
    have hs8p := hs8
    simp only [zB] at hs8p
    refine wp_cond_true (show Act.eval _ _ = .bool true from (congrArg Value.bool hs8)) (wp_seq (wp_region_P [0] [.k 4 (vi (-1))] [(4, 0, 1, 5)] hst7 fun W9 hst9 => ?_))
    refine then_normal (wp_ret (then_ret ?_))
    refine bodyPost_ret (v := vi (-1)) (results_tmp Tryd.results50 rfl) rfl ?_
    have hrd : rdF (pv n) j = -1 := by rw [rdF, if_neg (by rintro ⟨a_, b_, c_, d_, e_⟩; simp_all; try omega)]
    rw [hrd]
    exact Ret.of rfl hst9.ext
  have hs8p := hs8
  simp only [zB] at hs8p
  obtain ⟨⟨hs8p1, hs8p2⟩, hs8p3⟩ := hs8p
  refine wp_cond_false (show Act.eval _ _ = .bool false from (congrArg Value.bool hs8)) (wp_skip (then_normal (wp_seq (wp_region_Z [0, 1, 0, 4, 15, 31, 63, 127, 255] [[], [2], [], [0], [1], [1]] [.k 56 (.pointer (some ⟨B7_6, 2, none⟩)), .c 57 (.slice A27_6 ((pv n).its.length) c27_6), .k 58 (.pointer (some ⟨B3_1, 1, none⟩)), .c 59 (vi j), .c 60 (.pointer (some ((ad A27_6).add ((j).toNat)))), .c 61 (.string (((pv n).its.getD (j).toNat it0).1)), .c 62 (.int .u8 (byteI (bl (((pv n).its.getD (j).toNat it0).1)) 1)), tW 63 .i64 (byteI (bl (((pv n).its.getD (j).toNat it0).1)) 1) (byteI (bl (((pv n).its.getD (j).toNat it0).1)) 1) (IntWalk.i64_in _ (by omega)), .k 4 (vi (byteI (bl (((pv n).its.getD (j).toNat it0).1)) 1))] [0, 1, 2] [1, 3, 4, 5, 6] [(4, 8, 1, 5), (51, 0, 8, 59)] hst7 ?_ fun W10 hst10 => ?_))))
  · refine ⟨?_, ?_, ?_, ?_, ?_, trivial⟩
    · exact xs4 rfl id fun cx => run_load1 rfl (by kernel_rfl) (cx.an 0) ((cx.bi 2 rfl).cell 2)
    · exact xs4 rfl id fun cx => run_load1 rfl (by kernel_rfl) (cx.an 2) ((cx.bi 0 rfl).cell 1)
    · exact xs4 rfl id fun cx => run_indexSl (e := 9) (m := (j).toNat) rfl (by kernel_rfl) (by kernel_rfl) (cx.an 1) (cx.an 3) (by omega) (by omega) (At.of_own (cx.ri 1 rfl)) (strs_len _)
    · exact xs4 rfl id fun cx => run_load1 rfl (by kernel_rfl) (cx.an 4) (At.cellAd (At.of_own (cx.ri 1 rfl)) (getD_strs (by omega)))
    · exact xs4 rfl id fun cx => run_indexS (m := 1) rfl (by kernel_rfl) (cx.an 5) (cx.co _) (by omega) (by omega)
  refine then_normal (wp_ret ?_)
  refine bodyPost_ret (v := vi (byteI (bl (((pv n).its.getD (j).toNat it0).1)) 1)) (results_tmp Tryd.results50 rfl) rfl ?_
  have hrd : rdF (pv n) j = byteI (bl ((pv n).its.getD (j).toNat it0).1) 1 := by rw [rdF, if_pos (by refine ⟨by simp_all, by omega, by omega, by omega, by omega⟩)]
  rw [hrd]
  exact Ret.of rfl hst10.ext
set_option maxRecDepth 100000 in
set_option maxHeartbeats 8000000 in
theorem hchain_any (tt : TypeId) (tv : Value) (pv : Int → PV) (n j : Int) (w : World) (hS : PgsOk w tt tv pv) (hN : NoneAt w) (hj : -9223372036854775808 ≤ j ∧ j ≤ 9223372036854775807) :
    Calls Tryd.prog 25 #[.iface tt (tv), .agg #[.int .i64 n, .int .i64 j]] w (LPost 78 (chF (pv n) n j) n w) := by
  have hwf := hS.wf n
  go_enter Tryd.func25, Tryd.ntmps25
  have hst0 := St.start w
  refine wp_seq (wp_region_Y [0, 0] [] [[0]] [] [.a 3, .k 4 (.slice none 0 0)] (fun ix σ β X => match ix with | 0 => σ 3 = vp (pb (β 3)) ∧ X 0 = eB (pb (β 3)) 24 #[vi n, vi j] | _ => True) [0] [0] [(3, 0, 2, 5)] hst0 ?_ ?_ ?_)
  · exact fun ix _ _ _ _ _ _ hs hb hx h => match ix, h with
    | 0, h => by dsimp only at h ⊢; rw [← hs 3 rfl, ← hb 3 rfl, ← hx 0 rfl]; exact h
    | _ + 1, _ => trivial
  · refine ⟨?_, trivial⟩
    · refine sv_any rfl rfl fun ρ β W X cx => ?_
      exact dv_box (cs := #[vi n, vi j]) rfl (cx.ou 1) rfl rfl rfl (fun σ β' X' hs hb hv hx => ⟨hv, hx⟩)
  intro σ β X W1 hD hst1 fr hfr
  obtain ⟨B3_1, hu_B3_1⟩ : ∃ z, pb (β 3) = z := ⟨_, rfl⟩
  simp only [exq 0 ((dTn (hD 0 lq)).2), hu_B3_1] at hst1
  simp only [ed 3 ((dTn (hD 0 lq)).1), hu_B3_1] at hfr
  clear hD hu_B3_1; subst hfr; clear σ β X
  refine then_normal (wp_seq (wp_region_Y [0, 1] [] [[1]] [] [.a 11, .a 5] (fun ix σ β X => match ix with | 0 => σ 11 = .map (some (pbm (β 11))) ∧ X 1 = eMb Tryd.prog 3 4 (pbm (β 11)) 0 (fun _ => false) | 1 => σ 5 = .map (some (pbm (β 11))) | _ => True) [0, 1] [0, 1] [(5, 1, 1, 6), (5, 0, 1, 6)] hst1 ?_ ?_ ?_))
  · exact fun ix _ _ _ _ _ _ hs hb hx h => match ix, h with
    | 0, h => by dsimp only at h ⊢; rw [← hs 11 rfl, ← hb 11 rfl, ← hx 1 rfl]; exact h
    | 1, h => by dsimp only at h ⊢; rw [← hs 5 rfl, ← hb 11 rfl]; exact h
    | _ + 2, _ => trivial
  · refine ⟨?_, ?_, trivial⟩
    · refine sv_any rfl rfl fun ρ β W X cx => ?_
      exact dv_makeMb rfl rfl rfl rfl (fun σ β' X' hs hb hv hx => ⟨hv, hx⟩)
    · exact sv rfl rfl rfl rfl rfl _ (fun _ _ _ h => h) (fun β β' h => by rw [h 11 (by decide)]) fun ρ β W X cx => run_assign' rfl (dTn (cx.an 0)).1
  intro σ β X W2 hD hst2 fr hfr
  obtain ⟨M11_2, hu_M11_2⟩ : ∃ z, pbm (β 11) = z := ⟨_, rfl⟩
  simp only [exq 1 ((dTn (hD 0 lq)).2), hu_M11_2] at hst2
  simp only [ed 11 ((dTn (hD 0 lq)).1), ed 5 ((dTn (hD 1 lq))), hu_M11_2] at hfr
  clear hD hu_M11_2; subst hfr; clear σ β X
  refine then_normal (wp_seq (wp_region_Y [0, 0, 3, 7] [[0], [], [2]] [[], [2], [3]] [[], [], [2]] [.c 12 (.agg #[vi n, vi j]), .a 6, .n, .k 7 (.bool false)] (fun ix σ β X => match ix with | 0 => True | 1 => σ 6 = vp (pb (β 6)) ∧ X 2 = eB (pb (β 6)) 24 #[vi 0, vi 0] | 2 => X 3 = eB (pb (β 6)) 24 #[vi n, vi j] | _ => True) [0, 1, 3] [0, 1, 2] [(6, 1, 3, 8), (4, 0, 1, 5)] hst2 ?_ ?_ ?_))
  · exact fun ix _ _ _ _ _ _ hs hb hx h => match ix, h with
    | 1, h => by dsimp only at h ⊢; rw [← hs 6 rfl, ← hb 6 rfl, ← hx 2 rfl]; exact h
    | 2, h => by dsimp only at h ⊢; rw [← hb 6 rfl, ← hx 3 rfl]; exact h
    | 0, _ | _ + 3, _ => trivial
  · refine ⟨?_, ?_, ?_, trivial⟩
    · exact xs4 rfl id fun cx => run_loadB (n := 2) rfl (by kernel_rfl) (by kernel_rfl) (cx.ou 3) (cx.bi 0 rfl) (nle rfl) rfl
    · refine sv_any rfl rfl fun ρ β W X cx => ?_
      exact dv_alloc (cs := #[vi 0, vi 0]) rfl (by kernel_rfl) rfl rfl (fun σ β' X' hs hb hv hx => ⟨hv, hx⟩)
    · refine sv_any rfl rfl fun ρ β W X cx => ?_
      exact dv_store (n := 2) rfl (dTn (cx.an 1)).1 (cx.an 0) (by kernel_rfl) (by kernel_rfl) (by kernel_rfl) cx (dTn (cx.an 1)).2 rfl (nle rfl) (by kernel_rfl) rfl rfl rfl (fun σ β' X' hs hb hx => by rw [hb 6]; exact hx)
  intro σ β X W3 hD hst3 fr hfr
  obtain ⟨B6_3, hu_B6_3⟩ : ∃ z, pb (β 6) = z := ⟨_, rfl⟩
  simp only [exq 3 ((dTn (hD 2 lq))), hu_B6_3] at hst3
  simp only [ed 6 ((dTn (hD 1 lq)).1), hu_B6_3] at hfr
  clear hD hu_B6_3; subst hfr; clear σ β X
  refine then_normal ?_
  refine wp_cut (fun az W => ∃ sl0 : Int, ∃ hot : Bool, sl0 = (if 0 ≤ rdF (pv n) j then rdF (pv n) j else j) ∧ hot = decide (0 ≤ rdF (pv n) j) ∧ az = ⟨#[.iface tt (tv), .agg #[vi n, vi j], undef, vp B3_1, .slice none 0 0, .map (some M11_2), vp B6_3, .bool hot, jv az 8, undef, undef, .map (some M11_2), .agg #[vi n, vi j], jv az 13, jv az 14, jv az 15, jv az 16, jv az 17, jv az 18, jv az 19, undef, undef, undef, undef, undef, undef, undef, undef, undef, undef, undef, undef, undef, undef, undef, undef, undef, undef, undef, undef, undef, undef, undef, undef, undef, undef, undef, undef, undef, undef, undef, undef, undef, undef, undef, undef, undef, undef, undef, undef, undef, undef, undef, undef, undef], []⟩ ∧ St w [] [eB B3_1 24 #[vi n, vi j], eMb Tryd.prog 3 4 M11_2 0 (fun _ => false), eB B6_3 24 #[vi n, vi sl0]] W) ?_ ?_
  · skip
    refine wp_seq (wp_region_Z [0, 0, 3, 7] [[], [0]] [.k 13 (.iface tt (tv)), .c 14 (.agg #[vi n, vi j]), .c 15 (vi ((rdF (pv n) j))), .k 8 (vi ((rdF (pv n) j)))] [0, 1, 2] [1, 2] [(8, 3, 1, 9), (4, 0, 3, 7)] hst3 ?_ fun W5 hst5 => ?_)
    · refine ⟨?_, ?_, trivial⟩
      · exact xs4 rfl id fun cx => run_loadB (n := 2) rfl (by kernel_rfl) (by kernel_rfl) (cx.ou 3) (cx.bi 0 rfl) (nle rfl) rfl
      · exact xsc rfl id rfl rfl fun cx => ⟨_, hredirect_any _ _ pv n j _ (hS.ext cx.upd.to_ext), (map2 (cx.an 0) (cx.an 1))⟩
    refine then_normal (wp_seq (wp_region_P [0, 1] [.k 16 (vi ((rdF (pv n) j))), .k 17 (.bool (decide (0 ≤ (rdF (pv n) j))))] [(16, 0, 2, 18)] hst5 fun W6 hst6 => ?_))
    refine then_normal ?_
    rcases Bool.eq_false_or_eq_true (decide (0 ≤ (rdF (pv n) j))) with hs7 | hs7
    · skip
      have hs7p : 0 ≤ (rdF (pv n) j) := by simpa using hs7
      refine wp_cond_true (show Act.eval _ _ = .bool true from (congrArg Value.bool hs7)) (wp_region_Y [0, 1, 3, 7] [[], [], [2]] [[], [], [3]] [[], [], [2]] [.k 18 (vi ((rdF (pv n) j))), .k 19 (.pointer (some ⟨B6_3, 1, none⟩)), .n, .k 7 (.bool true)] (fun ix σ β X => match ix with | 0 => True | 1 => True | 2 => X 3 = eB B6_3 24 #[vi n, vi ((rdF (pv n) j))] | _ => True) [0, 1, 3] [2] [(7, 3, 1, 8), (10, 0, 2, 12)] hst6 ?_ ?_ ?_)
      · exact fun ix _ _ _ _ _ _ hs hb hx h => match ix, h with
        | 2, h => by dsimp only at h ⊢; rw [← hx 3 rfl]; exact h
        | 0, _ | 1, _ | _ + 3, _ => trivial
      · refine ⟨?_, trivial⟩
        · refine sv_any rfl rfl fun ρ β W X cx => ?_
          exact dv_store (n := 1) rfl (cx.an 1) (cx.an 0) (by kernel_rfl) (by kernel_rfl) (by kernel_rfl) cx (cx.init 2 _ rfl) rfl (nle rfl) (by kernel_rfl) rfl rfl rfl (fun σ β' X' hs hb hx => hx)
      intro σ β X W8 hD hst8 fr hfr
      simp only [exq 3 ((dTn (hD 2 lq)))] at hst8
      clear hD; subst hfr; clear σ β X
      refine then_normal ?_
      have hp9 := hst8.pick [0, 1, 2] (by decide) rfl
      exact ⟨(rdF (pv n) j), true, by rw [if_pos (by omega)], (decide_eq_true (by omega)).symm, (by kernel_rfl), hp9⟩
    have hs7p : ¬ (0 ≤ (rdF (pv n) j)) := by simpa using hs7
    refine wp_cond_false (show Act.eval _ _ = .bool false from (congrArg Value.bool hs7)) (wp_skip (then_normal ?_))
    have hp10 := hst6.pick [0, 1, 2] (by decide) rfl
    exact ⟨j, false, by rw [if_neg (by omega)], (decide_eq_false (by omega)).symm, (by kernel_rfl), hp10⟩
  rintro a4 W4 ⟨sl0, hot, hsl0, hh0, hj_, hst4⟩
  obtain ⟨u4_, hu_⟩ : ∃ z, jv a4 = z := ⟨_, rfl⟩
  rw [hu_] at hj_; clear hu_; subst hj_
  obtain ⟨T, hT⟩ : ∃ T, chF (pv n) n j = T := ⟨_, rfl⟩
  rw [hT]
  rw [chF, ← hsl0, ← hh0] at hT
  have hrb := rdF_bd (pv n) j
  refine wp_seq (wp_block ?_)
  have hn11 := nilrowN hst4 78 8
  simp only [List.cons_append, List.nil_append] at hn11
  have hslr : -9223372036854775808 ≤ sl0 ∧ sl0 ≤ 9223372036854775807 := by rw [hsl0]; split <;> omega
  refine wp_loopN (fun mz az W => ∃ seen : List Int, ∃ m : Nat, ∃ pg : Int, ∃ sl : Int, ∃ FA : Option Addr, ∃ FC : Nat, ∃ ks : List FK, seen.length = m ∧ ks.length = m ∧ seen.Nodup ∧ (∀ x ∈ seen, 1 ≤ x ∧ x < ((23 : Nat) : Int) + 1) ∧ ks.map Prod.fst ++ chR (pv n) n hot (24 - m) seen pg sl = T ∧ (-9223372036854775808 ≤ sl ∧ sl ≤ 9223372036854775807) ∧ mz = 24 - m ∧ az = ⟨#[.iface tt (tv), .agg #[vi n, vi j], undef, vp B3_1, .slice FA m FC, .map (some M11_2), vp B6_3, .bool hot, u4_ 8, jv az 9, jv az 10, .map (some M11_2), .agg #[vi n, vi j], u4_ 13, u4_ 14, u4_ 15, u4_ 16, u4_ 17, u4_ 18, u4_ 19, jv az 20, jv az 21, jv az 22, jv az 23, jv az 24, jv az 25, jv az 26, jv az 27, jv az 28, jv az 29, jv az 30, jv az 31, jv az 32, jv az 33, jv az 34, jv az 35, jv az 36, jv az 37, jv az 38, jv az 39, jv az 40, jv az 41, jv az 42, jv az 43, jv az 44, jv az 45, jv az 46, jv az 47, jv az 48, jv az 49, jv az 50, jv az 51, jv az 52, jv az 53, jv az 54, jv az 55, jv az 56, jv az 57, jv az 58, jv az 59, jv az 60, jv az 61, jv az 62, jv az 63, undef], []⟩ ∧ St w [] [eB B3_1 24 #[vi n, vi j], eB B6_3 24 #[vi pg, vi sl], eMb Tryd.prog 3 4 M11_2 m (inS seen), eO 78 8 (.slice FA m FC) m (ks.flatMap (cellsF n))] W) (24 - 0) ?_ ?_
  · -- the loop begins
    have hp13 := hn11.pick [0, 2, 1, 3] (by decide) rfl
    exact ⟨[], 0, n, sl0, none, 0, [], rfl, rfl, List.nodup_nil, (fun x hx => by cases hx), hT, hslr, rfl, (by kernel_rfl), hp13⟩
  rintro n12 a12 W12 ⟨seen, m, pg, sl, FA, FC, ks, hsm, hkm, hsn, hsr, hch, hsl, rfl, hj_, hst12⟩
  obtain ⟨u12_, hu_⟩ : ∃ z, jv a12 = z := ⟨_, rfl⟩
  rw [hu_] at hj_; clear hu_; subst hj_
  have hm23 : m ≤ 23 := by rw [← hsm]; exact nodup_len 23 seen hsn hsr
  refine wp_seq (wp_seq (wp_region_Z [0, 1, 0, 4, 15, 31, 63, 63, 191, 511, 1023, 2047] [[], [1], [], [0], [], [], [], [], [1], [2]] [.k 20 (vp B6_3), .c 21 (vi pg), .k 22 (vp B3_1), .c 23 (vi n), .k 24 (.bool (pg == n)), .k 25 (.bool (pg == n)), .z 26 (pg == n) (.map (some M11_2)), .z 27 (pg == n) (.pointer (some ⟨B6_3, 1, none⟩)), .y 28 (pg == n) (vi sl), .y 29 (pg == n) (.bool ((inS seen) sl)), .z 30 (pg == n) (.bool (!((inS seen) sl))), tA 31 (pg == n) (!((inS seen) sl))] [0, 1, 2, 3] [1, 3, 8, 9] [(20, 0, 12, 32)] hst12 ?_ fun W14 hst14 => ?_))
  · refine ⟨?_, ?_, ?_, ?_, trivial⟩
    · exact xs4 rfl id fun cx => run_load1 rfl (by kernel_rfl) (cx.an 0) ((cx.bi 1 rfl).cell 0)
    · exact xs4 rfl id fun cx => run_load1 rfl (by kernel_rfl) (cx.an 2) ((cx.bi 0 rfl).cell 0)
    · exact m2 rfl (fun _ _ _ h => h) (fun cx => (cx.an 5)) fun cx hq => run_load1 rfl (by kernel_rfl) (mbv (cx.an 7) hq) ((cx.bi 1 rfl).cell 1)
    · exact m2 rfl (fun _ _ _ h => h) (fun cx => (cx.an 5)) fun cx hq => run_lookMb rfl (mbv (cx.an 6) hq) (mbv (cx.an 8) hq) (CtxV.mb cx (cx.init 2 _ rfl) rfl) (h0 := fun w => by rfl) (hx := by omega)
  refine then_normal ?_
  rcases Bool.eq_false_or_eq_true ((pg == n) && (!((inS seen) sl))) with hs15 | hs15
  · skip
    have hs15p := hs15
    simp only [zB] at hs15p
    obtain ⟨hs15p1, hs15p2⟩ := hs15p
    refine wp_cond_true (show Act.eval _ _ = .bool true from (congrArg Value.bool hs15)) (wp_skip (then_normal (wp_block (wp_seq ?_))))
    obtain rfl : n = pg := by omega
    refine wp_region_Y [0, 0, 3, 7, 15, 15, 0, 95, 255] [[], [1], [], [], [], [], [], [5]] [[], [], [4], [], [], [], [5], [6]] [[], [], [], [], [], [], [], [5]] [.k 33 (.iface tt (tv)), .c 34 (.agg #[vi n, vi sl]), .a 35, .a 32, .a 36, .c 37 (.bool ((atF (pv n) sl).isSome)), .a 9, .n, .k 10 (.bool ((atF (pv n) sl).isSome))] (fun ix σ β X => match ix with | 0 => True | 1 => True | 2 => σ 35 = .tuple #[.agg #[vi ((vD (atF (pv n) sl)).1), vi ((vD (atF (pv n) sl)).2.1), vi ((vD (atF (pv n) sl)).2.2.1), vi ((vD (atF (pv n) sl)).2.2.2.1), .bool ((vD (atF (pv n) sl)).2.2.2.2.1), .slice (sA (tg (tg (β 35) 0) 5)) ((vD (atF (pv n) sl)).2.2.2.2.2.length) (sC (tg (tg (β 35) 0) 5))], .bool ((atF (pv n) sl).isSome)] ∧ X 4 = eO 82 3 (.slice (sA (tg (tg (β 35) 0) 5)) ((vD (atF (pv n) sl)).2.2.2.2.2.length) (sC (tg (tg (β 35) 0) 5))) ((vD (atF (pv n) sl)).2.2.2.2.2.length) (flatR (vD (atF (pv n) sl)).2.2.2.2.2) | 3 => σ 32 = .tuple #[.agg #[vi ((vD (atF (pv n) sl)).1), vi ((vD (atF (pv n) sl)).2.1), vi ((vD (atF (pv n) sl)).2.2.1), vi ((vD (atF (pv n) sl)).2.2.2.1), .bool ((vD (atF (pv n) sl)).2.2.2.2.1), .slice (sA (tg (tg (β 35) 0) 5)) ((vD (atF (pv n) sl)).2.2.2.2.2.length) (sC (tg (tg (β 35) 0) 5))], .bool ((atF (pv n) sl).isSome)] | 4 => σ 36 = .agg #[vi ((vD (atF (pv n) sl)).1), vi ((vD (atF (pv n) sl)).2.1), vi ((vD (atF (pv n) sl)).2.2.1), vi ((vD (atF (pv n) sl)).2.2.2.1), .bool ((vD (atF (pv n) sl)).2.2.2.2.1), .slice (sA (tg (tg (β 35) 0) 5)) ((vD (atF (pv n) sl)).2.2.2.2.2.length) (sC (tg (tg (β 35) 0) 5))] | 5 => True | 6 => σ 9 = vp (pb (β 9)) ∧ X 5 = eB (pb (β 9)) 41 #[vi 0, vi 0, vi 0, vi 0, .bool false, .slice none 0 0] | 7 => X 6 = eB (pb (β 9)) 41 #[vi ((vD (atF (pv n) sl)).1), vi ((vD (atF (pv n) sl)).2.1), vi ((vD (atF (pv n) sl)).2.2.1), vi ((vD (atF (pv n) sl)).2.2.2.1), .bool ((vD (atF (pv n) sl)).2.2.2.2.1), .slice (sA (tg (tg (β 35) 0) 5)) ((vD (atF (pv n) sl)).2.2.2.2.2.length) (sC (tg (tg (β 35) 0) 5))] | _ => True) [0, 1, 2, 3, 4, 6] [1, 2, 3, 4, 5, 6, 7] [(9, 6, 3, 11), (21, 3, 1, 22), (0, 0, 3, 3), (0, 4, 2, 2)] hst14 ?_ ?_ ?_
    · exact fun ix _ _ _ _ _ _ hs hb hx h => match ix, h with
      | 2, h => by dsimp only at h ⊢; rw [← hs 35 rfl, ← hb 35 rfl, ← hx 4 rfl]; exact h
      | 3, h => by dsimp only at h ⊢; rw [← hs 32 rfl, ← hb 35 rfl]; exact h
      | 4, h => by dsimp only at h ⊢; rw [← hs 36 rfl, ← hb 35 rfl]; exact h
      | 6, h => by dsimp only at h ⊢; rw [← hs 9 rfl, ← hb 9 rfl, ← hx 5 rfl]; exact h
      | 7, h => by dsimp only at h ⊢; rw [← hb 9 rfl, ← hb 35 rfl, ← hx 6 rfl]; exact h
      | 0, _ | 1, _ | 5, _ | _ + 8, _ => trivial
    · refine ⟨?_, ?_, ?_, ?_, ?_, ?_, ?_, trivial⟩
      · exact xs4 rfl id fun cx => run_loadB (n := 2) rfl (by kernel_rfl) (by kernel_rfl) (cx.ou 6) (cx.bi 1 rfl) (nle rfl) rfl
      · refine sv_any rfl rfl fun ρ β W X cx => ?_
        refine DoesU.call (run_callF (args := #[.iface tt (tv), .agg #[vi n, vi sl]]) rfl cx.sees rfl (by kernel_rfl) (map2 (cx.an 0) (cx.an 1))) ?_
        refine (hget_any _ _ pv n sl _ (hS.ext cx.upd.to_ext) (hN.ext cx.upd.to_ext)).mono ?_
        rintro e W1 ⟨A4, c4, rfl, ho, hx⟩
        refine ⟨_, rfl, post_call [eO 82 3 (.slice A4 (vD (atF (pv n) sl)).2.2.2.2.2.length c4) (vD (atF (pv n) sl)).2.2.2.2.2.length (flatR (vD (atF (pv n) sl)).2.2.2.2.2)] rfl rfl hx (one_new (eO_new ho)) (List.pairwise_singleton _ _) (fun σ β' X' hs hb hv hN => ?_)⟩
        have hv1 := (hv 35 rfl).1; have hv2 := (hv 35 rfl).2
        exact ⟨hv1.trans (by rw [hv2]; rfl), (by rw [hv2]; exact (List.cons.inj hN).1)⟩
      · exact sv rfl rfl rfl rfl rfl _ (fun _ _ _ h => h) (fun β β' h => by rw [h 35 (by decide)]) fun ρ β W X cx => run_move' rfl (dTn (cx.an 2)).1
      · exact sv rfl rfl rfl rfl rfl _ (fun _ _ _ h => h) (fun β β' h => by rw [h 35 (by decide)]) fun ρ β W X cx => run_extract' rfl (dTn (cx.an 3)) rfl
      · exact xs4 rfl id fun cx => run_extract' rfl (dTn (cx.an 3)) rfl
      · refine sv_any rfl rfl fun ρ β W X cx => ?_
        exact dv_alloc (cs := #[vi 0, vi 0, vi 0, vi 0, .bool false, .slice none 0 0]) rfl (by kernel_rfl) rfl rfl (fun σ β' X' hs hb hv hx => ⟨hv, hx⟩)
      · refine sv_any rfl rfl fun ρ β W X cx => ?_
        exact dv_store (n := 6) rfl (dTn (cx.an 6)).1 (dTn (cx.an 4)) (by kernel_rfl) (by kernel_rfl) (by kernel_rfl) cx (dTn (cx.an 6)).2 rfl (nle rfl) (by kernel_rfl) rfl rfl rfl (fun σ β' X' hs hb hx => by rw [hb 9, hb 35]; exact hx)
    intro σ β X W16 hD hst16 fr hfr
    obtain ⟨A35_16, hu_A35_16⟩ : ∃ z, sA (tg (tg (β 35) 0) 5) = z := ⟨_, rfl⟩
    obtain ⟨c35_16, hu_c35_16⟩ : ∃ z, sC (tg (tg (β 35) 0) 5) = z := ⟨_, rfl⟩
    obtain ⟨B9_16, hu_B9_16⟩ : ∃ z, pb (β 9) = z := ⟨_, rfl⟩
    simp only [exq 4 ((dTn (hD 2 lq)).2), exq 6 ((dTn (hD 7 lq))), hu_A35_16, hu_c35_16, hu_B9_16] at hst16
    simp only [ed 35 ((dTn (hD 2 lq)).1), ed 32 ((dTn (hD 3 lq))), ed 36 ((dTn (hD 4 lq))), ed 9 ((dTn (hD 6 lq)).1), hu_A35_16, hu_c35_16, hu_B9_16] at hfr
    clear hD hu_A35_16 hu_c35_16 hu_B9_16; subst hfr; clear σ β X
    refine then_normal (wp_seq (wp_seq (wp_region_Z [0, 1, 3, 7, 15, 31, 63, 127, 255, 511, 1023, 2047, 4095, 8191, 16383] [[], [], [], [], [], [], [], [], [], [], [], [5]] [.k 38 (.bool ((atF (pv n) sl).isSome)), .k 39 (.bool (!((atF (pv n) sl).isSome))), .k 40 (.bool (!((atF (pv n) sl).isSome))), .z 41 (!(!((atF (pv n) sl).isSome))) (.bool hot), .z 42 (!(!((atF (pv n) sl).isSome))) (.bool hot), .z 43 ((!(!((atF (pv n) sl).isSome))) && (!hot)) (.slice FA m FC), .z 44 ((!(!((atF (pv n) sl).isSome))) && (!hot)) (vi ((m : Int))), .z 45 ((!(!((atF (pv n) sl).isSome))) && (!hot)) (.bool (decide (0 < (m : Int)))), .y 46 (!(!((atF (pv n) sl).isSome))) (.bool (hot || (decide (0 < (m : Int))))), .z 47 (!(!((atF (pv n) sl).isSome))) (.bool (hot || (decide (0 < (m : Int))))), .z 48 ((!(!((atF (pv n) sl).isSome))) && (hot || (decide (0 < (m : Int))))) (.pointer (some ⟨B9_16, 4, none⟩)), .y 49 ((!(!((atF (pv n) sl).isSome))) && (hot || (decide (0 < (m : Int))))) (.bool ((vD (atF (pv n) sl)).2.2.2.2.1)), .z 50 ((!(!((atF (pv n) sl).isSome))) && (hot || (decide (0 < (m : Int))))) (.bool (!((vD (atF (pv n) sl)).2.2.2.2.1))), .y 51 (!(!((atF (pv n) sl).isSome))) (.bool ((hot || (decide (0 < (m : Int)))) && (!((vD (atF (pv n) sl)).2.2.2.2.1)))), tO 52 (!((atF (pv n) sl).isSome)) ((hot || (decide (0 < (m : Int)))) && (!((vD (atF (pv n) sl)).2.2.2.2.1)))] [0, 1, 2, 3, 4, 5] [8, 11, 13] [(38, 0, 15, 53)] hst16 ?_ fun W17 hst17 => ?_)))
    · refine ⟨?_, ?_, ?_, trivial⟩
      · exact m2 rfl (fun _ _ _ h => h) (fun cx => (cx.an 2)) fun cx hq => run_pick_or rfl (mbv (cx.an 4) hq) (cx.co _) (cx.an 7) (fun e_ => by rw [hq, e_]; rfl)
      · exact m0 rfl (fun _ _ _ h => h) (fun cx => (cx.an 9)) fun cx hq => run_load1 rfl (by kernel_rfl) (mbv (cx.an 10) hq) ((cx.bi 5 rfl).cell 4)
      · exact m2 rfl (fun _ _ _ h => h) (fun cx => (cx.an 2)) fun cx hq => run_pick_and rfl (mbv (cx.an 9) hq) (cx.an 12) (fun e_ => by rw [hq, e_]; rfl) (cx.co _)
    refine then_normal ?_
    rcases Bool.eq_false_or_eq_true ((!((atF (pv n) sl).isSome)) || ((hot || (decide (0 < (m : Int)))) && (!((vD (atF (pv n) sl)).2.2.2.2.1)))) with hs18 | hs18
    · skip
      have hs18p := hs18
      simp only [zB] at hs18p
      refine wp_cond_true (show Act.eval _ _ = .bool true from (congrArg Value.bool hs18)) (wp_exit (then_exit (blk_ne (by decide) (then_exit (blk_eq (then_normal (wp_seq (wp_region_P [0, 1] [.k 64 (.slice FA m FC), .k 4 (.slice FA m FC)] [(4, 1, 1, 5), (59, 0, 1, 60)] hst17 fun W19 hst19 => ?_))))))))
      refine then_normal (wp_ret ?_)
      refine bodyPost_ret (v := .slice FA m FC) (results_tmp Tryd.results25 rfl) rfl ?_
      rw [chR_stop (by rw [hsm]; exact hs18), List.append_nil] at hch
      have hlm : m = T.length := by rw [← hch, List.length_map, hkm]
      have ho_ := hst19.own' 3 rfl
      unfold LPost
      rw [← hlm]
      exact ⟨_, _, ks, hch, rfl, ho_, hst19.ext⟩
    have hs18p := hs18
    simp only [zB] at hs18p
    obtain ⟨hs18p1, hs18p2⟩ := hs18p
    refine wp_cond_false (show Act.eval _ _ = .bool false from (congrArg Value.bool hs18)) (wp_skip (then_normal (wp_seq ?_)))
    have hso : (atF (pv n) sl).isSome = true := by have h_ := hs18; cases h9_ : (atF (pv n) sl).isSome with | true => rfl | false => rw [h9_] at h_; simp at h_
    have hsb := atF_some hwf hso
    have hnb := atF_next hwf sl
    obtain ⟨S, rfl⟩ : ∃ S : Nat, sl = (S : Int) := ⟨sl.toNat, by omega⟩
    have hns : (S : Int) ∉ seen := by intro h_; have h2_ := inS_mem.2 h_; have h3_ := hs15; rw [h2_] at h3_; simp at h3_
    have hsr2 : ∀ x ∈ (S : Int) :: seen, 1 ≤ x ∧ x < ((23 : Nat) : Int) + 1 := fun x hx => by
      rcases List.mem_cons.1 hx with rfl | h_
      · omega
      · exact hsr x h_
    have hmm : m + 1 ≤ 23 := by rw [← hsm]; exact nodup_len 23 ((S : Int) :: seen) (List.nodup_cons.2 ⟨hns, hsn⟩) hsr2
    refine wp_region_Y [0, 0, 2, 7] [[], [], [1], [2]] [[], [], [], [6]] [[], [], [], [2]] [.k 53 (.map (some M11_2)), .k 54 (.pointer (some ⟨B6_3, 1, none⟩)), .c 55 (vi (S : Int)), .n] (fun ix σ β X => match ix with | 0 => True | 1 => True | 2 => True | 3 => X 6 = eMb Tryd.prog 3 4 M11_2 (m + 1) (inS ((S : Int) :: seen)) | _ => True) [0, 1, 3, 4, 5, 6] [2, 3] [(53, 0, 3, 56)] hst17 ?_ ?_ ?_
    · exact fun ix _ _ _ _ _ _ hs hb hx h => match ix, h with
      | 3, h => by dsimp only at h ⊢; rw [← hx 6 rfl]; exact h
      | 0, _ | 1, _ | 2, _ | _ + 4, _ => trivial
    · refine ⟨?_, ?_, trivial⟩
      · exact xs4 rfl id fun cx => run_load1 rfl (by kernel_rfl) (cx.an 1) ((cx.bi 1 rfl).cell 1)
      · refine sv_any rfl rfl fun ρ β W X cx => ?_
        exact dv_setMb (.inl rfl) (cx.an 0) (cx.an 2) (cx.co _) cx (cx.init 2 _ rfl) rfl (by omega) (by omega) rfl rfl rfl (fun σ β' X' hs hb hx => hx)
    intro σ β X W20 hD hst20 fr hfr
    simp only [exq 6 ((dTn (hD 3 lq)))] at hst20
    clear hD; subst hfr; clear σ β X
    refine then_normal (wp_seq (wp_region_Y [0, 0, 0, 6, 14, 31, 63] [[], [1], [4], [], [], [6, 2]] [[], [], [], [], [6], [7]] [[], [], [], [], [], [2]] [.k 56 (.slice FA m FC), .c 57 (.agg #[vi n, vi (S : Int)]), .c 58 (.agg #[vi ((vD (atF (pv n) (S : Int))).1), vi ((vD (atF (pv n) (S : Int))).2.1), vi ((vD (atF (pv n) (S : Int))).2.2.1), vi ((vD (atF (pv n) (S : Int))).2.2.2.1), .bool ((vD (atF (pv n) (S : Int))).2.2.2.2.1), .slice A35_16 ((vD (atF (pv n) (S : Int))).2.2.2.2.2.length) c35_16]), .k 59 (.agg #[vi n, vi (S : Int), vi ((vD (atF (pv n) (S : Int))).1), vi ((vD (atF (pv n) (S : Int))).2.1), vi ((vD (atF (pv n) (S : Int))).2.2.1), vi ((vD (atF (pv n) (S : Int))).2.2.2.1), .bool ((vD (atF (pv n) (S : Int))).2.2.2.2.1), .slice A35_16 ((vD (atF (pv n) (S : Int))).2.2.2.2.2.length) c35_16]), .a 60, .a 61, .a 4] (fun ix σ β X => match ix with | 0 => True | 1 => True | 2 => True | 3 => True | 4 => σ 60 = .slice ((some ⟨(pb' (β 60)), 0, none⟩)) 1 1 ∧ X 6 = eO 78 8 (.slice ((some ⟨(pb' (β 60)), 0, none⟩)) 1 1) 1 (cellsF n ((S, vD (atF (pv n) (S : Int))), A35_16, c35_16)) | 5 => σ 61 = .slice (sA (β 61)) (m + 1) (sC (β 61)) ∧ X 7 = eO 78 8 (.slice (sA (β 61)) (m + 1) (sC (β 61))) (m + 1) ((ks ++ [((S, vD (atF (pv n) (S : Int))), A35_16, c35_16)]).flatMap (cellsF n)) | 6 => σ 4 = .slice (sA (β 61)) (m + 1) (sC (β 61)) | _ => True) [0, 1, 3, 4, 5, 6, 7] [1, 2, 4, 5, 6] [(4, 6, 1, 5), (51, 0, 6, 57)] hst20 ?_ ?_ ?_))
    · exact fun ix _ _ _ _ _ _ hs hb hx h => match ix, h with
      | 4, h => by dsimp only at h ⊢; rw [← hs 60 rfl, ← hb 60 rfl, ← hx 6 rfl]; exact h
      | 5, h => by dsimp only at h ⊢; rw [← hs 61 rfl, ← hb 61 rfl, ← hx 7 rfl]; exact h
      | 6, h => by dsimp only at h ⊢; rw [← hs 4 rfl, ← hb 61 rfl]; exact h
      | 0, _ | 1, _ | 2, _ | 3, _ | _ + 7, _ => trivial
    · refine ⟨?_, ?_, ?_, ?_, ?_, trivial⟩
      · exact xs4 rfl id fun cx => run_loadB (n := 2) rfl (by kernel_rfl) (by kernel_rfl) (cx.ou 6) (cx.bi 1 rfl) (nle rfl) rfl
      · exact xs4 rfl id fun cx => run_loadB (n := 6) rfl (by kernel_rfl) (by kernel_rfl) (cx.ou 9) (cx.bi 4 rfl) (nle rfl) rfl
      · refine sv_any rfl rfl fun ρ β W X cx => ?_
        have fF59 : ρ (.tmp 59) = .agg #[vi n, vi (S : Int), vi ((vD (atF (pv n) (S : Int))).1), vi ((vD (atF (pv n) (S : Int))).2.1), vi ((vD (atF (pv n) (S : Int))).2.2.1), vi ((vD (atF (pv n) (S : Int))).2.2.2.1), .bool ((vD (atF (pv n) (S : Int))).2.2.2.2.1), .slice A35_16 ((vD (atF (pv n) (S : Int))).2.2.2.2.2.length) c35_16] := (cx.an 3)
        exact dv_litN (e := 78) (sz := 8) (xs := [vi n, vi (S : Int), vi ((vD (atF (pv n) (S : Int))).1), vi ((vD (atF (pv n) (S : Int))).2.1), vi ((vD (atF (pv n) (S : Int))).2.2.1), vi ((vD (atF (pv n) (S : Int))).2.2.2.1), .bool ((vD (atF (pv n) (S : Int))).2.2.2.2.1), .slice A35_16 ((vD (atF (pv n) (S : Int))).2.2.2.2.2.length) c35_16]) rfl (by simp [go_sem, fF59]) rfl (by decide) rfl rfl (fun σ β' X' hs hb hv hx => ⟨hv, hx⟩)
      · refine sv_any rfl rfl fun ρ β W X cx => ?_
        obtain ⟨i0, hi0, hz0, hz1, hz2⟩ := info_parts Tryd.infoFnd
        refine dv_appendN (n := m) (m := 1) (nm := m + 1) (sz := 8) (xs := ks.flatMap (cellsF n)) (news := cellsF n ((S, vD (atF (pv n) (S : Int))), A35_16, c35_16)) (xs' := (ks ++ [((S, vD (atF (pv n) (S : Int))), A35_16, c35_16)]).flatMap (cellsF n)) rfl (ty := 75) rfl (by kernel_rfl) hi0 hz0 hz1 hz2 rfl (by decide) (cx.an 0) cx (cx.init 2 _ rfl) rfl (dTn (cx.an 4)).1 (by rfl) (At.of_ownN (cx.row (dTn (cx.an 4)).2 rfl)) (by simp [cellsF, Value.oneCell']) (by simp only [maxLen]; omega) (by omega) rfl rfl rfl (by omega) (found_snoc _ _ _) (fun σ β' X' hs hb hv hx => ?_)
        exact ⟨hv, hx⟩
      · exact sv rfl rfl rfl rfl rfl _ (fun _ _ _ h => h) (fun β β' h => by rw [h 61 (by decide)]) fun ρ β W X cx => run_assign' rfl (dTn (cx.an 5)).1
    intro σ β X W21 hD hst21 fr hfr
    obtain ⟨B60_21, hu_B60_21⟩ : ∃ z, pb' (β 60) = z := ⟨_, rfl⟩
    obtain ⟨A61_21, hu_A61_21⟩ : ∃ z, sA (β 61) = z := ⟨_, rfl⟩
    obtain ⟨c61_21, hu_c61_21⟩ : ∃ z, sC (β 61) = z := ⟨_, rfl⟩
    simp only [exq 6 ((dTn (hD 4 lq)).2), exq 7 ((dTn (hD 5 lq)).2), hu_B60_21, hu_A61_21, hu_c61_21] at hst21
    simp only [ed 60 ((dTn (hD 4 lq)).1), ed 61 ((dTn (hD 5 lq)).1), ed 4 ((dTn (hD 6 lq))), hu_B60_21, hu_A61_21, hu_c61_21] at hfr
    clear hD hu_B60_21 hu_A61_21 hu_c61_21; subst hfr; clear σ β X
    refine then_normal (wp_region_Y [0, 1, 3] [[], [3], [1]] [[], [], [7]] [[], [], [1]] [.k 62 (.pointer (some ⟨B9_16, 2, none⟩)), .c 63 (.agg #[vi ((vD (atF (pv n) (S : Int))).2.2.1), vi ((vD (atF (pv n) (S : Int))).2.2.2.1)]), .n] (fun ix σ β X => match ix with | 0 => True | 1 => True | 2 => X 7 = eB B6_3 24 #[vi ((vD (atF (pv n) (S : Int))).2.2.1), vi ((vD (atF (pv n) (S : Int))).2.2.2.1)] | _ => True) [0, 2, 3, 4, 5, 6, 7] [1, 2] [(62, 0, 2, 64)] hst21 ?_ ?_ ?_)
    · exact fun ix _ _ _ _ _ _ hs hb hx h => match ix, h with
      | 2, h => by dsimp only at h ⊢; rw [← hx 7 rfl]; exact h
      | 0, _ | 1, _ | _ + 3, _ => trivial
    · refine ⟨?_, ?_, trivial⟩
      · exact xs4 rfl id fun cx => run_loadB (n := 2) rfl (by kernel_rfl) (by kernel_rfl) (cx.an 0) (cx.bi 3 rfl) (nle rfl) rfl
      · refine sv_any rfl rfl fun ρ β W X cx => ?_
        exact dv_store (n := 2) rfl (cx.ou 6) (cx.an 1) (by kernel_rfl) (by kernel_rfl) (by kernel_rfl) cx (cx.init 1 _ rfl) rfl (nle rfl) (by kernel_rfl) rfl rfl rfl (fun σ β' X' hs hb hx => hx)
    intro σ β X W22 hD hst22 fr hfr
    simp only [exq 7 ((dTn (hD 2 lq)))] at hst22
    clear hD; subst hfr; clear σ β X
    refine blk_normal (then_normal ?_)
    refine ⟨24 - ((m + 1)), by omega, ?_⟩
    have hp23 := hst22.pick [0, 6, 3, 5] (by decide) rfl
    exact ⟨((S : Int) :: seen), (m + 1), (vD (atF (pv n) (S : Int))).2.2.1, (vD (atF (pv n) (S : Int))).2.2.2.1, A61_21, c61_21, (ks ++ [((S, vD (atF (pv n) (S : Int))), A35_16, c35_16)]), by rw [List.length_cons, hsm], by rw [List.length_append, hkm]; rfl, List.nodup_cons.2 ⟨hns, hsn⟩, hsr2, by rw [← hch, chR_go (by omega) hs15 (by rw [hsm]; exact hs18), List.map_append, List.append_assoc, show 24 - m - 1 = 24 - (m + 1) by omega]; rfl, ⟨by omega, by omega⟩, rfl, (by kernel_rfl), hp23⟩
  have hs15p := hs15
  simp only [zB] at hs15p
  refine wp_cond_false (show Act.eval _ _ = .bool false from (congrArg Value.bool hs15)) (wp_exit (then_exit (then_exit (blk_eq (then_normal (wp_seq (wp_region_P [0, 1] [.k 64 (.slice FA m FC), .k 4 (.slice FA m FC)] [(4, 1, 1, 5), (59, 0, 1, 60)] hst14 fun W24 hst24 => ?_)))))))
  refine then_normal (wp_ret ?_)
  refine bodyPost_ret (v := .slice FA m FC) (results_tmp Tryd.results25 rfl) rfl ?_
  rw [chR_no hs15, List.append_nil] at hch
  have hlm : m = T.length := by rw [← hch, List.length_map, hkm]
  have ho_ := hst24.own' 3 rfl
  unfold LPost
  rw [← hlm]
  exact ⟨_, _, ks, hch, rfl, ho_, hst24.ext⟩
end
end Go.Proofs.YtjnplglnnamfdaaDoor
namespace Go.Proofs.YtjnplglnnamfdaaDoor
section
open Go.RowKit
set_option linter.unusedVariables false
set_option linter.unusedSimpArgs false
theorem rput_ok {k l : Int} {A : Option Addr} {c : Nat} {ss : List ByteArray} {slot : Int} {s : ByteArray} {w : World} (hA : At w A (ss.map Value.string)) (hs : Small ss) (hc : ss.length ≤ c) (hss : s.size ≤ 400) (h : putErr k l ss slot s = 0) :
    Calls Tryd.prog 55 #[.agg #[.int .i64 k, .int .i64 l, .slice A ss.length c], .int .i64 slot, .string s] w (GotPost k l (plainL (withL ss slot.toNat s)) 0 w) := by
  have h2 := rput_any k l A _ c ss slot s w rfl hA hs hc (by omega)
  rwa [RPutPost, if_pos h] at h2
theorem right_small' {k l : Int} {ss : List ByteArray} (h : rightB k l ss = true) : Small ss := by
  obtain ⟨_, _, ⟨h1, h2⟩, _⟩ := right_parts h
  exact ⟨by omega, fun s hs => by have := h2 s hs; omega⟩
theorem Tryd.infoPage : (Tryd.prog.info? 86).map (fun i => (i.zero, i.size, i.bytes)) = some (some (.agg #[.int .i64 0, .int .i64 0, .slice none 0 0]), 3, 40) := by kernel_rfl
end
end Go.Proofs.YtjnplglnnamfdaaDoor
namespace Go.Proofs.YtjnplglnnamfdaaDoor
section
open Go.RowKit
set_option linter.unusedVariables false
set_option linter.unusedSimpArgs false
def putL (xs : List Value) (off : Nat) : List Value → List Value
  | [] => xs
  | v :: l => putL (xs.set off v) (off + 1) l
theorem putL_mid : ∀ (vs A B C : List Value), B.length = vs.length → putL (A ++ (B ++ C)) A.length vs = A ++ (vs ++ C)
  | [], A, B, C, h => by
    obtain rfl : B = [] := List.eq_nil_of_length_eq_zero h
    rfl
  | v :: vs, A, [], C, h => by simp at h
  | v :: vs, A, b :: B, C, h => by
    rw [putL]
    have e : (A ++ (b :: B ++ C)).set A.length v = (A ++ [v]) ++ (B ++ C) := by simp
    have e2 : A.length + 1 = (A ++ [v]).length := by simp
    rw [e, e2, putL_mid vs (A ++ [v]) B C (by simpa using h)]
    simp
theorem putL_flat {T : Type} {f : T → List Value} {sz : Nat} (hf : ∀ t, (f t).length = sz) {ts : List T} {m : Nat} (h : m < ts.length) (t : T) : putL (ts.flatMap f) (m * sz) (f t) = (ts.set m t).flatMap f := by
  have hl : ∀ l : List T, (l.flatMap f).length = l.length * sz := fun l => by
    induction l with
    | nil => simp
    | cons a l ih => rw [List.flatMap_cons, List.length_append, ih, hf, List.length_cons, Nat.add_mul]; omega
  have e : ts = ts.take m ++ (ts[m] :: ts.drop (m + 1)) := by rw [← List.drop_eq_getElem_cons h, List.take_append_drop]
  have e2 : ts.set m t = ts.take m ++ (t :: ts.drop (m + 1)) := by rw [List.set_eq_take_append_cons_drop, if_pos h]
  have e3 : m * sz = ((ts.take m).flatMap f).length := by rw [hl, List.length_take, Nat.min_eq_left (by omega)]
  have e4 : ts.flatMap f = (ts.take m).flatMap f ++ (f ts[m] ++ (ts.drop (m + 1)).flatMap f) := by
    conv => lhs; rw [e]
    rw [List.flatMap_append, List.flatMap_cons]
  rw [e2, e4, List.flatMap_append, List.flatMap_cons, e3, putL_mid _ _ _ _ (by rw [hf, hf])]
section
variable {P : Program} {ops : Array Oper} {L : List Nat} {a0 : Act} {w0 : World} {bor : List Nat} {X0 : List Ent} {us cr kl : List (List Nat)}
  {D : Nat → (Tmp → Value) → (Tmp → Value) → (Nat → Ent) → Prop} {i : Nat} {o : Oper} {ρ : Operand → Value} {β : Tmp → Value} {W : World} {X : Nat → Ent}
theorem run_storeRowCells {g e sz n c : Nat} : ∀ (vs : List Value) (m i : Nat) (xs : List Value) (W : World), W.ownsRow 0 e sz (.slice (some ⟨g, 0, none⟩) n c) n xs → m + i + vs.length ≤ n * sz → (∀ v ∈ vs, v.oneCell' = true) →
    ∃ W', (storeCells ⟨g, m, none⟩ vs i).run P W = .ok () W' ∧ Upd [g] W W' ∧ W'.ownsRow 0 e sz (.slice (some ⟨g, 0, none⟩) n c) n (putL xs (m + i) vs) := by
  intro vs
  induction vs with
  | nil => intro m i xs W hb _ _; exact ⟨W, rfl, Upd.refl _ _, hb⟩
  | cons v vs ih =>
    intro m i xs W hown hle h1
    simp only [List.length_cons] at hle
    have hlen : xs.length = n * sz := hown.1
    have hcell : W.cell? ⟨g, m + i, none⟩ = some (xs[m + i]'(by omega)) := by
      rw [hown.cellAt (m + i) (by omega)]
      exact List.getElem?_eq_getElem (by omega)
    have hfz := hown.frozenAt (m + i)
    have hst := (hown.stored (m + i) v).1
    obtain ⟨W', h2, h3, h4⟩ := ih m (i + 1) (xs.set (m + i) v) (W.setCell ⟨g, m + i, none⟩ v) hst (by omega) (fun x hx => h1 x (by simp [hx]))
    refine ⟨W', ?_, ((Upd.refl [g] W).set (.inl (by simp)) v).trans h3, h4⟩
    unfold storeCells
    have hv := h1 v (by simp)
    have hs1 : (store ((⟨g, m, none⟩ : Addr).add i) v).run P W = .ok () (W.setCell ⟨g, m + i, none⟩ v) := by
      rw [Addr.add_lit]
      unfold store
      cases v <;> first | (simp [Value.oneCell'] at hv; done) | (simp [Sem.run, hcell, hfz])
    simp only [Sem.run_bind, hs1, Result.andThen_ok, h2]
theorem dv_storeElt {t e sz k : Nat} {x y : Operand} {A : Option Addr} {n c m q q' : Nat} {v : Value} {xs : List Value} (h : o.op = .store t x y) (hx : ρ x = .pointer (some ((ad A).add m))) (hy : ρ y = v) (hz : szP P t = some k) (hn : v.cells.size = k)
    (h1 : v.cells.toList.all Value.oneCell' = true) (cx : CtxV ops L a0 w0 bor X0 us D i ρ β W X) (hX : X q = eO e sz (.slice A n c) n xs) (hu : (atV us i).contains q = true) (hm : m + k ≤ n * sz) (hk0 : 0 < k) (hd : o.dst = none) {xs' : List Value} (hxs : putL xs m v.cells.toList = xs')
    (hc : atV cr i = [q']) (hk : atV kl i = [q]) (hD : ∀ (σ β' : Tmp → Value) (X' : Nat → Ent), (∀ t, σ t = ρ (.tmp t)) → (∀ t, β' t = β t) → X' q' = eO e sz (.slice A n c) n xs' → D i σ β' X') : DoesU P o ρ W (PostV cr kl D i o.dst ρ β W X) := by
  subst hxs
  have hok := cx.ok q hu
  rw [hX] at hok
  have hown : W.ownsRow 0 e sz (.slice A n c) n xs := hok.holds
  obtain ⟨g, rfl⟩ : ∃ g, A = some ⟨g, 0, none⟩ := by
    rcases hown.2 with ⟨hv, hm0⟩ | ⟨g, cap, cur, hv, _⟩
    · subst hm0; rw [Nat.zero_mul] at hm; omega
    · injection hv with h1 h2 h3; exact ⟨g, h1⟩
  have hadd : (ad (some ⟨g, 0, none⟩)).add m = ⟨g, m, none⟩ := by rw [ad, Option.getD_some, Addr.add_lit, Nat.zero_add]
  obtain ⟨W', h2, h3, h4⟩ := run_storeRowCells (P := P) v.cells.toList m 0 xs W hown (by simp [hn]; exact hm) (fun u hu => List.all_eq_true.1 h1 u hu)
  have hrun : (execOp ρ o).run P W = .ok .skip W' := by
    unfold execOp; rw [h]
    simp only [hx, hy, hadd, Instr.storeAt, Instr.sureAddr, storeVar, Sem.run_bind, Sem.run_pure, Result.andThen_ok, run_size hz, hn, ne_eq, not_true_eq_false, if_false]
    rw [h2]
    rfl
  rw [Nat.add_zero] at h4
  refine DoesU.skip hrun ⟨[eO e sz (.slice (some ⟨g, 0, none⟩) n c) n (putL xs m v.cells.toList)], by rw [hc]; rfl, ⟨?_, fun e' he => ?_, List.pairwise_singleton _ _⟩, fun σ β' X' hs hv hb' hbv hx' hN => hD σ β' X' (fun t => hs t (by rw [hd]; simp)) (fun t => hb' t (by rw [hd]; simp)) ?_⟩
  · rw [hk]
    simp only [List.flatMap_cons, List.flatMap_nil, List.append_nil, hX]
    exact h3.mono (fun k _ hk' => by simp at hk'; subst hk'; simp [eO, Value.ownBlock])
  · rw [List.mem_singleton] at he
    subst he
    refine ⟨h4, eO_loc _ _ _ _ _, fun k hk' => ?_⟩
    have hkg : k = g := by simpa [eO, Value.ownBlock] using hk'
    subst hkg
    refine ⟨.inl ?_, own0_block h4 k (by simp [Value.ownBlock])⟩
    rw [hk]
    simp [hX, eO, Value.ownBlock]
  · rw [hc] at hN
    exact (List.cons.inj hN).1
end
end
end Go.Proofs.YtjnplglnnamfdaaDoor
namespace Go.Proofs.YtjnplglnnamfdaaDoor
section
open Go.RowKit
set_option linter.unusedVariables false
set_option linter.unusedSimpArgs false
def GotI (k l : Int) (its : List Itm) (w : World) (e : Ending) (w' : World) : Prop := ∃ A c, e = .returned (.agg #[.int .i64 k, .int .i64 l, .slice A its.length c, .int .i64 0]) ∧
  w'.ownsRow w.heap.size 9 1 (.slice A its.length c) its.length (strs its) ∧ Ext w w'
theorem rput_i {k l : Int} {A : Option Addr} {c : Nat} {its : List Itm} {slot : Int} {i : Itm} {w : World} (hA : At w A (strs its)) (hr : rightB k l (fstI its) = true) (hc : its.length ≤ c) (hss : i.1.size ≤ 400) (h : putErr k l (fstI its) slot i.1 = 0) :
    Calls Tryd.prog 55 #[.agg #[.int .i64 k, .int .i64 l, .slice A its.length c], .int .i64 slot, .string i.1] w (GotI k l (putI its slot.toNat i) w) := by
  rw [strs_map] at hA
  have h2 := rput_ok (c := c) hA (right_small' hr) (by rw [List.length_map]; exact hc) hss h
  rw [List.length_map] at h2
  refine h2.mono fun e w' hp => ?_
  obtain ⟨A', c', he, ho, hx⟩ := hp
  have e1 : plainL (withL (its.map Prod.fst) slot.toNat i.1) = (putI its slot.toNat i).map Prod.fst := (putI_fst its slot.toNat i).symm
  rw [e1, List.length_map] at he ho
  exact ⟨A', c', he, by rw [strs_map]; exact ho, hx⟩
theorem rright_i {k l : Int} {A : Option Addr} {c : Nat} {its : List Itm} {w : World} (hA : At w A (strs its)) (hr : rightB k l (fstI its) = true) (hc : its.length ≤ c) :
    Calls Tryd.prog 68 #[.agg #[.int .i64 k, .int .i64 l, .slice A its.length c]] w (Ret (.bool true) w) := by
  rw [strs_map] at hA
  have h2 := rright_any k l A its.length c (fstI its) w (fstI_len its).symm hA (right_small' hr) hc
  rw [hr] at h2
  exact h2
/-- the pages that Do leaves: of the old ones and of new ones Qs -/
def eDo (Ps : List PgD) (H : List PgI) (n : Nat) (A : Option Addr) (fp : List Nat) : Ent := ⟨fp, fun W => ∃ (c : Nat) (Cs Qs : List PgD), Cs.map absP = H ∧ (∀ p ∈ Cs, p ∈ Ps ∨ p ∈ Qs) ∧ fp = (eM (Qs.map entP ++ [eO 86 3 (.slice A n c) n (Cs.flatMap pgC)])).fp ∧ (eM (Qs.map entP ++ [eO 86 3 (.slice A n c) n (Cs.flatMap pgC)])).holds W⟩
theorem eDo_loc (Ps : List PgD) (H : List PgI) (n : Nat) (A : Option Addr) (fp : List Nat) : (eDo Ps H n A fp).loc := fun W W' hk h => by
  obtain ⟨c, Cs, Qs, h1, h2, h3, h4⟩ := h
  exact ⟨c, Cs, Qs, h1, h2, h3, eM_loc _ W W' (fun k hk' => hk k (by rw [eDo, h3]; exact hk')) h4⟩
theorem eDo_self {e : Ent} {Ps : List PgD} {H : List PgI} {n : Nat} {A : Option Addr} {fp : List Nat} (h : e = eDo Ps H n A fp) : e = eDo Ps H n A e.fp := by subst h; rfl
theorem ePs_at {Qs : List PgD} {W : World} (h : (ePs Qs).holds W) : ∀ p ∈ Qs, At W p.A (strs p.its) ∧ p.its.length ≤ p.c := fun p hp => by
  have h5 := (h (entP p) (List.mem_map.2 ⟨_, hp, rfl⟩)).1
  exact ⟨At.of_own h5, eown_cap h5⟩
theorem eDo_at {Ps : List PgD} {H : List PgI} {n : Nat} {A A0 : Option Addr} {fp : List Nat} {W : World} (h : (eDo Ps H n A fp).holds W) (hP : PgsAt W A0 Ps) (hH : okH H) (hl : H.length ≤ 1000) : ∃ Ps', Ps'.map absP = H ∧ PgsAt W A Ps' := by
  obtain ⟨c, Cs, Qs, h1, h2, h3, h4⟩ := h
  refine ⟨Cs, h1, ?_, by rw [← h1, List.length_map] at hl; exact hl, fun p hp => ?_⟩
  · have h5 := (h4 _ (List.mem_append_right _ (List.mem_singleton.2 rfl))).1
    exact At.of_ownN h5
  · rcases h2 p hp with h6 | h6
    · exact hP.its p h6
    · have h7 := ePs_at (W := W) (Qs := Qs) (fun e he => h4 e (List.mem_append_left _ he)) p h6
      have h8 : okP (absP p) := hH _ (by rw [← h1]; exact List.mem_map.2 ⟨_, hp, rfl⟩)
      exact ⟨h7.1, h8.its, h7.2, h8.2⟩
def DoPost (Ps : List PgD) (H : List PgI) (n : Nat) (w : World) (e : Ending) (w' : World) : Prop := ∃ A c fp, e = .returned (.tuple #[.agg #[.slice A n c], .bool true]) ∧ St w [] [eDo Ps H n A fp] w'
theorem St.done {w0 W : World} {Ps Cs Qs : List PgD} {H : List PgI} {A : Option Addr} {c n : Nat} (h1 : Cs.map absP = H) (h2 : ∀ p ∈ Cs, p ∈ Ps ∨ p ∈ Qs) (h : St w0 [] [ePs Qs, eO 86 3 (.slice A n c) n (Cs.flatMap pgC)] W) : DoPost Ps H n w0 (.returned (.tuple #[.agg #[.slice A n c], .bool true])) W := by
  have h3 := St.merge (L := []) h
  exact ⟨A, c, _, rfl, St.repl (L1 := []) (L2 := []) h3 rfl (fun hh => ⟨c, Cs, Qs, h1, h2, rfl, hh⟩) (eDo_loc _ _ _ _ _)⟩
theorem mem_set_new {Ps Cs Qs : List PgD} (hC : ∀ p ∈ Cs, p ∈ Ps ∨ p ∈ Qs) (n : Nat) (q : PgD) : ∀ p ∈ Cs.set n q, p ∈ Ps ∨ p ∈ Qs ++ [q] := fun p hp => by
  rcases List.mem_or_eq_of_mem_set hp with h | rfl
  · exact (hC p h).imp id (List.mem_append_left _)
  · exact .inr (by simp)
theorem map_set' (Cs : List PgD) (n : Nat) (q : PgD) : (Cs.set n q).map absP = (Cs.map absP).set n (absP q) := List.map_set
set_option maxRecDepth 100000 in
set_option maxHeartbeats 2000000 in
theorem rdo3_kind (k l : Int) (A : Option Addr) (c : Nat) (its : List Itm) (pg lsn : Int) (w : World) (hA : At w A (strs its)) (hr : rightB k l (fstI its) = true) (hc : its.length ≤ c) (hl : 0 ≤ lsn ∧ lsn ≤ 2147483647) :
    Calls Tryd.prog 34 #[.agg #[.int .i64 k, .int .i64 l, .slice A its.length c], .agg #[.int .i64 pg, .int .i64 (-1), .string ((⟨#[1]⟩ : ByteArray))], .int .i64 lsn] w (GotI 1 lsn [] w) := by
  go_enter Tryd.func34, Tryd.ntmps34
  have hst0 := St.start w
  refine wp_seq (wp_region_Y [0, 0, 0] [] [[0], [1], [2]] [] [.a 3, .a 4, .a 6] (fun ix σ β X => match ix with | 0 => σ 3 = vp (pb (β 3)) ∧ X 0 = eB (pb (β 3)) 86 #[vi k, vi l, .slice A its.length c] | 1 => σ 4 = vp (pb (β 4)) ∧ X 1 = eB (pb (β 4)) 99 #[vi pg, vi (-1), .string ((⟨#[1]⟩ : ByteArray))] | 2 => σ 6 = vp (pb (β 6)) ∧ X 2 = eB (pb (β 6)) 102 #[vi 0, vi 0, .slice none 0 0, vi 0] | _ => True) [0, 1, 2] [0, 1, 2] [(3, 0, 2, 5), (1, 2, 1, 2)] hst0 ?_ ?_ ?_)
  · exact fun ix _ _ _ _ _ _ hs hb hx h => match ix, h with
    | 0, h => by dsimp only at h ⊢; rw [← hs 3 rfl, ← hb 3 rfl, ← hx 0 rfl]; exact h
    | 1, h => by dsimp only at h ⊢; rw [← hs 4 rfl, ← hb 4 rfl, ← hx 1 rfl]; exact h
    | 2, h => by dsimp only at h ⊢; rw [← hs 6 rfl, ← hb 6 rfl, ← hx 2 rfl]; exact h
    | _ + 3, _ => trivial
  · refine ⟨?_, ?_, ?_, trivial⟩
    · refine sv_any rfl rfl fun ρ β W X cx => ?_
      exact dv_box (cs := #[vi k, vi l, .slice A its.length c]) rfl (cx.ou 0) rfl rfl rfl (fun σ β' X' hs hb hv hx => ⟨hv, hx⟩)
    · refine sv_any rfl rfl fun ρ β W X cx => ?_
      exact dv_box (cs := #[vi pg, vi (-1), .string ((⟨#[1]⟩ : ByteArray))]) rfl (cx.ou 1) rfl rfl rfl (fun σ β' X' hs hb hv hx => ⟨hv, hx⟩)
    · refine sv_any rfl rfl fun ρ β W X cx => ?_
      exact dv_alloc (cs := #[vi 0, vi 0, .slice none 0 0, vi 0]) rfl (by kernel_rfl) rfl rfl (fun σ β' X' hs hb hv hx => ⟨hv, hx⟩)
  intro σ β X W1 hD hst1 fr hfr
  obtain ⟨B3_1, hu_B3_1⟩ : ∃ z, pb (β 3) = z := ⟨_, rfl⟩
  obtain ⟨B4_1, hu_B4_1⟩ : ∃ z, pb (β 4) = z := ⟨_, rfl⟩
  obtain ⟨B6_1, hu_B6_1⟩ : ∃ z, pb (β 6) = z := ⟨_, rfl⟩
  simp only [exq 0 ((dTn (hD 0 lq)).2), exq 1 ((dTn (hD 1 lq)).2), exq 2 ((dTn (hD 2 lq)).2), hu_B3_1, hu_B4_1, hu_B6_1] at hst1
  simp only [ed 3 ((dTn (hD 0 lq)).1), ed 4 ((dTn (hD 1 lq)).1), ed 6 ((dTn (hD 2 lq)).1), hu_B3_1, hu_B4_1, hu_B6_1] at hfr
  clear hD hu_B3_1 hu_B4_1 hu_B6_1; subst hfr; clear σ β X
  refine then_normal (wp_seq (wp_seq (wp_region_Z [0, 1, 3] [[0]] [.c 8 (.agg #[vi k, vi l, .slice A its.length c]), .c 9 (.bool true), .k 10 (.bool false)] [0, 1, 2] [0, 1] [(8, 0, 3, 11)] hst1 ?_ fun W2 hst2 => ?_)))
  · refine ⟨?_, ?_, trivial⟩
    · exact xs4 rfl id fun cx => run_loadB (n := 3) rfl (by kernel_rfl) (by kernel_rfl) (cx.ou 3) (cx.bi 0 rfl) (nle rfl) rfl
    · exact xsc rfl id rfl rfl fun cx => ⟨_, rright_i (hA.ext cx.upd.to_ext) hr hc, (map1 (cx.an 0))⟩
  refine then_normal (wp_cond_false (show Act.eval _ _ = .bool false from rfl) (wp_skip (then_normal (wp_seq (wp_seq ?_)))))
  have hd4 : ((decide (lsn < 0)) || (decide (2147483647 < lsn))) = false := (by rw [Bool.or_eq_false_iff, decide_eq_false_iff_not, decide_eq_false_iff_not]; omega)
  refine wp_region_P [0, 1, 3, 7, 15, 31] [.k 12 (vi lsn), .k 13 (.bool (decide (lsn < 0))), .k 14 (.bool (decide (lsn < 0))), .z 15 (!(decide (lsn < 0))) (vi lsn), .z 16 (!(decide (lsn < 0))) (.bool (decide (2147483647 < lsn))), tOk' 17 (decide (lsn < 0)) (decide (2147483647 < lsn)) false hd4] [(12, 0, 6, 18)] hst2 fun W3 hst3 => ?_
  refine then_normal (wp_cond_false (show Act.eval _ _ = .bool false from rfl) (wp_skip (then_normal (wp_seq (wp_seq (wp_region_Z [0, 1, 3] [[], [1]] [.k 19 (.pointer (some ⟨B4_1, 1, none⟩)), .c 20 (vi (-1)), .k 21 (.bool true)] [0, 1, 2] [1] [(19, 0, 3, 22)] hst3 ?_ fun W5 hst5 => ?_))))))
  · refine ⟨?_, trivial⟩
    · exact xs4 rfl id fun cx => run_load1 rfl (by kernel_rfl) (cx.an 0) ((cx.bi 1 rfl).cell 1)
  refine then_normal (wp_cond_true (show Act.eval _ _ = .bool true from rfl) (wp_seq (wp_seq (wp_region_Z [0, 1, 3, 7, 15, 31, 63, 127, 255, 511] [[], [1], [], [], [], [], [1]] [.k 22 (.pointer (some ⟨B4_1, 2, none⟩)), .c 23 (.string ((⟨#[1]⟩ : ByteArray))), .k 24 (vi 1), .k 25 (.bool false), .k 26 (.bool false), .k 27 (.pointer (some ⟨B4_1, 2, none⟩)), .c 28 (.string ((⟨#[1]⟩ : ByteArray))), .c 29 (.int .u8 1), .k 30 (.bool false), .k 31 (.bool false)] [0, 1, 2] [1, 6, 7] [(22, 0, 10, 32)] hst5 ?_ fun W6 hst6 => ?_))))
  · refine ⟨?_, ?_, ?_, trivial⟩
    · exact xs4 rfl id fun cx => run_load1 rfl (by kernel_rfl) (cx.an 0) ((cx.bi 1 rfl).cell 2)
    · exact xs5 rfl id (fun cx => (cx.an 4)) fun cx => run_load1 rfl (by kernel_rfl) (cx.an 5) ((cx.bi 1 rfl).cell 2)
    · exact xs5 rfl id (fun cx => (cx.an 4)) fun cx => run_indexStr (l := [1]) (m := 0) rfl (by kernel_rfl) (cx.an 6) (cx.co _) rfl (by decide)
  refine then_normal (wp_cond_false (show Act.eval _ _ = .bool false from rfl) (wp_skip (then_normal (wp_seq (wp_region_Y [0, 1, 3, 7, 0, 31, 63, 127] [[], [1], [], [], [], [], [], [2]] [[], [], [], [], [], [], [], [3]] [[], [], [], [], [], [], [], [2]] [.k 33 (.pointer (some ⟨B4_1, 2, none⟩)), .c 34 (.string ((⟨#[1]⟩ : ByteArray))), .c 35 (.int .u8 1), tW 36 .i64 1 1 (by decide), .k 37 (vi lsn), .k 38 (.agg #[vi 1, vi lsn, .slice none 0 0]), .k 39 (.agg #[vi 1, vi lsn, .slice none 0 0, vi 0]), .n] (fun ix σ β X => match ix with | 0 => True | 1 => True | 2 => True | 3 => True | 4 => True | 5 => True | 6 => True | 7 => X 3 = eB B6_1 102 #[vi 1, vi lsn, .slice none 0 0, vi 0] | _ => True) [0, 1, 3] [1, 2, 7] [(33, 0, 7, 40)] hst6 ?_ ?_ ?_)))))
  · exact fun ix _ _ _ _ _ _ hs hb hx h => match ix, h with
    | 7, h => by dsimp only at h ⊢; rw [← hx 3 rfl]; exact h
    | 0, _ | 1, _ | 2, _ | 3, _ | 4, _ | 5, _ | 6, _ | _ + 8, _ => trivial
  · refine ⟨?_, ?_, ?_, trivial⟩
    · exact xs4 rfl id fun cx => run_load1 rfl (by kernel_rfl) (cx.an 0) ((cx.bi 1 rfl).cell 2)
    · exact xs4 rfl id fun cx => run_indexStr (l := [1]) (m := 0) rfl (by kernel_rfl) (cx.an 1) (cx.co _) rfl (by decide)
    · refine sv_any rfl rfl fun ρ β W X cx => ?_
      exact dv_store (n := 4) rfl (cx.ou 6) (cx.an 6) (by kernel_rfl) (by kernel_rfl) (by kernel_rfl) cx (cx.init 2 _ rfl) rfl (nle rfl) (by kernel_rfl) rfl rfl rfl (fun σ β' X' hs hb hx => hx)
  intro σ β X W7 hD hst7 fr hfr
  simp only [exq 3 ((dTn (hD 7 lq)))] at hst7
  clear hD; subst hfr; clear σ β X
  refine then_normal (wp_ret (then_ret ?_))
  refine bodyPost_ret (v := .agg #[vi 1, vi lsn, .slice none 0 0, vi 0]) (results_cell (n := 4) Tryd.results34 rfl (by kernel_rfl) (by kernel_rfl) (hst7.blk 2 rfl) rfl) rfl ?_
  exact ⟨none, 0, rfl, World.ownsRow_nil _ _ _ _, hst7.ext⟩
set_option maxRecDepth 100000 in
set_option maxHeartbeats 2000000 in
theorem rdo3_put (k l : Int) (A : Option Addr) (c : Nat) (its : List Itm) (pg slot : Int) (s : ByteArray) (od : Option VerD) (lsn : Int) (w : World) (hA : At w A (strs its)) (hr : rightB k l (fstI its) = true) (hc : its.length ≤ c) (hl : 0 ≤ lsn ∧ lsn ≤ 2147483647) (hs : s.size ≤ 400) (hp : putErr k l (fstI its) slot s = 0) (hn1 : slot ≠ -1) :
    Calls Tryd.prog 34 #[.agg #[.int .i64 k, .int .i64 l, .slice A its.length c], .agg #[.int .i64 pg, .int .i64 slot, .string s], .int .i64 lsn] w (GotI k lsn (putI its slot.toNat (s, od)) w) := by
  go_enter Tryd.func34, Tryd.ntmps34
  have hst0 := St.start w
  refine wp_seq (wp_region_Y [0, 0, 0] [] [[0], [1], [2]] [] [.a 3, .a 4, .a 6] (fun ix σ β X => match ix with | 0 => σ 3 = vp (pb (β 3)) ∧ X 0 = eB (pb (β 3)) 86 #[vi k, vi l, .slice A its.length c] | 1 => σ 4 = vp (pb (β 4)) ∧ X 1 = eB (pb (β 4)) 99 #[vi pg, vi slot, .string s] | 2 => σ 6 = vp (pb (β 6)) ∧ X 2 = eB (pb (β 6)) 102 #[vi 0, vi 0, .slice none 0 0, vi 0] | _ => True) [0, 1, 2] [0, 1, 2] [(3, 0, 2, 5), (1, 2, 1, 2)] hst0 ?_ ?_ ?_)
  · exact fun ix _ _ _ _ _ _ hs hb hx h => match ix, h with
    | 0, h => by dsimp only at h ⊢; rw [← hs 3 rfl, ← hb 3 rfl, ← hx 0 rfl]; exact h
    | 1, h => by dsimp only at h ⊢; rw [← hs 4 rfl, ← hb 4 rfl, ← hx 1 rfl]; exact h
    | 2, h => by dsimp only at h ⊢; rw [← hs 6 rfl, ← hb 6 rfl, ← hx 2 rfl]; exact h
    | _ + 3, _ => trivial
  · refine ⟨?_, ?_, ?_, trivial⟩
    · refine sv_any rfl rfl fun ρ β W X cx => ?_
      exact dv_box (cs := #[vi k, vi l, .slice A its.length c]) rfl (cx.ou 0) rfl rfl rfl (fun σ β' X' hs hb hv hx => ⟨hv, hx⟩)
    · refine sv_any rfl rfl fun ρ β W X cx => ?_
      exact dv_box (cs := #[vi pg, vi slot, .string s]) rfl (cx.ou 1) rfl rfl rfl (fun σ β' X' hs hb hv hx => ⟨hv, hx⟩)
    · refine sv_any rfl rfl fun ρ β W X cx => ?_
      exact dv_alloc (cs := #[vi 0, vi 0, .slice none 0 0, vi 0]) rfl (by kernel_rfl) rfl rfl (fun σ β' X' hs hb hv hx => ⟨hv, hx⟩)
  intro σ β X W1 hD hst1 fr hfr
  obtain ⟨B3_1, hu_B3_1⟩ : ∃ z, pb (β 3) = z := ⟨_, rfl⟩
  obtain ⟨B4_1, hu_B4_1⟩ : ∃ z, pb (β 4) = z := ⟨_, rfl⟩
  obtain ⟨B6_1, hu_B6_1⟩ : ∃ z, pb (β 6) = z := ⟨_, rfl⟩
  simp only [exq 0 ((dTn (hD 0 lq)).2), exq 1 ((dTn (hD 1 lq)).2), exq 2 ((dTn (hD 2 lq)).2), hu_B3_1, hu_B4_1, hu_B6_1] at hst1
  simp only [ed 3 ((dTn (hD 0 lq)).1), ed 4 ((dTn (hD 1 lq)).1), ed 6 ((dTn (hD 2 lq)).1), hu_B3_1, hu_B4_1, hu_B6_1] at hfr
  clear hD hu_B3_1 hu_B4_1 hu_B6_1; subst hfr; clear σ β X
  refine then_normal (wp_seq (wp_seq (wp_region_Z [0, 1, 3] [[0]] [.c 8 (.agg #[vi k, vi l, .slice A its.length c]), .c 9 (.bool true), .k 10 (.bool false)] [0, 1, 2] [0, 1] [(8, 0, 3, 11)] hst1 ?_ fun W2 hst2 => ?_)))
  · refine ⟨?_, ?_, trivial⟩
    · exact xs4 rfl id fun cx => run_loadB (n := 3) rfl (by kernel_rfl) (by kernel_rfl) (cx.ou 3) (cx.bi 0 rfl) (nle rfl) rfl
    · exact xsc rfl id rfl rfl fun cx => ⟨_, rright_i (hA.ext cx.upd.to_ext) hr hc, (map1 (cx.an 0))⟩
  refine then_normal (wp_cond_false (show Act.eval _ _ = .bool false from rfl) (wp_skip (then_normal (wp_seq (wp_seq ?_)))))
  have hd4 : ((decide (lsn < 0)) || (decide (2147483647 < lsn))) = false := (by rw [Bool.or_eq_false_iff, decide_eq_false_iff_not, decide_eq_false_iff_not]; omega)
  refine wp_region_P [0, 1, 3, 7, 15, 31] [.k 12 (vi lsn), .k 13 (.bool (decide (lsn < 0))), .k 14 (.bool (decide (lsn < 0))), .z 15 (!(decide (lsn < 0))) (vi lsn), .z 16 (!(decide (lsn < 0))) (.bool (decide (2147483647 < lsn))), tOk' 17 (decide (lsn < 0)) (decide (2147483647 < lsn)) false hd4] [(12, 0, 6, 18)] hst2 fun W3 hst3 => ?_
  refine then_normal (wp_cond_false (show Act.eval _ _ = .bool false from rfl) (wp_skip (then_normal (wp_seq (wp_seq ?_)))))
  have hd6 : (slot == (-1)) = false := (by simpa using hn1)
  refine wp_region_Z [0, 1, 3] [[], [1]] [.k 19 (.pointer (some ⟨B4_1, 1, none⟩)), .c 20 (vi slot), .e 21 (.bool (slot == (-1))) (.bool false) (congrArg Value.bool hd6)] [0, 1, 2] [1] [(19, 0, 3, 22)] hst3 ?_ fun W5 hst5 => ?_
  · refine ⟨?_, trivial⟩
    · exact xs4 rfl id fun cx => run_load1 rfl (by kernel_rfl) (cx.an 0) ((cx.bi 1 rfl).cell 1)
  refine then_normal (wp_cond_false (show Act.eval _ _ = .bool false from rfl) (wp_skip (then_normal (wp_seq (wp_region_Y [0, 0, 2, 0, 8, 31, 0, 127] [[0], [], [1], [], [1], [], [], [4]] [[], [], [], [], [], [3], [4], [5]] [[], [], [], [], [], [], [], [4]] [.c 40 (.agg #[vi k, vi l, .slice A its.length c]), .k 41 (.pointer (some ⟨B4_1, 1, none⟩)), .c 42 (vi slot), .k 43 (.pointer (some ⟨B4_1, 2, none⟩)), .c 44 (.string s), .a 45, .a 7, .n] (fun ix σ β X => match ix with | 0 => True | 1 => True | 2 => True | 3 => True | 4 => True | 5 => σ 45 = .agg #[vi k, vi l, .slice (sA (tg (β 45) 2)) ((putI its slot.toNat (s, od)).length) (sC (tg (β 45) 2)), vi 0] ∧ X 3 = eO 9 1 (.slice (sA (tg (β 45) 2)) ((putI its slot.toNat (s, od)).length) (sC (tg (β 45) 2))) ((putI its slot.toNat (s, od)).length) (strs (putI its slot.toNat (s, od))) | 6 => σ 7 = vp (pb (β 7)) ∧ X 4 = eB (pb (β 7)) 102 #[vi 0, vi 0, .slice none 0 0, vi 0] | 7 => X 5 = eB (pb (β 7)) 102 #[vi k, vi l, .slice (sA (tg (β 45) 2)) ((putI its slot.toNat (s, od)).length) (sC (tg (β 45) 2)), vi 0] | _ => True) [0, 1, 2, 3, 5] [0, 2, 4, 5, 6, 7] [(7, 6, 1, 8), (32, 0, 6, 38)] hst5 ?_ ?_ ?_)))))
  · exact fun ix _ _ _ _ _ _ hs hb hx h => match ix, h with
    | 5, h => by dsimp only at h ⊢; rw [← hs 45 rfl, ← hb 45 rfl, ← hx 3 rfl]; exact h
    | 6, h => by dsimp only at h ⊢; rw [← hs 7 rfl, ← hb 7 rfl, ← hx 4 rfl]; exact h
    | 7, h => by dsimp only at h ⊢; rw [← hb 7 rfl, ← hb 45 rfl, ← hx 5 rfl]; exact h
    | 0, _ | 1, _ | 2, _ | 3, _ | 4, _ | _ + 8, _ => trivial
  · refine ⟨?_, ?_, ?_, ?_, ?_, ?_, trivial⟩
    · exact xs4 rfl id fun cx => run_loadB (n := 3) rfl (by kernel_rfl) (by kernel_rfl) (cx.ou 3) (cx.bi 0 rfl) (nle rfl) rfl
    · exact xs4 rfl id fun cx => run_load1 rfl (by kernel_rfl) (cx.an 1) ((cx.bi 1 rfl).cell 1)
    · exact xs4 rfl id fun cx => run_load1 rfl (by kernel_rfl) (cx.an 3) ((cx.bi 1 rfl).cell 2)
    · refine sv_any rfl rfl fun ρ β W X cx => ?_
      refine DoesU.call (run_callF (args := #[.agg #[vi k, vi l, .slice A its.length c], vi slot, .string s]) rfl cx.sees rfl (by kernel_rfl) (map3 (cx.an 0) (cx.an 2) (cx.an 4))) ?_
      refine (rput_i (i := (s, od)) (hA.ext cx.upd.to_ext) hr hc hs hp).mono ?_
      rintro e W1 ⟨A4, c4, rfl, ho, hx⟩
      refine ⟨_, rfl, post_call [eO 9 1 (.slice A4 (putI its slot.toNat (s, od)).length c4) (putI its slot.toNat (s, od)).length (strs (putI its slot.toNat (s, od)))] rfl rfl hx (one_new (eO_new ho)) (List.pairwise_singleton _ _) (fun σ β' X' hs hb hv hN => ?_)⟩
      have hv1 := (hv 45 rfl).1; have hv2 := (hv 45 rfl).2
      exact ⟨hv1.trans (by rw [hv2]; rfl), (by rw [hv2]; exact (List.cons.inj hN).1)⟩
    · refine sv_any rfl rfl fun ρ β W X cx => ?_
      exact dv_alloc (cs := #[vi 0, vi 0, .slice none 0 0, vi 0]) rfl (by kernel_rfl) rfl rfl (fun σ β' X' hs hb hv hx => ⟨hv, hx⟩)
    · refine sv_any rfl rfl fun ρ β W X cx => ?_
      exact dv_store (n := 4) rfl (dTn (cx.an 6)).1 (dTn (cx.an 5)).1 (by kernel_rfl) (by kernel_rfl) (by kernel_rfl) cx (dTn (cx.an 6)).2 rfl (nle rfl) (by kernel_rfl) rfl rfl rfl (fun σ β' X' hs hb hx => by rw [hb 7, hb 45]; exact hx)
  intro σ β X W7 hD hst7 fr hfr
  obtain ⟨A45_7, hu_A45_7⟩ : ∃ z, sA (tg (β 45) 2) = z := ⟨_, rfl⟩
  obtain ⟨c45_7, hu_c45_7⟩ : ∃ z, sC (tg (β 45) 2) = z := ⟨_, rfl⟩
  obtain ⟨B7_7, hu_B7_7⟩ : ∃ z, pb (β 7) = z := ⟨_, rfl⟩
  simp only [exq 3 ((dTn (hD 5 lq)).2), exq 5 ((dTn (hD 7 lq))), hu_A45_7, hu_c45_7, hu_B7_7] at hst7
  simp only [ed 45 ((dTn (hD 5 lq)).1), ed 7 ((dTn (hD 6 lq)).1), hu_A45_7, hu_c45_7, hu_B7_7] at hfr
  clear hD hu_A45_7 hu_c45_7 hu_B7_7; subst hfr; clear σ β X
  refine then_normal (wp_seq (wp_seq (wp_region_Z [0, 1, 3] [[], [4]] [.k 46 (.pointer (some ⟨B7_7, 3, none⟩)), .c 47 (vi 0), .k 48 (.bool true)] [0, 1, 2, 3, 4] [1] [(46, 0, 3, 49)] hst7 ?_ fun W8 hst8 => ?_)))
  · refine ⟨?_, trivial⟩
    · exact xs4 rfl id fun cx => run_load1 rfl (by kernel_rfl) (cx.an 0) ((cx.bi 4 rfl).cell 3)
  refine then_normal (wp_cond_true (show Act.eval _ _ = .bool true from rfl) (wp_region_Y [0, 1, 3, 7] [[], [], [], [4]] [[], [], [], [5]] [[], [], [], [4]] [.k 49 (vi lsn), .k 50 (vp B7_7), .k 51 (.pointer (some ⟨B7_7, 1, none⟩)), .n] (fun ix σ β X => match ix with | 0 => True | 1 => True | 2 => True | 3 => X 5 = eB B7_7 102 #[vi k, vi lsn, .slice A45_7 ((putI its slot.toNat (s, od)).length) c45_7, vi 0] | _ => True) [0, 1, 2, 3, 5] [3] [(49, 0, 3, 52)] hst8 ?_ ?_ ?_))
  · exact fun ix _ _ _ _ _ _ hs hb hx h => match ix, h with
    | 3, h => by dsimp only at h ⊢; rw [← hx 5 rfl]; exact h
    | 0, _ | 1, _ | 2, _ | _ + 4, _ => trivial
  · refine ⟨?_, trivial⟩
    · refine sv_any rfl rfl fun ρ β W X cx => ?_
      exact dv_store (n := 1) rfl (cx.an 2) (cx.an 0) (by kernel_rfl) (by kernel_rfl) (by kernel_rfl) cx (cx.init 4 _ rfl) rfl (nle rfl) (by kernel_rfl) rfl rfl rfl (fun σ β' X' hs hb hx => hx)
  intro σ β X W9 hD hst9 fr hfr
  simp only [exq 5 ((dTn (hD 3 lq)))] at hst9
  clear hD; subst hfr; clear σ β X
  refine then_normal (wp_seq (wp_region_Y [0, 1] [[4], [2]] [[], [5]] [[], [2]] [.c 52 (.agg #[vi k, vi lsn, .slice A45_7 ((putI its slot.toNat (s, od)).length) c45_7, vi 0]), .n] (fun ix σ β X => match ix with | 0 => True | 1 => X 5 = eB B6_1 102 #[vi k, vi lsn, .slice A45_7 ((putI its slot.toNat (s, od)).length) c45_7, vi 0] | _ => True) [0, 1, 3, 4, 5] [0, 1] [(52, 0, 1, 53)] hst9 ?_ ?_ ?_))
  · exact fun ix _ _ _ _ _ _ hs hb hx h => match ix, h with
    | 1, h => by dsimp only at h ⊢; rw [← hx 5 rfl]; exact h
    | 0, _ | _ + 2, _ => trivial
  · refine ⟨?_, ?_, trivial⟩
    · exact xs4 rfl id fun cx => run_loadB (n := 4) rfl (by kernel_rfl) (by kernel_rfl) (cx.ou 7) (cx.bi 4 rfl) (nle rfl) rfl
    · refine sv_any rfl rfl fun ρ β W X cx => ?_
      exact dv_store (n := 4) rfl (cx.ou 6) (cx.an 0) (by kernel_rfl) (by kernel_rfl) (by kernel_rfl) cx (cx.init 2 _ rfl) rfl (nle rfl) (by kernel_rfl) rfl rfl rfl (fun σ β' X' hs hb hx => hx)
  intro σ β X W10 hD hst10 fr hfr
  simp only [exq 5 ((dTn (hD 1 lq)))] at hst10
  clear hD; subst hfr; clear σ β X
  refine then_normal (wp_ret ?_)
  refine bodyPost_ret (v := .agg #[vi k, vi lsn, .slice A45_7 ((putI its slot.toNat (s, od)).length) c45_7, vi 0]) (results_cell (n := 4) Tryd.results34 rfl (by kernel_rfl) (by kernel_rfl) (hst10.blk 4 rfl) rfl) rfl ?_
  exact ⟨_, _, rfl, hst10.own' 2 rfl, hst10.ext⟩
end
end Go.Proofs.YtjnplglnnamfdaaDoor
namespace Go.Proofs.YtjnplglnnamfdaaDoor
section
open Go.RowKit Go.Maps Go.ChangeMaps
set_option linter.unusedVariables false
set_option linter.unusedSimpArgs false
/-- how an element lies in a map and how it reads -/
structure Cod (E : Type) where
  enc : E → Value
  dat : E → DataW Unit
  R : Value → Option (DataW Unit × List MemPlace)
  e0 : E
  read : ∀ e, R (enc e) = some (dat e, [])
  back : ∀ v d ps e, R v = some (d, ps) → d = dat e → v = enc e
section
variable {E : Type} {C : Cod E}
variable {P : Program} {o : Oper} {ρ : Operand → Value} {W : World} {k e b n : Nat} {m : Int → Option E}
end
section
variable {E : Type} {C : Cod E} {P : Program} {ops : Array Oper} {L : List Nat} {a0 : Act} {w0 : World} {bor : List Nat} {X0 : List Ent} {us cr kl : List (List Nat)}
  {D : Nat → (Tmp → Value) → (Tmp → Value) → (Nat → Ent) → Prop} {i : Nat} {o : Oper} {ρ : Operand → Value} {β : Tmp → Value} {W : World} {X : Nat → Ent}
end
theorem CtxV.holdE {ops : Array Oper} {L : List Nat} {a0 : Act} {w0 : World} {bor : List Nat} {X0 : List Ent} {us : List (List Nat)} {D : Nat → (Tmp → Value) → (Tmp → Value) → (Nat → Ent) → Prop} {i : Nat} {ρ : Operand → Value} {β : Tmp → Value} {W : World} {X : Nat → Ent} {q : Nat} {E : Ent} (cx : CtxV ops L a0 w0 bor X0 us D i ρ β W X) (hX : X q = E) (hu : (atV us i).contains q = true) : E.holds W := by
  have h := (cx.ok q hu).holds
  rw [hX] at h; exact h
end
end Go.Proofs.YtjnplglnnamfdaaDoor
namespace Go.Proofs.YtjnplglnnamfdaaDoor
section
open Go.RowKit
set_option linter.unusedVariables false
set_option linter.unusedSimpArgs false
theorem rdo3_kind' {k l : Int} {A : Option Addr} {c : Nat} {its : List Itm} {pg slot lsn : Int} {s : ByteArray} {w : World} (h1 : slot = -1) (h2 : s = (⟨#[1]⟩ : ByteArray)) (hA : At w A (strs its)) (hr : rightB k l (fstI its) = true) (hc : its.length ≤ c) (hl : 0 ≤ lsn ∧ lsn ≤ 2147483647) :
    Calls Tryd.prog 34 #[.agg #[.int .i64 k, .int .i64 l, .slice A its.length c], .agg #[.int .i64 pg, .int .i64 slot, .string s], .int .i64 lsn] w (GotI 1 lsn [] w) := by
  subst h1 h2
  exact rdo3_kind k l A c its pg lsn w hA hr hc hl
theorem do1_cases {lsn : Int} {p p' : PgI} {e : EdI} (h : do1 lsn p e = some p') : (e.2.1 = -1 ∧ e.2.2.1 = (⟨#[1]⟩ : ByteArray) ∧ p' = (1, lsn, [])) ∨ (e.2.1 ≠ -1 ∧ putErr p.1 p.2.1 (fstI p.2.2) e.2.1 e.2.2.1 = 0 ∧ p' = (p.1, lsn, putI p.2.2 e.2.1.toNat e.2.2)) := by
  rw [do1] at h
  split at h
  · rename_i h1
    split at h
    · rename_i h2
      exact .inl ⟨h1, h2, (Option.some.inj h).symm⟩
    · cases h
  · rename_i h1
    split at h
    · rename_i h2
      exact .inr ⟨h1, h2, (Option.some.inj h).symm⟩
    · cases h
theorem pgC_flat (Ps : List PgD) : (Ps.flatMap pgC).length = Ps.length * 3 := by
  induction Ps with
  | nil => rfl
  | cons p Ps ih => rw [List.flatMap_cons, List.length_append, ih, pgC_len, List.length_cons]; omega
theorem pgC_one (Ps : List PgD) : ∀ u ∈ Ps.flatMap pgC, Value.oneCell' u = true := fun u hu => by
  obtain ⟨p, _, hp⟩ := List.mem_flatMap.1 hu
  simp only [pgC, List.mem_cons, List.not_mem_nil, or_false] at hp
  rcases hp with rfl | rfl | rfl <;> rfl
theorem mem_getD {T : Type} {l : List T} {n : Nat} {d p : T} (h : n < l.length) (hp : l.getD n d = p) : l[n]? = some p ∧ p ∈ l := by
  rw [← hp, List.getD_eq_getElem?_getD, List.getElem?_eq_getElem h]
  exact ⟨rfl, List.getElem_mem _⟩
theorem pgm_its {Ps Cs Qs : List PgD} {W : World} {A0 : Option Addr} (hP : PgsAt W A0 Ps) (hQ : (ePs Qs).holds W) (hC : ∀ p ∈ Cs, p ∈ Ps ∨ p ∈ Qs) {p : PgD} (hm : p ∈ Cs) : At W p.A (strs p.its) := by
  rcases hC _ hm with h | h
  · exact (hP.its _ h).1
  · exact (ePs_at hQ _ h).1
theorem pgm_cap {Ps Cs Qs : List PgD} {W : World} {A0 : Option Addr} (hP : PgsAt W A0 Ps) (hQ : (ePs Qs).holds W) (hC : ∀ p ∈ Cs, p ∈ Ps ∨ p ∈ Qs) {p : PgD} (hm : p ∈ Cs) : p.its.length ≤ p.c := by
  rcases hC _ hm with h | h
  · exact (hP.its _ h).2.2.1
  · exact (ePs_at hQ _ h).2
set_option maxRecDepth 100000 in
set_option maxHeartbeats 8000000 in
theorem rdo9_any (pa : Addr) (pc : Nat) (Ps : List PgD) (LA : Option Addr) (lc : Nat) (es : List EdI) (lsn : Int) (H' : List PgI) (w : World) (hP : PgsAt w (some pa) Ps) (hL : At w LA (es.flatMap cellsI)) (hel : es.length ≤ 100000) (hed : ∀ e ∈ es, Desc e.2.2.1 e.2.2.2) (hl : 0 ≤ lsn ∧ lsn ≤ 2147483647) (hok : okH (Ps.map absP)) (hdo : doL lsn (Ps.map absP) es = some H') :
    Calls Tryd.prog 10 #[.agg #[.slice ((some pa)) Ps.length pc], .slice LA es.length lc, .int .i64 lsn] w (DoPost Ps H' Ps.length w) := by
  have hPl := hP.len
  go_enter Tryd.func10, Tryd.ntmps10
  have hst0 := St.start w
  refine wp_seq (wp_region_Y [0, 0, 0] [] [[0], [1]] [] [.a 3, .a 6, .k 7 (.bool false)] (fun ix σ β X => match ix with | 0 => σ 3 = vp (pb (β 3)) ∧ X 0 = eB (pb (β 3)) 30 #[.slice ((some pa)) Ps.length pc] | 1 => σ 6 = vp (pb (β 6)) ∧ X 1 = eB (pb (β 6)) 30 #[.slice none 0 0] | _ => True) [0, 1] [0, 1] [(3, 0, 1, 4), (2, 1, 2, 4)] hst0 ?_ ?_ ?_)
  · exact fun ix _ _ _ _ _ _ hs hb hx h => match ix, h with
    | 0, h => by dsimp only at h ⊢; rw [← hs 3 rfl, ← hb 3 rfl, ← hx 0 rfl]; exact h
    | 1, h => by dsimp only at h ⊢; rw [← hs 6 rfl, ← hb 6 rfl, ← hx 1 rfl]; exact h
    | _ + 2, _ => trivial
  · refine ⟨?_, ?_, trivial⟩
    · refine sv_any rfl rfl fun ρ β W X cx => ?_
      exact dv_box (cs := #[.slice ((some pa)) Ps.length pc]) rfl (cx.ou 0) rfl rfl rfl (fun σ β' X' hs hb hv hx => ⟨hv, hx⟩)
    · refine sv_any rfl rfl fun ρ β W X cx => ?_
      exact dv_alloc (cs := #[.slice none 0 0]) rfl (by kernel_rfl) rfl rfl (fun σ β' X' hs hb hv hx => ⟨hv, hx⟩)
  intro σ β X W1 hD hst1 fr hfr
  obtain ⟨B3_1, hu_B3_1⟩ : ∃ z, pb (β 3) = z := ⟨_, rfl⟩
  obtain ⟨B6_1, hu_B6_1⟩ : ∃ z, pb (β 6) = z := ⟨_, rfl⟩
  simp only [exq 0 ((dTn (hD 0 lq)).2), exq 1 ((dTn (hD 1 lq)).2), hu_B3_1, hu_B6_1] at hst1
  simp only [ed 3 ((dTn (hD 0 lq)).1), ed 6 ((dTn (hD 1 lq)).1), hu_B3_1, hu_B6_1] at hfr
  clear hD hu_B3_1 hu_B6_1; subst hfr; clear σ β X
  refine then_normal (wp_seq (wp_region_Y [0, 0, 2, 7, 15, 0, 63] [[], [], [0], [2], [], [], [4]] [[2], [], [], [3], [], [4], [5]] [[], [], [], [2], [], [], [4]] [.a 11, .k 12 (vp B3_1), .c 13 (.slice ((some pa)) Ps.length pc), .a 14, .a 15, .a 8, .n] (fun ix σ β X => match ix with | 0 => σ 11 = .slice ((some ⟨(pb' (β 11)), 0, none⟩)) 0 0 ∧ X 2 = eO 86 3 (.slice ((some ⟨(pb' (β 11)), 0, none⟩)) 0 0) 0 ([]) | 1 => True | 2 => True | 3 => σ 14 = .slice (sA (β 14)) Ps.length (sC (β 14)) ∧ X 3 = eO 86 3 (.slice (sA (β 14)) Ps.length (sC (β 14))) Ps.length (Ps.flatMap pgC) | 4 => σ 15 = .agg #[.slice (sA (β 14)) Ps.length (sC (β 14))] | 5 => σ 8 = vp (pb (β 8)) ∧ X 4 = eB (pb (β 8)) 30 #[.slice none 0 0] | 6 => X 5 = eB (pb (β 8)) 30 #[.slice (sA (β 14)) Ps.length (sC (β 14))] | _ => True) [0, 1, 3, 5] [0, 2, 3, 4, 5, 6] [(8, 5, 1, 9), (2, 0, 5, 7)] hst1 ?_ ?_ ?_))
  · exact fun ix _ _ _ _ _ _ hs hb hx h => match ix, h with
    | 0, h => by dsimp only at h ⊢; rw [← hs 11 rfl, ← hb 11 rfl, ← hx 2 rfl]; exact h
    | 3, h => by dsimp only at h ⊢; rw [← hs 14 rfl, ← hb 14 rfl, ← hx 3 rfl]; exact h
    | 4, h => by dsimp only at h ⊢; rw [← hs 15 rfl, ← hb 14 rfl]; exact h
    | 5, h => by dsimp only at h ⊢; rw [← hs 8 rfl, ← hb 8 rfl, ← hx 4 rfl]; exact h
    | 6, h => by dsimp only at h ⊢; rw [← hb 8 rfl, ← hb 14 rfl, ← hx 5 rfl]; exact h
    | 1, _ | 2, _ | _ + 7, _ => trivial
  · refine ⟨?_, ?_, ?_, ?_, ?_, ?_, trivial⟩
    · refine sv_any rfl rfl fun ρ β W X cx => ?_
      exact dv_litN (e := 86) (sz := 3) (xs := []) rfl (by simp [go_sem]) rfl (by decide) rfl rfl (fun σ β' X' hs hb hv hx => ⟨hv, hx⟩)
    · exact xs4 rfl id fun cx => run_load1 rfl (by kernel_rfl) (cx.an 1) ((cx.bi 0 rfl).cell 0)
    · refine sv_any rfl rfl fun ρ β W X cx => ?_
      obtain ⟨i0, hi0, hz0, hz1, hz2⟩ := info_parts Tryd.infoPage
      refine dv_appendN (n := 0) (m := Ps.length) (nm := Ps.length) (sz := 3) (xs := []) (news := Ps.flatMap pgC) (xs' := Ps.flatMap pgC) rfl (ty := 28) rfl (by kernel_rfl) hi0 hz0 hz1 hz2 rfl (by decide) (dTn (cx.an 0)).1 cx (dTn (cx.an 0)).2 rfl (cx.an 2) (pgC_flat _) (hP.at_.ext cx.upd.to_ext) (pgC_one _) (by simp only [maxLen]; omega) (by omega) rfl rfl rfl (by omega) (rfl) (fun σ β' X' hs hb hv hx => ?_)
      exact ⟨hv, hx⟩
    · exact sv rfl rfl rfl rfl rfl _ (fun _ _ _ h => h) (fun β β' h => by rw [h 14 (by decide)]) fun ρ β W X cx => run_buildL rfl (pmc (dTn (cx.an 3)).1 pmn) (by kernel_rfl)
    · refine sv_any rfl rfl fun ρ β W X cx => ?_
      exact dv_alloc (cs := #[.slice none 0 0]) rfl (by kernel_rfl) rfl rfl (fun σ β' X' hs hb hv hx => ⟨hv, hx⟩)
    · refine sv_any rfl rfl fun ρ β W X cx => ?_
      exact dv_store (n := 1) rfl (dTn (cx.an 5)).1 (dTn (cx.an 4)) (by kernel_rfl) (by kernel_rfl) (by kernel_rfl) cx (dTn (cx.an 5)).2 rfl (nle rfl) (by kernel_rfl) rfl rfl rfl (fun σ β' X' hs hb hx => by rw [hb 8, hb 14]; exact hx)
  intro σ β X W2 hD hst2 fr hfr
  obtain ⟨B11_2, hu_B11_2⟩ : ∃ z, pb' (β 11) = z := ⟨_, rfl⟩
  obtain ⟨A14_2, hu_A14_2⟩ : ∃ z, sA (β 14) = z := ⟨_, rfl⟩
  obtain ⟨c14_2, hu_c14_2⟩ : ∃ z, sC (β 14) = z := ⟨_, rfl⟩
  obtain ⟨B8_2, hu_B8_2⟩ : ∃ z, pb (β 8) = z := ⟨_, rfl⟩
  simp only [exq 3 ((dTn (hD 3 lq)).2), exq 5 ((dTn (hD 6 lq))), hu_B11_2, hu_A14_2, hu_c14_2, hu_B8_2] at hst2
  simp only [ed 11 ((dTn (hD 0 lq)).1), ed 14 ((dTn (hD 3 lq)).1), ed 15 ((dTn (hD 4 lq))), ed 8 ((dTn (hD 5 lq)).1), hu_B11_2, hu_A14_2, hu_c14_2, hu_B8_2] at hfr
  clear hD hu_B11_2 hu_A14_2 hu_c14_2 hu_B8_2; subst hfr; clear σ β X
  refine then_normal (wp_seq (wp_seq (wp_region_P [0] [.k 9 (vi 0)] [(9, 0, 1, 10)] hst2 fun W3 hst3 => ?_)))
  refine then_normal (wp_block ?_)
  have hn_4 : St _ _ (_ ++ [ePs []]) _ := St.emNil hst3
  refine wp_loopN (fun mz az W => ∃ j : Nat, ∃ Cs : List PgD, ∃ Qs : List PgD, ∃ OA : Option Addr, ∃ OC : Nat, j ≤ es.length ∧ Cs.length = Ps.length ∧ (∀ p ∈ Cs, p ∈ Ps ∨ p ∈ Qs) ∧ doL lsn (Cs.map absP) (es.drop j) = some H' ∧ okH (Cs.map absP) ∧ mz = es.length - j ∧ az = ⟨#[.agg #[.slice ((some pa)) Ps.length pc], .slice LA es.length lc, vi lsn, vp B3_1, undef, undef, vp B6_1, jv az 7, vp B8_2, vi ((j : Int)), jv az 10, .slice ((some ⟨B11_2, 0, none⟩)) 0 0, vp B3_1, .slice ((some pa)) Ps.length pc, .slice A14_2 Ps.length c14_2, .agg #[.slice A14_2 Ps.length c14_2], jv az 16, jv az 17, jv az 18, jv az 19, jv az 20, jv az 21, jv az 22, jv az 23, jv az 24, jv az 25, jv az 26, jv az 27, jv az 28, jv az 29, jv az 30, jv az 31, jv az 32, jv az 33, jv az 34, jv az 35, jv az 36, jv az 37, jv az 38, jv az 39, jv az 40, jv az 41, jv az 42, jv az 43, jv az 44, jv az 45, jv az 46, jv az 47, jv az 48, jv az 49, jv az 50, jv az 51, jv az 52, jv az 53, jv az 54, jv az 55, jv az 56, jv az 57, jv az 58, jv az 59, jv az 60, jv az 61, jv az 62, jv az 63, jv az 64, jv az 65, jv az 66, jv az 67, jv az 68, undef], []⟩ ∧ St w [] [eB B3_1 30 #[.slice ((some pa)) Ps.length pc], eB B6_1 30 #[.slice none 0 0], eB B8_2 30 #[.slice OA Ps.length OC], eO 86 3 (.slice OA Ps.length OC) Ps.length (Cs.flatMap pgC), ePs Qs] W) (es.length - 0) ?_ ?_
  · -- the loop begins
    have hp6 := hn_4.pick [0, 1, 3, 2, 4] (by decide) rfl
    exact ⟨0, Ps, [], A14_2, c14_2, Nat.zero_le _, rfl, fun p hp => .inl hp, hdo, hok, rfl, (by kernel_rfl), hp6⟩
  rintro n5 a5 W5 ⟨j, Cs, Qs, OA, OC, hj, hCl, hCs, hdj, hokC, rfl, hj_, hst5⟩
  obtain ⟨u5_, hu_⟩ : ∃ z, jv a5 = z := ⟨_, rfl⟩
  rw [hu_] at hj_; clear hu_; subst hj_
  refine wp_seq (wp_seq (wp_region_P [0, 0, 2, 7] [.k 16 (vi ((j : Int))), .k 17 (.slice LA es.length lc), .k 18 (vi ((es.length : Int))), .k 19 (.bool (decide ((j : Int) < (es.length : Int))))] [(16, 0, 4, 20)] hst5 fun W7 hst7 => ?_))
  refine then_normal ?_
  rcases Bool.eq_false_or_eq_true (decide ((j : Int) < (es.length : Int))) with hs8 | hs8
  · skip
    have hs8p : (j : Int) < (es.length : Int) := by simpa using hs8
    refine wp_cond_true (show Act.eval _ _ = .bool true from (congrArg Value.bool hs8)) (wp_skip (then_normal (wp_seq (wp_block (wp_seq (wp_seq ?_))))))
    obtain ⟨hN5, p5, hd5, hr5⟩ := doL_step (by omega) hdj
    obtain ⟨dd, hN_dd⟩ : ∃ z, es.getD j ei0 = z := ⟨_, rfl⟩
    rw [hN_dd] at hN5 hd5 hr5
    rw [List.length_map, hCl] at hN5
    have hmdd := mem_getD (by omega) hN_dd
    obtain ⟨pg, hN_pg⟩ : ∃ z, Cs.getD (dd.1).toNat p0 = z := ⟨_, rfl⟩
    have hmpg := mem_getD (by omega) hN_pg
    rw [absP_get, hN_pg] at hd5
    have hpok : okP (absP pg) := hokC _ (List.mem_map.2 ⟨_, hmpg.2, rfl⟩)
    have hdes := hed _ hmdd.2
    have h5ok := hpok.do hl hdes hd5
    have hdle := hdes.le
    have hd10 : ((decide (dd.1 < 0)) || (decide ((Ps.length : Int) ≤ dd.1))) = false := (by rw [Bool.or_eq_false_iff, decide_eq_false_iff_not, decide_eq_false_iff_not]; omega)
    refine wp_region_Z [0, 0, 3, 7, 15, 31, 63, 127, 127, 511, 1023, 2047, 127, 4223, 12415, 32767, 65535] [[], [], [], [], [], [], [], [], [], [], [], [], [], [2]] [.k 22 (.slice LA es.length lc), .k 23 (vi ((j : Int))), .c 24 (.pointer (some ((ad LA).add (j * 3)))), .c 25 (.pointer (some ((ad LA).add (j * 3 + 0)))), .c 26 (vi dd.1), .k 27 (.bool (decide (dd.1 < 0))), .k 28 (.bool (decide (dd.1 < 0))), .z 29 (!(decide (dd.1 < 0))) (.slice LA es.length lc), .z 30 (!(decide (dd.1 < 0))) (vi ((j : Int))), .y 31 (!(decide (dd.1 < 0))) (.pointer (some ((ad LA).add (j * 3)))), .y 32 (!(decide (dd.1 < 0))) (.pointer (some ((ad LA).add (j * 3 + 0)))), .y 33 (!(decide (dd.1 < 0))) (vi dd.1), .z 34 (!(decide (dd.1 < 0))) (vp B8_2), .y 35 (!(decide (dd.1 < 0))) (.slice OA Ps.length OC), .z 36 (!(decide (dd.1 < 0))) (vi ((Ps.length : Int))), .z 37 (!(decide (dd.1 < 0))) (.bool (decide ((Ps.length : Int) ≤ dd.1))), tOk' 38 (decide (dd.1 < 0)) (decide ((Ps.length : Int) ≤ dd.1)) false hd10] [0, 1, 2, 3, 4] [2, 3, 4, 9, 10, 11, 13] [(22, 0, 17, 39)] hst7 ?_ fun W9 hst9 => ?_
    · refine ⟨?_, ?_, ?_, ?_, ?_, ?_, ?_, trivial⟩
      · exact xs4 rfl id fun cx => run_indexSlM (e := 99) (m := j) (sz := 3) rfl (by kernel_rfl) (by kernel_rfl) (cx.an 0) (cx.an 1) (by omega) (by omega) (hL.ext cx.upd.to_ext) (by have h_ := flatLen (f := cellsI) (sz := 3) cellsI_len es; show 0 < (List.flatMap cellsI es).length; omega)
      · exact xs4 rfl id fun cx => run_fieldAd rfl (by kernel_rfl) (cx.an 2)
      · exact xs4 rfl id fun cx => run_load1 rfl (by kernel_rfl) (cx.an 3) (At.eltc (f := cellsI) (k := 0) cellsI_len (hL.ext cx.upd.to_ext) hmdd.1 rfl)
      · exact m2 rfl (fun _ _ _ h => h) (fun cx => (cx.an 6)) fun cx hq => run_indexSlM (e := 99) (m := j) (sz := 3) rfl (by kernel_rfl) (by kernel_rfl) (mbv (cx.an 7) hq) (mbv (cx.an 8) hq) (by have hq_ := hq; simp only [zB] at hq_; omega) (by have hq_ := hq; simp only [zB] at hq_; omega) (hL.ext cx.upd.to_ext) (by have h_ := flatLen (f := cellsI) (sz := 3) cellsI_len es; show 0 < (List.flatMap cellsI es).length; omega)
      · exact m2 rfl (fun _ _ _ h => h) (fun cx => (cx.an 6)) fun cx hq => run_fieldAd rfl (by kernel_rfl) (mbv (cx.an 9) hq)
      · exact m2 rfl (fun _ _ _ h => h) (fun cx => (cx.an 6)) fun cx hq => run_load1 rfl (by kernel_rfl) (mbv (cx.an 10) hq) (At.eltc (f := cellsI) (k := 0) cellsI_len (hL.ext cx.upd.to_ext) hmdd.1 rfl)
      · exact m2 rfl (fun _ _ _ h => h) (fun cx => (cx.an 6)) fun cx hq => run_load1 rfl (by kernel_rfl) (mbv (cx.an 12) hq) ((cx.bi 2 rfl).cell 0)
    refine then_normal (wp_cond_false (show Act.eval _ _ = .bool false from rfl) (wp_skip (then_normal (wp_seq ?_))))
    rcases do1_cases hd5 with ⟨hs1, hs2, rfl⟩ | ⟨hs1, hs2, rfl⟩
    · skip
      refine wp_region_Y [0, 1, 0, 0, 12, 28, 60, 127, 255, 0, 0, 1536, 3584, 0, 16383, 0, 65535] [[], [2], [], [], [], [], [], [3], [3], [], [], [], [], [], [4], [], [6]] [[], [], [], [], [], [], [], [], [], [], [], [], [], [], [5], [6], [7]] [[], [], [], [], [], [], [], [], [], [], [], [], [], [], [], [], [6]] [.k 40 (vp B8_2), .c 41 (.slice OA Ps.length OC), .k 42 (.slice LA es.length lc), .k 43 (vi ((j : Int))), .c 44 (.pointer (some ((ad LA).add (j * 3)))), .c 45 (.pointer (some ((ad LA).add (j * 3 + 0)))), .c 46 (vi dd.1), .c 47 (.pointer (some ((ad OA).add (((dd.1).toNat) * 3)))), .c 48 (.agg #[vi pg.k, vi pg.l, .slice pg.A pg.its.length pg.c]), .k 49 (.slice LA es.length lc), .k 50 (vi ((j : Int))), .c 51 (.pointer (some ((ad LA).add (j * 3)))), .c 52 (.agg #[vi dd.1, vi dd.2.1, .string dd.2.2.1]), .k 53 (vi lsn), .a 54, .a 10, .n] (fun ix σ β X => match ix with | 0 => True | 1 => True | 2 => True | 3 => True | 4 => True | 5 => True | 6 => True | 7 => True | 8 => True | 9 => True | 10 => True | 11 => True | 12 => True | 13 => True | 14 => σ 54 = .agg #[vi 1, vi lsn, .slice (sA (tg (β 54) 2)) (([] : List Itm).length) (sC (tg (β 54) 2)), vi 0] ∧ X 5 = eO 9 1 (.slice (sA (tg (β 54) 2)) (([] : List Itm).length) (sC (tg (β 54) 2))) (([] : List Itm).length) (strs ([] : List Itm)) | 15 => σ 10 = vp (pb (β 10)) ∧ X 6 = eB (pb (β 10)) 102 #[vi 0, vi 0, .slice none 0 0, vi 0] | 16 => X 7 = eB (pb (β 10)) 102 #[vi 1, vi lsn, .slice (sA (tg (β 54) 2)) (([] : List Itm).length) (sC (tg (β 54) 2)), vi 0] | _ => True) [0, 1, 2, 3, 4, 5, 7] [1, 4, 5, 6, 7, 8, 11, 12, 14, 15, 16] [(10, 15, 1, 11), (29, 0, 15, 44)] hst9 ?_ ?_ ?_
      · exact fun ix _ _ _ _ _ _ hs hb hx h => match ix, h with
        | 14, h => by dsimp only at h ⊢; rw [← hs 54 rfl, ← hb 54 rfl, ← hx 5 rfl]; exact h
        | 15, h => by dsimp only at h ⊢; rw [← hs 10 rfl, ← hb 10 rfl, ← hx 6 rfl]; exact h
        | 16, h => by dsimp only at h ⊢; rw [← hb 10 rfl, ← hb 54 rfl, ← hx 7 rfl]; exact h
        | 0, _ | 1, _ | 2, _ | 3, _ | 4, _ | 5, _ | 6, _ | 7, _ | 8, _ | 9, _ | 10, _ | 11, _ | 12, _ | 13, _ | _ + 17, _ => trivial
      · refine ⟨?_, ?_, ?_, ?_, ?_, ?_, ?_, ?_, ?_, ?_, ?_, trivial⟩
        · exact xs4 rfl id fun cx => run_load1 rfl (by kernel_rfl) (cx.an 0) ((cx.bi 2 rfl).cell 0)
        · exact xs4 rfl id fun cx => run_indexSlM (e := 99) (m := j) (sz := 3) rfl (by kernel_rfl) (by kernel_rfl) (cx.an 2) (cx.an 3) (by omega) (by omega) (hL.ext cx.upd.to_ext) (by have h_ := flatLen (f := cellsI) (sz := 3) cellsI_len es; show 0 < (List.flatMap cellsI es).length; omega)
        · exact xs4 rfl id fun cx => run_fieldAd rfl (by kernel_rfl) (cx.an 4)
        · exact xs4 rfl id fun cx => run_load1 rfl (by kernel_rfl) (cx.an 5) (At.eltc (f := cellsI) (k := 0) cellsI_len (hL.ext cx.upd.to_ext) hmdd.1 rfl)
        · exact xs4 rfl id fun cx => run_indexSlM (e := 86) (m := (dd.1).toNat) (sz := 3) rfl (by kernel_rfl) (by kernel_rfl) (cx.an 1) (cx.an 6) (by omega) (by omega) (At.of_ownN (cx.ri 3 rfl)) (by have h_ := flatLen (f := pgC) (sz := 3) pgC_len Cs; show 0 < (List.flatMap pgC Cs).length; omega)
        · exact xs4 rfl id fun cx => run_loadElt (f := pgC) (m := ((dd.1).toNat)) (sz := 3) (off := 0) (n := 3) rfl (by kernel_rfl) (by kernel_rfl) (cx.an 7) rfl pgC_len (At.of_ownN (cx.ri 3 rfl)) hmpg.1 (fun k hk => match k, hk with | 0, _ => rfl | 1, _ => rfl | 2, _ => rfl | k + 3, hk => absurd hk (by omega))
        · exact xs4 rfl id fun cx => run_indexSlM (e := 99) (m := j) (sz := 3) rfl (by kernel_rfl) (by kernel_rfl) (cx.an 9) (cx.an 10) (by omega) (by omega) (hL.ext cx.upd.to_ext) (by have h_ := flatLen (f := cellsI) (sz := 3) cellsI_len es; show 0 < (List.flatMap cellsI es).length; omega)
        · exact xs4 rfl id fun cx => run_loadElt (f := cellsI) (m := j) (sz := 3) (off := 0) (n := 3) rfl (by kernel_rfl) (by kernel_rfl) (cx.an 11) rfl cellsI_len (hL.ext cx.upd.to_ext) hmdd.1 (fun k hk => match k, hk with | 0, _ => rfl | 1, _ => rfl | 2, _ => rfl | k + 3, hk => absurd hk (by omega))
        · refine sv_any rfl rfl fun ρ β W X cx => ?_
          refine DoesU.call (run_callF (args := #[.agg #[vi pg.k, vi pg.l, .slice pg.A pg.its.length pg.c], .agg #[vi dd.1, vi dd.2.1, .string dd.2.2.1], vi lsn]) rfl cx.sees rfl (by kernel_rfl) (map3 (cx.an 8) (cx.an 12) (cx.an 13))) ?_
          refine (rdo3_kind' hs1 hs2 (pgm_its (hP.ext cx.upd.to_ext) (CtxV.holdE cx (cx.init 4 _ rfl) rfl) hCs hmpg.2) hpok.1 (pgm_cap (hP.ext cx.upd.to_ext) (CtxV.holdE cx (cx.init 4 _ rfl) rfl) hCs hmpg.2) hl).mono ?_
          rintro e W1 ⟨A4, c4, rfl, ho, hx⟩
          refine ⟨_, rfl, post_call [eO 9 1 (.slice A4 (([] : List Itm).length) c4) (([] : List Itm).length) (strs ([] : List Itm))] rfl rfl hx (one_new (eO_new ho)) (List.pairwise_singleton _ _) (fun σ β' X' hs hb hv hN => ?_)⟩
          have hv1 := (hv 54 rfl).1; have hv2 := (hv 54 rfl).2
          exact ⟨hv1.trans (by rw [hv2]; rfl), (by rw [hv2]; exact (List.cons.inj hN).1)⟩
        · refine sv_any rfl rfl fun ρ β W X cx => ?_
          exact dv_alloc (cs := #[vi 0, vi 0, .slice none 0 0, vi 0]) rfl (by kernel_rfl) rfl rfl (fun σ β' X' hs hb hv hx => ⟨hv, hx⟩)
        · refine sv_any rfl rfl fun ρ β W X cx => ?_
          exact dv_store (n := 4) rfl (dTn (cx.an 15)).1 (dTn (cx.an 14)).1 (by kernel_rfl) (by kernel_rfl) (by kernel_rfl) cx (dTn (cx.an 15)).2 rfl (nle rfl) (by kernel_rfl) rfl rfl rfl (fun σ β' X' hs hb hx => by rw [hb 10, hb 54]; exact hx)
      intro σ β X W11 hD hst11 fr hfr
      obtain ⟨A54_11, hu_A54_11⟩ : ∃ z, sA (tg (β 54) 2) = z := ⟨_, rfl⟩
      obtain ⟨c54_11, hu_c54_11⟩ : ∃ z, sC (tg (β 54) 2) = z := ⟨_, rfl⟩
      obtain ⟨B10_11, hu_B10_11⟩ : ∃ z, pb (β 10) = z := ⟨_, rfl⟩
      simp only [exq 5 ((dTn (hD 14 lq)).2), exq 7 ((dTn (hD 16 lq))), hu_A54_11, hu_c54_11, hu_B10_11] at hst11
      simp only [ed 54 ((dTn (hD 14 lq)).1), ed 10 ((dTn (hD 15 lq)).1), hu_A54_11, hu_c54_11, hu_B10_11] at hfr
      clear hD hu_A54_11 hu_c54_11 hu_B10_11; subst hfr; clear σ β X
      refine then_normal (wp_seq (wp_seq (wp_region_Z [0, 1, 3] [[], [6]] [.k 55 (.pointer (some ⟨B10_11, 3, none⟩)), .c 56 (vi 0), .k 57 (.bool false)] [0, 1, 2, 3, 4, 5, 6] [1] [(55, 0, 3, 58)] hst11 ?_ fun W12 hst12 => ?_)))
      · refine ⟨?_, trivial⟩
        · exact xs4 rfl id fun cx => run_load1 rfl (by kernel_rfl) (cx.an 0) ((cx.bi 6 rfl).cell 3)
      refine then_normal (wp_cond_false (show Act.eval _ _ = .bool false from rfl) (wp_skip (then_normal (wp_region_Y [0, 1, 0, 0, 12, 28, 60, 0, 128, 511, 1023] [[], [2], [], [], [], [], [], [], [6], [3], [3]] [[], [], [], [], [], [], [], [], [], [], [7]] [[], [], [], [], [], [], [], [], [], [], [3]] [.k 59 (vp B8_2), .c 60 (.slice OA Ps.length OC), .k 61 (.slice LA es.length lc), .k 62 (vi ((j : Int))), .c 63 (.pointer (some ((ad LA).add (j * 3)))), .c 64 (.pointer (some ((ad LA).add (j * 3 + 0)))), .c 65 (vi dd.1), .k 66 (vp B10_11), .c 67 (.agg #[vi 1, vi lsn, .slice A54_11 (([] : List Itm).length) c54_11]), .c 68 (.pointer (some ((ad OA).add (((dd.1).toNat) * 3)))), .n] (fun ix σ β X => match ix with | 0 => True | 1 => True | 2 => True | 3 => True | 4 => True | 5 => True | 6 => True | 7 => True | 8 => True | 9 => True | 10 => X 7 = eO 86 3 (.slice OA Ps.length OC) Ps.length ((Cs.set (dd.1).toNat (PgD.mk 1 lsn A54_11 c54_11 ([] : List Itm))).flatMap pgC) | _ => True) [0, 1, 2, 4, 5, 6, 7] [1, 4, 5, 6, 8, 9, 10] [(59, 0, 10, 69)] hst12 ?_ ?_ ?_))))
      · exact fun ix _ _ _ _ _ _ hs hb hx h => match ix, h with
        | 10, h => by dsimp only at h ⊢; rw [← hx 7 rfl]; exact h
        | 0, _ | 1, _ | 2, _ | 3, _ | 4, _ | 5, _ | 6, _ | 7, _ | 8, _ | 9, _ | _ + 11, _ => trivial
      · refine ⟨?_, ?_, ?_, ?_, ?_, ?_, ?_, trivial⟩
        · exact xs4 rfl id fun cx => run_load1 rfl (by kernel_rfl) (cx.an 0) ((cx.bi 2 rfl).cell 0)
        · exact xs4 rfl id fun cx => run_indexSlM (e := 99) (m := j) (sz := 3) rfl (by kernel_rfl) (by kernel_rfl) (cx.an 2) (cx.an 3) (by omega) (by omega) (hL.ext cx.upd.to_ext) (by have h_ := flatLen (f := cellsI) (sz := 3) cellsI_len es; show 0 < (List.flatMap cellsI es).length; omega)
        · exact xs4 rfl id fun cx => run_fieldAd rfl (by kernel_rfl) (cx.an 4)
        · exact xs4 rfl id fun cx => run_load1 rfl (by kernel_rfl) (cx.an 5) (At.eltc (f := cellsI) (k := 0) cellsI_len (hL.ext cx.upd.to_ext) hmdd.1 rfl)
        · exact xs4 rfl id fun cx => run_loadB (n := 3) rfl (by kernel_rfl) (by kernel_rfl) (cx.an 7) (cx.bi 6 rfl) (nle rfl) rfl
        · exact xs4 rfl id fun cx => run_indexSlM (e := 86) (m := (dd.1).toNat) (sz := 3) rfl (by kernel_rfl) (by kernel_rfl) (cx.an 1) (cx.an 6) (by omega) (by omega) (At.of_ownN (cx.ri 3 rfl)) (by have h_ := flatLen (f := pgC) (sz := 3) pgC_len Cs; show 0 < (List.flatMap pgC Cs).length; omega)
        · refine sv_any rfl rfl fun ρ β W X cx => ?_
          exact dv_storeElt (m := ((dd.1).toNat) * 3) (n := Ps.length) (sz := 3) (k := 3) rfl (cx.an 9) (cx.an 8) (by kernel_rfl) (by kernel_rfl) (by kernel_rfl) cx (cx.init 3 _ rfl) rfl (by omega) (by decide) rfl (putL_flat pgC_len (by omega) (PgD.mk 1 lsn A54_11 c54_11 ([] : List Itm))) rfl rfl (fun σ β' X' hs hb hx => hx)
      intro σ β X W13 hD hst13 fr hfr
      simp only [exq 7 ((dTn (hD 10 lq)))] at hst13
      clear hD; subst hfr; clear σ β X
      refine blk_normal (then_normal (wp_region_P [0, 1, 3] [.k 20 (vi ((j : Int))), tI 21 ((j : Int) + 1) (by omega), .k 9 (vi ((j : Int) + 1))] [(9, 2, 1, 10), (10, 0, 2, 12)] hst13 fun W14 hst14 => ?_))
      refine then_normal ?_
      have hm15 := St.mergeP (Ps := Qs) (p := (PgD.mk 1 lsn A54_11 c54_11 ([] : List Itm))) (L := [eB B3_1 30 #[.slice ((some pa)) Ps.length pc], eB B6_1 30 #[.slice none 0 0], eB B8_2 30 #[.slice OA Ps.length OC], eB B10_11 102 #[vi 1, vi lsn, .slice A54_11 (([] : List Itm).length) c54_11, vi 0], eO 86 3 (.slice OA Ps.length OC) Ps.length ((Cs.set (dd.1).toNat (PgD.mk 1 lsn A54_11 c54_11 ([] : List Itm))).flatMap pgC)]) (hst14.pick [0, 1, 2, 5, 6, 3, 4] (by decide) rfl)
      refine ⟨es.length - ((j + 1)), by omega, ?_⟩
      have hp16 := hm15.pick [0, 1, 2, 4, 5] (by decide) rfl
      exact ⟨(j + 1), (Cs.set (dd.1).toNat (PgD.mk 1 lsn A54_11 c54_11 ([] : List Itm))), (Qs ++ [(PgD.mk 1 lsn A54_11 c54_11 ([] : List Itm))]), OA, OC, by omega, by rw [List.length_set]; exact hCl, mem_set_new hCs _ _, by rw [map_set']; exact hr5, by rw [map_set']; exact hokC.set h5ok, rfl, (by kernel_rfl), hp16⟩
    · skip
      refine wp_region_Y [0, 1, 0, 0, 12, 28, 60, 127, 255, 0, 0, 1536, 3584, 0, 16383, 0, 65535] [[], [2], [], [], [], [], [], [3], [3], [], [], [], [], [], [4], [], [6]] [[], [], [], [], [], [], [], [], [], [], [], [], [], [], [5], [6], [7]] [[], [], [], [], [], [], [], [], [], [], [], [], [], [], [], [], [6]] [.k 40 (vp B8_2), .c 41 (.slice OA Ps.length OC), .k 42 (.slice LA es.length lc), .k 43 (vi ((j : Int))), .c 44 (.pointer (some ((ad LA).add (j * 3)))), .c 45 (.pointer (some ((ad LA).add (j * 3 + 0)))), .c 46 (vi dd.1), .c 47 (.pointer (some ((ad OA).add (((dd.1).toNat) * 3)))), .c 48 (.agg #[vi pg.k, vi pg.l, .slice pg.A pg.its.length pg.c]), .k 49 (.slice LA es.length lc), .k 50 (vi ((j : Int))), .c 51 (.pointer (some ((ad LA).add (j * 3)))), .c 52 (.agg #[vi dd.1, vi dd.2.1, .string dd.2.2.1]), .k 53 (vi lsn), .a 54, .a 10, .n] (fun ix σ β X => match ix with | 0 => True | 1 => True | 2 => True | 3 => True | 4 => True | 5 => True | 6 => True | 7 => True | 8 => True | 9 => True | 10 => True | 11 => True | 12 => True | 13 => True | 14 => σ 54 = .agg #[vi pg.k, vi lsn, .slice (sA (tg (β 54) 2)) ((putI pg.its dd.2.1.toNat dd.2.2).length) (sC (tg (β 54) 2)), vi 0] ∧ X 5 = eO 9 1 (.slice (sA (tg (β 54) 2)) ((putI pg.its dd.2.1.toNat dd.2.2).length) (sC (tg (β 54) 2))) ((putI pg.its dd.2.1.toNat dd.2.2).length) (strs (putI pg.its dd.2.1.toNat dd.2.2)) | 15 => σ 10 = vp (pb (β 10)) ∧ X 6 = eB (pb (β 10)) 102 #[vi 0, vi 0, .slice none 0 0, vi 0] | 16 => X 7 = eB (pb (β 10)) 102 #[vi pg.k, vi lsn, .slice (sA (tg (β 54) 2)) ((putI pg.its dd.2.1.toNat dd.2.2).length) (sC (tg (β 54) 2)), vi 0] | _ => True) [0, 1, 2, 3, 4, 5, 7] [1, 4, 5, 6, 7, 8, 11, 12, 14, 15, 16] [(10, 15, 1, 11), (29, 0, 15, 44)] hst9 ?_ ?_ ?_
      · exact fun ix _ _ _ _ _ _ hs hb hx h => match ix, h with
        | 14, h => by dsimp only at h ⊢; rw [← hs 54 rfl, ← hb 54 rfl, ← hx 5 rfl]; exact h
        | 15, h => by dsimp only at h ⊢; rw [← hs 10 rfl, ← hb 10 rfl, ← hx 6 rfl]; exact h
        | 16, h => by dsimp only at h ⊢; rw [← hb 10 rfl, ← hb 54 rfl, ← hx 7 rfl]; exact h
        | 0, _ | 1, _ | 2, _ | 3, _ | 4, _ | 5, _ | 6, _ | 7, _ | 8, _ | 9, _ | 10, _ | 11, _ | 12, _ | 13, _ | _ + 17, _ => trivial
      · refine ⟨?_, ?_, ?_, ?_, ?_, ?_, ?_, ?_, ?_, ?_, ?_, trivial⟩
        · exact xs4 rfl id fun cx => run_load1 rfl (by kernel_rfl) (cx.an 0) ((cx.bi 2 rfl).cell 0)
        · exact xs4 rfl id fun cx => run_indexSlM (e := 99) (m := j) (sz := 3) rfl (by kernel_rfl) (by kernel_rfl) (cx.an 2) (cx.an 3) (by omega) (by omega) (hL.ext cx.upd.to_ext) (by have h_ := flatLen (f := cellsI) (sz := 3) cellsI_len es; show 0 < (List.flatMap cellsI es).length; omega)
        · exact xs4 rfl id fun cx => run_fieldAd rfl (by kernel_rfl) (cx.an 4)
        · exact xs4 rfl id fun cx => run_load1 rfl (by kernel_rfl) (cx.an 5) (At.eltc (f := cellsI) (k := 0) cellsI_len (hL.ext cx.upd.to_ext) hmdd.1 rfl)
        · exact xs4 rfl id fun cx => run_indexSlM (e := 86) (m := (dd.1).toNat) (sz := 3) rfl (by kernel_rfl) (by kernel_rfl) (cx.an 1) (cx.an 6) (by omega) (by omega) (At.of_ownN (cx.ri 3 rfl)) (by have h_ := flatLen (f := pgC) (sz := 3) pgC_len Cs; show 0 < (List.flatMap pgC Cs).length; omega)
        · exact xs4 rfl id fun cx => run_loadElt (f := pgC) (m := ((dd.1).toNat)) (sz := 3) (off := 0) (n := 3) rfl (by kernel_rfl) (by kernel_rfl) (cx.an 7) rfl pgC_len (At.of_ownN (cx.ri 3 rfl)) hmpg.1 (fun k hk => match k, hk with | 0, _ => rfl | 1, _ => rfl | 2, _ => rfl | k + 3, hk => absurd hk (by omega))
        · exact xs4 rfl id fun cx => run_indexSlM (e := 99) (m := j) (sz := 3) rfl (by kernel_rfl) (by kernel_rfl) (cx.an 9) (cx.an 10) (by omega) (by omega) (hL.ext cx.upd.to_ext) (by have h_ := flatLen (f := cellsI) (sz := 3) cellsI_len es; show 0 < (List.flatMap cellsI es).length; omega)
        · exact xs4 rfl id fun cx => run_loadElt (f := cellsI) (m := j) (sz := 3) (off := 0) (n := 3) rfl (by kernel_rfl) (by kernel_rfl) (cx.an 11) rfl cellsI_len (hL.ext cx.upd.to_ext) hmdd.1 (fun k hk => match k, hk with | 0, _ => rfl | 1, _ => rfl | 2, _ => rfl | k + 3, hk => absurd hk (by omega))
        · refine sv_any rfl rfl fun ρ β W X cx => ?_
          refine DoesU.call (run_callF (args := #[.agg #[vi pg.k, vi pg.l, .slice pg.A pg.its.length pg.c], .agg #[vi dd.1, vi dd.2.1, .string dd.2.2.1], vi lsn]) rfl cx.sees rfl (by kernel_rfl) (map3 (cx.an 8) (cx.an 12) (cx.an 13))) ?_
          refine (rdo3_put _ _ _ _ _ _ dd.2.1 dd.2.2.1 dd.2.2.2 _ _ (pgm_its (hP.ext cx.upd.to_ext) (CtxV.holdE cx (cx.init 4 _ rfl) rfl) hCs hmpg.2) hpok.1 (pgm_cap (hP.ext cx.upd.to_ext) (CtxV.holdE cx (cx.init 4 _ rfl) rfl) hCs hmpg.2) hl (by omega) hs2 hs1).mono ?_
          rintro e W1 ⟨A4, c4, rfl, ho, hx⟩
          refine ⟨_, rfl, post_call [eO 9 1 (.slice A4 ((putI pg.its dd.2.1.toNat dd.2.2).length) c4) ((putI pg.its dd.2.1.toNat dd.2.2).length) (strs (putI pg.its dd.2.1.toNat dd.2.2))] rfl rfl hx (one_new (eO_new ho)) (List.pairwise_singleton _ _) (fun σ β' X' hs hb hv hN => ?_)⟩
          have hv1 := (hv 54 rfl).1; have hv2 := (hv 54 rfl).2
          exact ⟨hv1.trans (by rw [hv2]; rfl), (by rw [hv2]; exact (List.cons.inj hN).1)⟩
        · refine sv_any rfl rfl fun ρ β W X cx => ?_
          exact dv_alloc (cs := #[vi 0, vi 0, .slice none 0 0, vi 0]) rfl (by kernel_rfl) rfl rfl (fun σ β' X' hs hb hv hx => ⟨hv, hx⟩)
        · refine sv_any rfl rfl fun ρ β W X cx => ?_
          exact dv_store (n := 4) rfl (dTn (cx.an 15)).1 (dTn (cx.an 14)).1 (by kernel_rfl) (by kernel_rfl) (by kernel_rfl) cx (dTn (cx.an 15)).2 rfl (nle rfl) (by kernel_rfl) rfl rfl rfl (fun σ β' X' hs hb hx => by rw [hb 10, hb 54]; exact hx)
      intro σ β X W17 hD hst17 fr hfr
      obtain ⟨A54_17, hu_A54_17⟩ : ∃ z, sA (tg (β 54) 2) = z := ⟨_, rfl⟩
      obtain ⟨c54_17, hu_c54_17⟩ : ∃ z, sC (tg (β 54) 2) = z := ⟨_, rfl⟩
      obtain ⟨B10_17, hu_B10_17⟩ : ∃ z, pb (β 10) = z := ⟨_, rfl⟩
      simp only [exq 5 ((dTn (hD 14 lq)).2), exq 7 ((dTn (hD 16 lq))), hu_A54_17, hu_c54_17, hu_B10_17] at hst17
      simp only [ed 54 ((dTn (hD 14 lq)).1), ed 10 ((dTn (hD 15 lq)).1), hu_A54_17, hu_c54_17, hu_B10_17] at hfr
      clear hD hu_A54_17 hu_c54_17 hu_B10_17; subst hfr; clear σ β X
      refine then_normal (wp_seq (wp_seq (wp_region_Z [0, 1, 3] [[], [6]] [.k 55 (.pointer (some ⟨B10_17, 3, none⟩)), .c 56 (vi 0), .k 57 (.bool false)] [0, 1, 2, 3, 4, 5, 6] [1] [(55, 0, 3, 58)] hst17 ?_ fun W18 hst18 => ?_)))
      · refine ⟨?_, trivial⟩
        · exact xs4 rfl id fun cx => run_load1 rfl (by kernel_rfl) (cx.an 0) ((cx.bi 6 rfl).cell 3)
      refine then_normal (wp_cond_false (show Act.eval _ _ = .bool false from rfl) (wp_skip (then_normal (wp_region_Y [0, 1, 0, 0, 12, 28, 60, 0, 128, 511, 1023] [[], [2], [], [], [], [], [], [], [6], [3], [3]] [[], [], [], [], [], [], [], [], [], [], [7]] [[], [], [], [], [], [], [], [], [], [], [3]] [.k 59 (vp B8_2), .c 60 (.slice OA Ps.length OC), .k 61 (.slice LA es.length lc), .k 62 (vi ((j : Int))), .c 63 (.pointer (some ((ad LA).add (j * 3)))), .c 64 (.pointer (some ((ad LA).add (j * 3 + 0)))), .c 65 (vi dd.1), .k 66 (vp B10_17), .c 67 (.agg #[vi pg.k, vi lsn, .slice A54_17 ((putI pg.its dd.2.1.toNat dd.2.2).length) c54_17]), .c 68 (.pointer (some ((ad OA).add (((dd.1).toNat) * 3)))), .n] (fun ix σ β X => match ix with | 0 => True | 1 => True | 2 => True | 3 => True | 4 => True | 5 => True | 6 => True | 7 => True | 8 => True | 9 => True | 10 => X 7 = eO 86 3 (.slice OA Ps.length OC) Ps.length ((Cs.set (dd.1).toNat (PgD.mk pg.k lsn A54_17 c54_17 (putI pg.its dd.2.1.toNat dd.2.2))).flatMap pgC) | _ => True) [0, 1, 2, 4, 5, 6, 7] [1, 4, 5, 6, 8, 9, 10] [(59, 0, 10, 69)] hst18 ?_ ?_ ?_))))
      · exact fun ix _ _ _ _ _ _ hs hb hx h => match ix, h with
        | 10, h => by dsimp only at h ⊢; rw [← hx 7 rfl]; exact h
        | 0, _ | 1, _ | 2, _ | 3, _ | 4, _ | 5, _ | 6, _ | 7, _ | 8, _ | 9, _ | _ + 11, _ => trivial
      · refine ⟨?_, ?_, ?_, ?_, ?_, ?_, ?_, trivial⟩
        · exact xs4 rfl id fun cx => run_load1 rfl (by kernel_rfl) (cx.an 0) ((cx.bi 2 rfl).cell 0)
        · exact xs4 rfl id fun cx => run_indexSlM (e := 99) (m := j) (sz := 3) rfl (by kernel_rfl) (by kernel_rfl) (cx.an 2) (cx.an 3) (by omega) (by omega) (hL.ext cx.upd.to_ext) (by have h_ := flatLen (f := cellsI) (sz := 3) cellsI_len es; show 0 < (List.flatMap cellsI es).length; omega)
        · exact xs4 rfl id fun cx => run_fieldAd rfl (by kernel_rfl) (cx.an 4)
        · exact xs4 rfl id fun cx => run_load1 rfl (by kernel_rfl) (cx.an 5) (At.eltc (f := cellsI) (k := 0) cellsI_len (hL.ext cx.upd.to_ext) hmdd.1 rfl)
        · exact xs4 rfl id fun cx => run_loadB (n := 3) rfl (by kernel_rfl) (by kernel_rfl) (cx.an 7) (cx.bi 6 rfl) (nle rfl) rfl
        · exact xs4 rfl id fun cx => run_indexSlM (e := 86) (m := (dd.1).toNat) (sz := 3) rfl (by kernel_rfl) (by kernel_rfl) (cx.an 1) (cx.an 6) (by omega) (by omega) (At.of_ownN (cx.ri 3 rfl)) (by have h_ := flatLen (f := pgC) (sz := 3) pgC_len Cs; show 0 < (List.flatMap pgC Cs).length; omega)
        · refine sv_any rfl rfl fun ρ β W X cx => ?_
          exact dv_storeElt (m := ((dd.1).toNat) * 3) (n := Ps.length) (sz := 3) (k := 3) rfl (cx.an 9) (cx.an 8) (by kernel_rfl) (by kernel_rfl) (by kernel_rfl) cx (cx.init 3 _ rfl) rfl (by omega) (by decide) rfl (putL_flat pgC_len (by omega) (PgD.mk pg.k lsn A54_17 c54_17 (putI pg.its dd.2.1.toNat dd.2.2))) rfl rfl (fun σ β' X' hs hb hx => hx)
      intro σ β X W19 hD hst19 fr hfr
      simp only [exq 7 ((dTn (hD 10 lq)))] at hst19
      clear hD; subst hfr; clear σ β X
      refine blk_normal (then_normal (wp_region_P [0, 1, 3] [.k 20 (vi ((j : Int))), tI 21 ((j : Int) + 1) (by omega), .k 9 (vi ((j : Int) + 1))] [(9, 2, 1, 10), (10, 0, 2, 12)] hst19 fun W20 hst20 => ?_))
      refine then_normal ?_
      have hm21 := St.mergeP (Ps := Qs) (p := (PgD.mk pg.k lsn A54_17 c54_17 (putI pg.its dd.2.1.toNat dd.2.2))) (L := [eB B3_1 30 #[.slice ((some pa)) Ps.length pc], eB B6_1 30 #[.slice none 0 0], eB B8_2 30 #[.slice OA Ps.length OC], eB B10_17 102 #[vi pg.k, vi lsn, .slice A54_17 ((putI pg.its dd.2.1.toNat dd.2.2).length) c54_17, vi 0], eO 86 3 (.slice OA Ps.length OC) Ps.length ((Cs.set (dd.1).toNat (PgD.mk pg.k lsn A54_17 c54_17 (putI pg.its dd.2.1.toNat dd.2.2))).flatMap pgC)]) (hst20.pick [0, 1, 2, 5, 6, 3, 4] (by decide) rfl)
      refine ⟨es.length - ((j + 1)), by omega, ?_⟩
      have hp22 := hm21.pick [0, 1, 2, 4, 5] (by decide) rfl
      exact ⟨(j + 1), (Cs.set (dd.1).toNat (PgD.mk pg.k lsn A54_17 c54_17 (putI pg.its dd.2.1.toNat dd.2.2))), (Qs ++ [(PgD.mk pg.k lsn A54_17 c54_17 (putI pg.its dd.2.1.toNat dd.2.2))]), OA, OC, by omega, by rw [List.length_set]; exact hCl, mem_set_new hCs _ _, by rw [map_set']; exact hr5, by rw [map_set']; exact hokC.set h5ok, rfl, (by kernel_rfl), hp22⟩
  have hs8p : ¬ ((j : Int) < (es.length : Int)) := by simpa using hs8
  refine wp_cond_false (show Act.eval _ _ = .bool false from (congrArg Value.bool hs8)) (wp_exit (then_exit (then_exit (blk_eq (then_normal (wp_seq (wp_region_Y [0, 1, 3] [[2], [1]] [[], [5]] [[], [1]] [.c 69 (.agg #[.slice OA Ps.length OC]), .n, .k 7 (.bool true)] (fun ix σ β X => match ix with | 0 => True | 1 => X 5 = eB B6_1 30 #[.slice OA Ps.length OC] | _ => True) [0, 2, 3, 4, 5] [0, 1] [(7, 2, 1, 8), (61, 0, 1, 62)] hst7 ?_ ?_ ?_)))))))
  · exact fun ix _ _ _ _ _ _ hs hb hx h => match ix, h with
    | 1, h => by dsimp only at h ⊢; rw [← hx 5 rfl]; exact h
    | 0, _ | _ + 2, _ => trivial
  · refine ⟨?_, ?_, trivial⟩
    · exact xs4 rfl id fun cx => run_loadB (n := 1) rfl (by kernel_rfl) (by kernel_rfl) (cx.ou 8) (cx.bi 2 rfl) (nle rfl) rfl
    · refine sv_any rfl rfl fun ρ β W X cx => ?_
      exact dv_store (n := 1) rfl (cx.ou 6) (cx.an 0) (by kernel_rfl) (by kernel_rfl) (by kernel_rfl) cx (cx.init 1 _ rfl) rfl (nle rfl) (by kernel_rfl) rfl rfl rfl (fun σ β' X' hs hb hx => hx)
  intro σ β X W23 hD hst23 fr hfr
  simp only [exq 5 ((dTn (hD 1 lq)))] at hst23
  clear hD; subst hfr; clear σ β X
  refine then_normal (wp_ret ?_)
  have hr24 : W23.cell? ⟨B6_1, 0, none⟩ = some (.slice OA Ps.length OC) := (hst23.blk 4 rfl).cell 0
  refine bodyPost_ret (v := .tuple #[.agg #[.slice OA Ps.length OC], .bool true]) (by simp [results, Tryd.results10, go_sem, hr24]) rfl ?_
  exact St.done (by rw [List.drop_of_length_le (by omega)] at hdj; exact Option.some.inj hdj) hCs (hst23.pick [3, 2] (by decide) rfl)
theorem PgsAt.some {w : World} {A : Option Addr} {Ps : List PgD} (h : PgsAt w A Ps) (h0 : 0 < Ps.length) : ∃ a, A = some a := by
  have hl := pgC_flat Ps
  obtain ⟨a, ha, _⟩ := h.at_ 0 _ (List.getElem?_eq_getElem (by omega : 0 < (Ps.flatMap pgC).length))
  exact ⟨a, ha⟩
/-- Do, the edits with what they say -/
theorem rdo9_n {PA LA : Option Addr} {pc lc n m : Nat} {Ps : List PgD} {es : List EdI} {lsn : Int} {H' : List PgI} {w : World} (hn : Ps.length = n) (hm : es.length = m) (h0 : 0 < n) (hP : PgsAt w PA Ps) (hL : At w LA (es.flatMap cellsI)) (hel : m ≤ 100000) (hed : ∀ e ∈ es, Desc e.2.2.1 e.2.2.2) (hl : 0 ≤ lsn ∧ lsn ≤ 2147483647) (hok : okH (Ps.map absP)) (hdo : doL lsn (Ps.map absP) es = some H') :
    Calls Tryd.prog 10 #[.agg #[.slice PA n pc], .slice LA m lc, .int .i64 lsn] w (DoPost Ps H' n w) := by
  subst hn hm
  obtain ⟨a, rfl⟩ := hP.some h0
  exact rdo9_any a pc Ps LA lc es lsn H' w hP hL hel hed hl hok hdo
end
end Go.Proofs.YtjnplglnnamfdaaDoor
namespace Go.Proofs.YtjnplglnnamfdaaDoor
section
open Go.RowKit
set_option linter.unusedVariables false
set_option linter.unusedSimpArgs false
theorem madeCells_cons (z : Array Value) (hz : 0 < z.size) (n : Nat) : (madeCells z ((n + 1) * z.size)).toList = z.toList ++ (madeCells z (n * z.size)).toList := by
  apply List.ext_getElem?
  intro j
  have e : ∀ m j, (madeCells z m).toList[j]? = if j < m then some (z[j % z.size]!) else none := fun m j => by
    by_cases h : j < m
    · rw [if_pos h]; simp [madeCells, h]
    · rw [if_neg h]; simp [madeCells, h]
  have hm : (n + 1) * z.size = z.size + n * z.size := by rw [Nat.add_mul]; omega
  rw [e, hm]
  by_cases h : j < z.size
  · rw [if_pos (by omega), List.getElem?_append_left (by simpa using h), Nat.mod_eq_of_lt h]
    simp [h]
  · rw [List.getElem?_append_right (by simpa using h), Array.length_toList, e]
    by_cases h2 : j < z.size + n * z.size
    · rw [if_pos h2, if_pos (by omega), Nat.mod_eq_sub_mod (by omega)]
    · rw [if_neg h2, if_neg (by omega)]
theorem madeCells_flat {T : Type} (f : T → List Value) (t : T) (z : Array Value) (hz : z.toList = f t) (h0 : 0 < z.size) (n : Nat) : (madeCells z (n * z.size)).toList = (List.replicate n t).flatMap f := by
  induction n with
  | zero =>
    rw [Nat.zero_mul]
    have : (madeCells z 0).toList.length = 0 := by rw [Array.length_toList, size_madeCells]
    rw [List.eq_nil_of_length_eq_zero this]; rfl
  | succ n ih => rw [madeCells_cons z h0, ih, List.replicate_succ, List.flatMap_cons, hz]
section
variable {P : Program} {ops : Array Oper} {L : List Nat} {a0 : Act} {w0 : World} {bor : List Nat} {X0 : List Ent} {us cr kl : List (List Nat)}
  {D : Nat → (Tmp → Value) → (Tmp → Value) → (Nat → Ent) → Prop} {i : Nat} {o : Oper} {ρ : Operand → Value} {β : Tmp → Value} {W : World} {X : Nat → Ent}
theorem dv_makeN {t e : TypeId} {x y : Operand} {k k' : IntKind} {n sz : Nat} {j j' : Int} {d : Tmp} {q : Nat} {inf : TypeInfo} {z : Value} {bytes : Nat} {xs : List Value} (h : o.op = .makeSlice t x y) (ht : P.underlying t = some (.slice e)) (hi : P.info? e = some inf) (hz : inf.zero = some z) (hsize : inf.size = sz) (hby : inf.bytes = bytes)
    (hx : ρ x = .int k j) (hy : ρ y = .int k' j') (hj : j = (n : Int)) (hj' : j' = (n : Int)) (hn : n * sz ≤ 16777216) (hb : bytes * n ≤ 281474976710656) (hml : n ≤ maxLen) (hxs : (madeCells z.cells (n * sz)).toList = xs) (hd : o.dst = some d) (hc : atV cr i = [q])
    (hD : ∀ (σ β' : Tmp → Value) (X' : Nat → Ent), (∀ t, t ≠ d → σ t = ρ (.tmp t)) → (∀ t, t ≠ d → β' t = β t) → σ d = .slice (sA (β' d)) n n → X' q = eO e sz (.slice (sA (β' d)) n n) n xs → D i σ β' X') :
    DoesU P o ρ W (PostV cr kl D i o.dst ρ β W X) := by
  subst hj; subst hj'; subst hby; subst hsize; subst hxs
  obtain ⟨W', hrun, ho, hg⟩ := run_makeSlice_full (P := P) W W.heap.size t e inf z inf.size ht hi hz rfl k k' n hn hb hml (Nat.le_refl _)
  have hr : (execOp ρ o).run P W = .ok (.value (.slice (some ⟨W.heap.size, 0, none⟩) n n)) W' := by
    unfold execOp; rw [h]
    simp only [hx, hy, Sem.run_bind, hrun, Result.andThen_ok, Sem.run_pure]
  refine DoesU.value hr ⟨[eO e inf.size (.slice (some ⟨W.heap.size, 0, none⟩) n n) n (madeCells z.cells (n * inf.size)).toList], by rw [hc]; rfl, ⟨(Upd.refl _ W).grown hg (fun k hk => by cases hk), fun e' he => ?_, List.pairwise_singleton _ _⟩, fun σ β' X' hs' hv hb hbv hx' hN => hD σ β' X' (fun t ht => hs' t (by rw [hd]; simpa using ht.symm)) (fun t ht => hb t (by rw [hd]; simpa using ht.symm)) ?_ ?_⟩
  · rw [List.mem_singleton] at he
    subst he
    obtain ⟨h1, h2, h3⟩ := eO_new ho
    exact ⟨h1, h2, fun k hk => ⟨.inr (h3 k hk).1, (h3 k hk).2⟩⟩
  · rw [hv d hd, hbv d hd]; rfl
  · rw [hbv d hd]
    rw [hc] at hN
    exact (List.cons.inj hN).1
end
theorem pg_zero (n : Nat) : (madeCells (Value.agg #[.int .i64 0, .int .i64 0, .slice none 0 0]).cells (n * 3)).toList = (List.replicate n p0).flatMap pgC := madeCells_flat pgC p0 #[.int .i64 0, .int .i64 0, .slice none 0 0] rfl (by decide) n
def FreePost (n : Nat) (w : World) (e : Ending) (w' : World) : Prop := ∃ A, e = .returned (.agg #[.slice A n n]) ∧ w'.ownsRow w.heap.size 86 3 (.slice A n n) n ((List.replicate n p0).flatMap pgC) ∧ Ext w w'
theorem free_at {W : World} {A : Option Addr} {n : Nat} (h : At W A ((List.replicate n p0).flatMap pgC)) (hn : n ≤ 1000) : PgsAt W A (List.replicate n p0) :=
  ⟨h, by rw [List.length_replicate]; exact hn, fun p hp => by
    obtain ⟨_, rfl⟩ := List.mem_replicate.1 hp
    exact ⟨At.nil _ _, Nat.zero_le _, Nat.zero_le _, fun i hi => by cases hi⟩⟩
theorem free_ok (n : Nat) : okH ((List.replicate n p0).map absP) := fun p hp => by
  rw [List.map_replicate] at hp
  obtain ⟨_, rfl⟩ := List.mem_replicate.1 hp
  exact ⟨by decide, fun i hi => by cases hi⟩
set_option maxRecDepth 100000 in
set_option maxHeartbeats 2000000 in
theorem free09_any (n : Nat) (w : World) (hn : n ≤ 1000) :
    Calls Tryd.prog 16 #[.int .i64 ((n : Int))] w (FreePost n w) := by
  go_enter Tryd.func16, Tryd.ntmps16
  have hst0 := St.start w
  refine wp_seq (wp_region_Y [0] [] [[0]] [] [.a 2] (fun ix σ β X => match ix with | 0 => σ 2 = vp (pb (β 2)) ∧ X 0 = eB (pb (β 2)) 30 #[.slice none 0 0] | _ => True) [0] [0] [(2, 0, 1, 3)] hst0 ?_ ?_ ?_)
  · exact fun ix _ _ _ _ _ _ hs hb hx h => match ix, h with
    | 0, h => by dsimp only at h ⊢; rw [← hs 2 rfl, ← hb 2 rfl, ← hx 0 rfl]; exact h
    | _ + 1, _ => trivial
  · refine ⟨?_, trivial⟩
    · refine sv_any rfl rfl fun ρ β W X cx => ?_
      exact dv_alloc (cs := #[.slice none 0 0]) rfl (by kernel_rfl) rfl rfl (fun σ β' X' hs hb hv hx => ⟨hv, hx⟩)
  intro σ β X W1 hD hst1 fr hfr
  obtain ⟨B2_1, hu_B2_1⟩ : ∃ z, pb (β 2) = z := ⟨_, rfl⟩
  simp only [exq 0 ((dTn (hD 0 lq)).2), hu_B2_1] at hst1
  simp only [ed 2 ((dTn (hD 0 lq)).1), hu_B2_1] at hfr
  clear hD hu_B2_1; subst hfr; clear σ β X
  refine then_normal (wp_seq (wp_region_Y [0, 1, 3, 7] [[], [], [], [0]] [[], [1], [], [2]] [[], [], [], [0]] [.k 3 (vi ((n : Int))), .a 4, .a 5, .n] (fun ix σ β X => match ix with | 0 => True | 1 => σ 4 = .slice (sA (β 4)) n n ∧ X 1 = eO 86 3 (.slice (sA (β 4)) n n) n ((List.replicate n p0).flatMap pgC) | 2 => σ 5 = .agg #[.slice (sA (β 4)) n n] | 3 => X 2 = eB B2_1 30 #[.slice (sA (β 4)) n n] | _ => True) [1, 2] [1, 2, 3] [(3, 0, 3, 6)] hst1 ?_ ?_ ?_))
  · exact fun ix _ _ _ _ _ _ hs hb hx h => match ix, h with
    | 1, h => by dsimp only at h ⊢; rw [← hs 4 rfl, ← hb 4 rfl, ← hx 1 rfl]; exact h
    | 2, h => by dsimp only at h ⊢; rw [← hs 5 rfl, ← hb 4 rfl]; exact h
    | 3, h => by dsimp only at h ⊢; rw [← hb 4 rfl, ← hx 2 rfl]; exact h
    | 0, _ | _ + 4, _ => trivial
  · refine ⟨?_, ?_, ?_, trivial⟩
    · refine sv_any rfl rfl fun ρ β W X cx => ?_
      obtain ⟨i0, hi0, hz0, hz1, hz2⟩ := info_parts Tryd.infoPage
      exact dv_makeN (n := n) (sz := 3) rfl (by kernel_rfl) hi0 hz0 hz1 hz2 (cx.an 0) (cx.an 0) (by omega) (by omega) (by omega) (by omega) (by simp only [maxLen]; omega) (pg_zero n) rfl rfl (fun σ β' X' hs hb hv hx => ⟨hv, hx⟩)
    · exact sv rfl rfl rfl rfl rfl _ (fun _ _ _ h => h) (fun β β' h => by rw [h 4 (by decide)]) fun ρ β W X cx => run_buildL rfl (pmc (dTn (cx.an 1)).1 pmn) (by kernel_rfl)
    · refine sv_any rfl rfl fun ρ β W X cx => ?_
      exact dv_store (n := 1) rfl (cx.ou 2) (dTn (cx.an 2)) (by kernel_rfl) (by kernel_rfl) (by kernel_rfl) cx (cx.init 0 _ rfl) rfl (nle rfl) (by kernel_rfl) rfl rfl rfl (fun σ β' X' hs hb hx => by rw [hb 4]; exact hx)
  intro σ β X W2 hD hst2 fr hfr
  obtain ⟨A4_2, hu_A4_2⟩ : ∃ z, sA (β 4) = z := ⟨_, rfl⟩
  simp only [exq 1 ((dTn (hD 1 lq)).2), exq 2 ((dTn (hD 3 lq))), hu_A4_2] at hst2
  simp only [ed 4 ((dTn (hD 1 lq)).1), ed 5 ((dTn (hD 2 lq))), hu_A4_2] at hfr
  clear hD hu_A4_2; subst hfr; clear σ β X
  refine then_normal (wp_ret ?_)
  refine bodyPost_ret (v := .agg #[.slice A4_2 n n]) (results_cell (n := 1) Tryd.results16 rfl (by kernel_rfl) (by kernel_rfl) (hst2.blk 1 rfl) rfl) rfl ?_
  exact ⟨_, rfl, hst2.own' 0 rfl, hst2.ext⟩
def WholePost (x : Int) (w : World) (e : Ending) (w' : World) : Prop := ∃ A, e = .returned (.slice A 1 1) ∧ w'.ownsRow w.heap.size 82 3 (.slice A 1 1) 1 (flatR [(1, x, ByteArray.empty)]) ∧ Ext w w'
set_option maxRecDepth 100000 in
set_option maxHeartbeats 2000000 in
theorem whole09_any (x : Int) (w : World) :
    Calls Tryd.prog 18 #[.int .i64 x] w (WholePost x w) := by
  go_enter Tryd.func18, Tryd.ntmps18
  have hst0 := St.start w
  refine wp_seq (wp_region_P [0] [.k 2 (.slice none 0 0)] [(2, 0, 1, 3)] hst0 fun W1 hst1 => ?_)
  refine then_normal (wp_seq (wp_region_Y [0, 1, 3, 7] [] [[], [], [0]] [] [.k 3 (vi x), .k 4 (.agg #[vi 1, vi x, .string ByteArray.empty]), .a 5, .a 2] (fun ix σ β X => match ix with | 0 => True | 1 => True | 2 => σ 5 = .slice ((some ⟨(pb' (β 5)), 0, none⟩)) 1 1 ∧ X 0 = eO 82 3 (.slice ((some ⟨(pb' (β 5)), 0, none⟩)) 1 1) 1 ([vi 1, vi x, .string ByteArray.empty]) | 3 => σ 2 = .slice ((some ⟨(pb' (β 5)), 0, none⟩)) 1 1 | _ => True) [0] [2, 3] [(2, 3, 1, 3), (0, 0, 3, 3)] hst1 ?_ ?_ ?_))
  · exact fun ix _ _ _ _ _ _ hs hb hx h => match ix, h with
    | 2, h => by dsimp only at h ⊢; rw [← hs 5 rfl, ← hb 5 rfl, ← hx 0 rfl]; exact h
    | 3, h => by dsimp only at h ⊢; rw [← hs 2 rfl, ← hb 5 rfl]; exact h
    | 0, _ | 1, _ | _ + 4, _ => trivial
  · refine ⟨?_, ?_, trivial⟩
    · refine sv_any rfl rfl fun ρ β W X cx => ?_
      have fF4 : ρ (.tmp 4) = .agg #[vi 1, vi x, .string ByteArray.empty] := (cx.an 1)
      exact dv_litN (e := 82) (sz := 3) (xs := [vi 1, vi x, .string ByteArray.empty]) rfl (by simp [go_sem, fF4]) rfl (by decide) rfl rfl (fun σ β' X' hs hb hv hx => ⟨hv, hx⟩)
    · exact sv rfl rfl rfl rfl rfl _ (fun _ _ _ h => h) (fun β β' h => by rw [h 5 (by decide)]) fun ρ β W X cx => run_assign' rfl (dTn (cx.an 2)).1
  intro σ β X W2 hD hst2 fr hfr
  obtain ⟨B5_2, hu_B5_2⟩ : ∃ z, pb' (β 5) = z := ⟨_, rfl⟩
  simp only [exq 0 ((dTn (hD 2 lq)).2), hu_B5_2] at hst2
  simp only [ed 5 ((dTn (hD 2 lq)).1), ed 2 ((dTn (hD 3 lq))), hu_B5_2] at hfr
  clear hD hu_B5_2; subst hfr; clear σ β X
  refine then_normal (wp_ret ?_)
  refine bodyPost_ret (v := .slice ((some ⟨B5_2, 0, none⟩)) 1 1) (results_tmp Tryd.results18 rfl) rfl ?_
  exact ⟨_, rfl, hst2.own' 0 rfl, hst2.ext⟩
end
end Go.Proofs.YtjnplglnnamfdaaDoor
namespace Go.Proofs.YtjnplglnnamfdaaDoor
section
open Go.RowKit
set_option linter.unusedVariables false
set_option linter.unusedSimpArgs false
/-- the page that a fresh insert leaves -/
def freshP (lsn tb : Int) (v : VerD) : PgI := (1, lsn, putI (putI [] 0 (putS tb 2, none)) 1 (txD v, some v))
theorem fresh_do {H : List PgI} {lsn f tb : Int} {v : VerD} (hl : 0 ≤ lsn ∧ lsn ≤ 2147483647) (hf : 0 ≤ f ∧ f < H.length) (hv : okD v) (hH : okH H) (htb : 0 ≤ tb ∧ tb < 65536) :
    doL lsn H [(f, -1, ((⟨#[1]⟩ : ByteArray), none)), (f, 0, (putS tb 2, none)), (f, 1, (txD v, some v))] = some (H.set f.toNat (freshP lsn tb v)) ∧ okP (freshP lsn tb v) := by
  obtain ⟨H', h1, h2, _⟩ := put_fresh (f := f) hH hl hf hv htb
  have hr1 := right_kind hl
  have hs2 := putS2_size tb
  have hsv : (txD v).size ≤ 309 := (show Desc (txD v) (some v) from ⟨hv, rfl⟩).le
  obtain ⟨c1, p1, d1, e1⟩ := doL_cons h1
  obtain ⟨c2, p2, d2, e2⟩ := doL_cons e1
  obtain ⟨c3, p3, d3, e3⟩ := doL_cons e2
  have hp1 : p1 = (1, lsn, []) := by
    rw [do1, if_pos rfl, if_pos rfl] at d1; exact (Option.some.inj d1).symm
  subst hp1
  have hp2 : p2 = (1, lsn, putI [] 0 (putS tb 2, none)) := by
    dsimp only at d2
    rw [getD_set' hf, do1, if_neg (show ¬ (0 : Int) = -1 by decide)] at d2
    split at d2
    · exact (Option.some.inj d2).symm
    · cases d2
  subst hp2
  have hp3 : p3 = freshP lsn tb v := by
    dsimp only at d3
    rw [getD_set' (by rw [List.length_set]; exact hf), do1, if_neg (show ¬ (1 : Int) = -1 by decide)] at d3
    split at d3
    · exact (Option.some.inj d3).symm
    · cases d3
  subst hp3
  have e4 : H' = H.set f.toNat (freshP lsn tb v) := by
    have := Option.some.inj e3
    dsimp only at this
    rw [List.set_set, List.set_set] at this
    exact this.symm
  refine ⟨by rw [h1, e4], h2 _ ?_⟩
  rw [e4]
  have hlt : f.toNat < (H.set f.toNat (freshP lsn tb v)).length := by rw [List.length_set]; omega
  have hm := List.getElem_mem hlt
  rw [List.getElem_set_self] at hm
  exact hm
theorem fresh_its (lsn tb : Int) {v : VerD} (hv : okD v) (j : Nat) : (freshP lsn tb v).2.2.getD j it0 = if j = 1 then (txD v, some v) else if j = 0 then (putS tb 2, none) else it0 := by
  have hs2 := putS2_size tb
  have hci : (putS tb 2, (none : Option VerD)).1.size = 0 → (putS tb 2, (none : Option VerD)) = it0 := fun h => by rw [hs2] at h; cases h
  have hc1 : clean ([] : List Itm) := fun x hx => by cases hx
  have hg1 := fun j => putI_get (K := 0) (i := (putS tb 2, (none : Option VerD))) hc1 hci j
  have hc2 : clean (putI [] 0 (putS tb 2, none)) := fun x hx h0 => by
    rcases withI_mem (List.mem_of_mem_take hx) with rfl | h1 | h1
    · exact hci h0
    · cases h1
    · exact h1
  have hg2 := fun j => putI_get (K := 1) (i := (txD v, some v)) hc2 (Desc.clean (x := (txD v, some v)) ⟨hv, rfl⟩) j
  show (putI (putI [] 0 (putS tb 2, none)) 1 (txD v, some v)).getD j it0 = _
  rw [hg2, hg1]
  rfl
theorem fresh_size (lsn tb : Int) (v : VerD) : sizeT (plainL (fstI (freshP lsn tb v).2.2)) ≤ 8 + (txD v).size := by
  have hs2 := putS2_size tb
  have h1 := sizeT_plain (fstI (putI [] 0 (putS tb 2, none)))
  have h2 : sizeT (fstI (putI [] 0 (putS tb 2, none))) ≤ sizeT (withL (fstI []) 0 (putS tb 2)) := by rw [putI_fst]; exact sizeT_plain _
  have h3 := sizeT_with (fstI []) 0 (putS tb 2)
  have h0 : sizeT (plainL (fstI [])) = 0 := rfl
  have h4 : sizeT (fstI (freshP lsn tb v).2.2) ≤ sizeT (withL (fstI (putI [] 0 (putS tb 2, none))) 1 (txD v)) := by
    show sizeT (fstI (putI (putI [] 0 (putS tb 2, none)) 1 (txD v, some v))) ≤ _
    rw [putI_fst]; exact sizeT_plain _
  have h5 := sizeT_with (fstI (putI [] 0 (putS tb 2, none))) 1 (txD v)
  have h6 := sizeT_plain (fstI (freshP lsn tb v).2.2)
  omega
theorem one_size (x : Int) : (vbytesF [(1, x, ByteArray.empty)]).size = 10 := by
  have hr : rrightF [(1, x, ByteArray.empty)] = true := rfl
  rw [vbytesF, if_pos hr, strL_size]
  show (bytesTo [(1, x, ByteArray.empty)] 1).length = 10
  have h8 : (putS x 8).data.toList.length = 8 := by
    have := putS_size x 8 (by omega)
    rw [← this]; rfl
  simp [bytesTo, valB, h8]
theorem one_row (x : Int) (h : -9223372036854775808 ≤ x ∧ x ≤ 9223372036854775807) : rrightF [(1, x, ByteArray.empty)] = true ∧ NsOk [(1, x, ByteArray.empty)] ∧ plainR [(1, x, ByteArray.empty)] = [(1, x, ByteArray.empty)] :=
  ⟨rfl, fun v hv _ => by rw [List.mem_singleton] at hv; subst hv; exact h, rfl⟩
/-- a second version fits behind the first -/
theorem room_two {lsn tb : Int} {v v2 : VerD} {ok : Bool} (hok : ok = true) (hp : okP (freshP lsn tb v)) (hv : okD v) (h1 : (txD v).size ≤ 100) (h2 : (txD v2).size ≤ 100) : roomI ⟨(freshP lsn tb v).1, (freshP lsn tb v).2.1, (freshP lsn tb v).2.2, ok⟩ (txD v2) = 2 := by
  subst hok
  have hg := fresh_its lsn tb hv
  have hs := txD_size hv
  have hfr : freeF (freshP lsn tb v).1 (freshP lsn tb v).2.1 (fstI (freshP lsn tb v).2.2) 1 = 2 := by
    rw [freeF, if_pos hp.1, show (max (1 : Int) 0).toNat = 1 from rfl]
    rcases frL_spec (fstI (freshP lsn tb v).2.2) (24 - 1) 1 with ⟨_, h3⟩ | ⟨j, h3, h4, h5, h6, h7⟩
    · have := h3 2 (by omega) (by omega)
      rw [item_get, fstI_getD, hg, if_neg (by decide), if_neg (by decide)] at this
      have h8 := (emp_size it0.1).2 rfl
      rw [h8] at this; cases this
    · rw [h3]
      have e1 : j ≠ 1 := fun e => by
        subst e
        rw [item_get, fstI_getD, hg, if_pos rfl] at h6
        have := (emp_size _).1 h6
        dsimp only at this
        omega
      have e2 : ¬ 2 < j := fun e => by
        have := h7 2 (by omega) e
        rw [item_get, fstI_getD, hg, if_neg (by decide), if_neg (by decide)] at this
        have h8 := (emp_size it0.1).2 rfl
        rw [h8] at this; cases this
      omega
  have hz := fresh_size lsn tb v
  have hpe : putErr (freshP lsn tb v).1 (freshP lsn tb v).2.1 (fstI (freshP lsn tb v).2.2) 2 (txD v2) = 0 := putErr_small hp.1 (by omega) (by omega) (by show _ + 2 * (2 + 1) + _ ≤ 498; omega)
  show (if true = true then (if putErr _ _ (fstI (freshP lsn tb v).2.2) (freeF _ _ (fstI (freshP lsn tb v).2.2) 1) _ = 0 then freeF _ _ (fstI (freshP lsn tb v).2.2) 1 else 0) else 0) = 2
  rw [hfr, if_pos rfl, if_pos hpe]
theorem rd_ver {H : List PgI} (hH : okH H) {n j : Int} {v : VerD} (h : atF (pvL H n) j = some v) : rdF (pvL H n) j = -1 := by
  have h1 := at_in h
  have hv := at_ok hH h
  have hd : Desc ((pvL H n).its.getD j.toNat it0).1 ((pvL H n).its.getD j.toNat it0).2 := by
    rw [pvL_in h1.1]
    rcases getD_mem_or (H.getD n.toNat pgi0).2.2 it0 j.toNat with h2 | h2
    · exact (hH.get (by omega)).2 _ h2
    · dsimp only
      rw [h2]; show (0 : Nat) < 8; decide
  rw [atF_eq, if_pos ⟨h1.2.1, h1.2.2⟩] at h
  rw [h] at hd
  have hs := txD_size hd.1
  rw [rdF, if_neg]
  rintro ⟨_, _, _, h4, _⟩
  rw [hd.2] at h4
  omega
theorem ch_two {v : PV} {n : Int} {a b : VerD} (h1 : atF v 1 = some a) (h2 : atF v 2 = some b) (hr : rdF v 1 = -1) (hn : a.2.2.1 = n) (hs : a.2.2.2.1 = 2) (hh : b.2.2.2.2.1 = true) (hb : b.2.2.1 ≠ n) : chF v n 1 = [(1, a), (2, b)] := by
  rw [chF, hr, if_neg (by decide), show decide ((0 : Int) ≤ -1) = false from rfl]
  rw [chR_go (by decide) (by rw [beq_self_eq_true]; rfl) (by rw [h1]; rfl), h1]
  show (1, a) :: chR v n false 23 [1] a.2.2.1 a.2.2.2.1 = _
  rw [hn, hs, chR_go (by decide) (by rw [beq_self_eq_true]; rfl) (by rw [h2, chStop]; show (false || ((false || true) && !(b.2.2.2.2.1))) = false; rw [hh]; rfl), h2]
  show (1, a) :: (2, b) :: chR v n false 22 [2, 1] b.2.2.1 b.2.2.2.1 = _
  rw [chR_no (by rw [beq_false_of_ne hb]; rfl)]
/-- the two versions of the example, and its pages -/
def V1 : VerD := (7, 0, -1, 0, false, [(1, 1, ByteArray.empty)])
def V2 : VerD := (8, 0, -1, 0, true, [(1, 2, ByteArray.empty)])
def H0s : List PgI := (List.replicate 6 p0).map absP
def H1s : List PgI := H0s.set 5 (freshP 1 3 V1)
theorem V1_ok : okD V1 := okD_new false (xid := 7) (by decide) (one_row 1 (by decide)).1 (one_row 1 (by decide)).2.1 rfl
theorem V2_ok : okD V2 := okD_new true (xid := 8) (by decide) (one_row 2 (by decide)).1 (one_row 2 (by decide)).2.1 rfl
theorem V1_size : (txD V1).size = 18 := by
  rw [txD_size V1_ok]
  show 8 + (vbytesF [(1, 1, ByteArray.empty)]).size = 18
  rw [one_size]
theorem V2_size : (txD V2).size = 18 := by
  rw [txD_size V2_ok]
  show 8 + (vbytesF [(1, 2, ByteArray.empty)]).size = 18
  rw [one_size]
theorem H0s_ok : okH H0s := free_ok 6
theorem H0s_len : H0s.length = 6 := rfl
theorem H1s_do : doL 1 H0s [(5, -1, ((⟨#[1]⟩ : ByteArray), none)), (5, 0, (putS 3 2, none)), (5, 1, (txD V1, some V1))] = some H1s ∧ okP (freshP 1 3 V1) := fresh_do (f := 5) (by decide) ⟨by decide, by rw [H0s_len]; decide⟩ V1_ok H0s_ok (by decide)
theorem H1s_ok : okH H1s := H0s_ok.set H1s_do.2
theorem H1s_len : H1s.length = 6 := by rw [H1s, List.length_set]; rfl
theorem H1s_pv : pvL H1s 5 = ⟨(freshP 1 3 V1).1, (freshP 1 3 V1).2.1, (freshP 1 3 V1).2.2, true⟩ := pvL_at (H := H0s) (n := 5) ⟨by decide, by rw [H0s_len]; decide⟩
theorem H1s_hd : hdF (pvL H1s 5) = true := by
  rw [H1s_pv, hdF_eq]
  dsimp only
  rw [fresh_its 1 3 V1_ok, if_neg (by decide), if_pos rfl]
  dsimp only
  rw [putS2_size]; rfl
theorem H1s_at : atF (pvL H1s 5) 1 = some V1 := by
  rw [atF_eq, if_pos ⟨H1s_hd, by decide⟩, H1s_pv]
  dsimp only
  rw [show (1 : Int).toNat = 1 from rfl, fresh_its 1 3 V1_ok, if_pos rfl]
theorem ins_s : insA (pvL H0s) 5 3 [] (txD V1) = ((5, 1), bgL 5 3 ++ [(5, 1, txD V1)], 0) := by
  rw [insA, if_neg (by rw [insBad_no V1_ok (by decide) (by decide)]; decide)]
  rfl
theorem upd_s : updA (pvL H1s) (-1) 3 [5] 5 1 8 true [(1, 2, ByteArray.empty)] = ((5, 2), true, [(5, 2, txD V2), (5, 1, oldB V1 8 5 2)], 0) := by
  have hq : updQ (pvL H1s) 5 true (newB 8 true [(1, 2, ByteArray.empty)]) = 2 := by
    rw [updQ, if_pos rfl, H1s_pv]
    exact room_two (v2 := V2) rfl H1s_do.2 V1_ok (by rw [V1_size]; decide) (by rw [V2_size]; decide)
  have hbad : updBad 8 (newB 8 true [(1, 2, ByteArray.empty)]) (-1) 3 = false := by
    rw [updBad, show newB 8 true [(1, 2, ByteArray.empty)] = txD V2 from rfl, ne_emp V2_ok]; rfl
  rw [updA, H1s_at, if_neg (by simp), if_neg (by rw [hbad]; decide), updR, hq, if_pos (by decide), H1s_at]
  rfl
theorem H2s : ∃ H2 : List PgI, ∃ es : List EdI, es.map edD = [(5, 2, txD V2), (5, 1, oldB V1 8 5 2)] ∧ (∀ e ∈ es, Desc e.2.2.1 e.2.2.2) ∧ doL 2 H1s es = some H2 ∧ okH H2 ∧ H2.length = 6 ∧ chF (pvL H2 5) 5 1 = [(1, (7, 8, 5, 2, false, [(1, 1, ByteArray.empty)])), (2, V2)] := by
  have hu := upd_law (lsn := 2) (tb := 3) (xid := 8) (ns := [5]) (hot := true) (rs := [(1, 2, ByteArray.empty)]) H1s_ok (by decide) (by rw [H1s_len]; decide) H1s_at (by decide) (by decide) (one_row 2 (by decide)).1 (one_row 2 (by decide)).2.1 rfl
  rw [upd_s] at hu
  rcases hu with h | h
  · exact absurd h (by decide)
  · skip
    obtain ⟨_, es, H2, h1, h2, h3, h4, h5, h6, h7, _⟩ := h
    refine ⟨H2, es, h1, h2, h3, h4, by rw [h5, H1s_len], ?_⟩
    exact ch_two (a := (7, 8, 5, 2, false, [(1, 1, ByteArray.empty)])) (b := V2) h6 h7 (rd_ver h4 h6) rfl rfl rfl (by decide)
end
end Go.Proofs.YtjnplglnnamfdaaDoor
namespace Go.Proofs.YtjnplglnnamfdaaDoor
section
open Go.RowKit
set_option linter.unusedVariables false
set_option linter.unusedSimpArgs false
/-- a page of the law: its LSN and its versions from slot 1 on -/
abbrev AG := Int × List VerD
def ag0 : AG := (0, [])
def agV (v : VerD) : Itm := (txD v, some v)
def agI (l : List VerD) : List Itm := (putS 7 2, none) :: l.map agV
def agP (g : AG) : PgI := (1, g.1, agI g.2)
def agH (G : List AG) : List PgI := G.map agP ++ List.replicate (8 - G.length) pgi0
def vok (v : VerD) : Prop := okD v ∧ (txD v).size = 18
structure agOk (G : List AG) : Prop where
  len : G.length ≤ 8
  ok : okH (agH G)
  ver : ∀ g ∈ G, ∀ v ∈ g.2, vok v
theorem agI_len (l : List VerD) : (agI l).length = l.length + 1 := by simp [agI]
theorem agH_len {G : List AG} (h : G.length ≤ 8) : (agH G).length = 8 := by simp [agH]; omega
theorem agH_get {G : List AG} {n : Nat} (h : n < G.length) : (agH G).getD n pgi0 = agP (G.getD n ag0) := by
  rw [agH, List.getD_eq_getElem?_getD, List.getElem?_append_left (by simpa using h), List.getElem?_map, List.getD_eq_getElem?_getD, List.getElem?_eq_getElem h]; rfl
theorem agH_set {G : List AG} {n : Nat} (h : n < G.length) (g : AG) : (agH G).set n (agP g) = agH (G.set n g) := by
  rw [agH, agH, List.set_append_left _ _ (by simpa using h), List.map_set, List.length_set]
theorem agH_add {G : List AG} (h : G.length < 8) (g : AG) : (agH G).set G.length (agP g) = agH (G ++ [g]) := by
  rw [agH, agH, List.set_append_right _ _ (by simp), List.length_map, Nat.sub_self, List.map_append, List.length_append, List.append_assoc]
  rw [show 8 - G.length = (8 - (G.length + [g].length)) + 1 by simp; omega, List.replicate_succ]
  rfl
theorem getD_inA {T : Type} {l : List T} {n : Nat} (d : T) (h : n < l.length) : l.getD n d ∈ l := by
  rw [List.getD_eq_getElem?_getD, List.getElem?_eq_getElem h, Option.getD_some]; exact List.getElem_mem _
theorem pvL_ag {G : List AG} (hG : G.length ≤ 8) {n : Nat} (h : n < G.length) : pvL (agH G) n = ⟨1, (G.getD n ag0).1, agI (G.getD n ag0).2, true⟩ := by
  rw [pvL_in (by rw [agH_len hG]; omega), Int.toNat_natCast, agH_get h]; rfl
theorem vok_ne {v : VerD} (h : vok v) : (agV v).1.size ≠ 0 := by show (txD v).size ≠ 0; rw [h.2]; decide
theorem agI_ne {l : List VerD} (h : ∀ v ∈ l, vok v) : ∀ x ∈ agI l, x.1.size ≠ 0 := fun x hx => by
  rcases List.mem_cons.1 hx with rfl | h1
  · show (putS 7 2).size ≠ 0; rw [putS2_size]; decide
  · obtain ⟨v, hv, rfl⟩ := List.mem_map.1 h1
    exact vok_ne (h v hv)
theorem full_trim {its : List Itm} (h : ∀ x ∈ its, x.1.size ≠ 0) : trimI its = its := by
  by_cases hn : its = []
  · subst hn; rfl
  · have hf : fstI its ≠ [] := by rw [fstI]; simpa using hn
    have hl : emp ((fstI its).getLast hf) = false := by
      have hm := List.getLast_mem hf
      obtain ⟨x, hx, he⟩ := List.mem_map.1 (show (fstI its).getLast hf ∈ its.map Prod.fst from hm)
      rw [← he]
      cases hb : emp x.1 with
      | false => rfl
      | true => exact absurd ((emp_size _).1 hb) (h x hx)
    have ht := trimN_full hf hl
    rw [fstI_len] at ht
    rw [trimI, ht, List.take_length]
theorem putI_app {its : List Itm} {i : Itm} (h : ∀ x ∈ its, x.1.size ≠ 0) (hi : i.1.size ≠ 0) : putI its its.length i = its ++ [i] := by
  have e : withI its its.length i = its ++ [i] := by
    rw [withI, full_trim h, show its.length + 1 - its.length = 1 by omega, List.set_append_right _ _ (Nat.le_refl _), Nat.sub_self]
    rfl
  rw [putI, e, full_trim]
  intro x hx
  rcases List.mem_append.1 hx with h1 | h1
  · exact h x h1
  · rw [List.mem_singleton] at h1; subst h1; exact hi
theorem putI_over {its : List Itm} {i : Itm} {k : Nat} (h : ∀ x ∈ its, x.1.size ≠ 0) (hi : i.1.size ≠ 0) (hk : k < its.length) : putI its k i = its.set k i := by
  have e : withI its k i = its.set k i := by
    rw [withI, full_trim h, show k + 1 - its.length = 0 by omega, List.replicate_zero, List.append_nil]
  rw [putI, e, full_trim]
  intro x hx
  rcases List.mem_or_eq_of_mem_set hx with h1 | rfl
  · exact h x h1
  · exact hi
theorem agI_size {l : List VerD} (h : ∀ v ∈ l, vok v) : sizeT (fstI (agI l)) = 4 + 20 * l.length := by
  have h2 : ∀ l : List VerD, (∀ v ∈ l, vok v) → sizeT (fstI (l.map agV)) = 20 * l.length := by
    intro l
    induction l with
    | nil => intro _; rfl
    | cons a l ih =>
      intro h
      have e : sizeT (fstI ((a :: l).map agV)) = 2 + (txD a).size + sizeT (fstI (l.map agV)) := by simp [sizeT, fstI, agV]
      rw [e, ih fun v hv => h v (List.mem_cons_of_mem _ hv), (h a (List.mem_cons_self ..)).2, List.length_cons]; omega
  have e : sizeT (fstI (agI l)) = 2 + (putS 7 2).size + sizeT (fstI (l.map agV)) := by simp [sizeT, fstI, agI]
  rw [e, h2 l h, putS2_size]
/-- the lowest empty slot -/
theorem full_free {k lsn : Int} {its : List Itm} (hr : rightB k lsn (fstI its) = true) (h : ∀ x ∈ its, x.1.size ≠ 0) (h1 : 1 ≤ its.length) (hl : its.length < 24) : freeF k lsn (fstI its) 1 = its.length := by
  have hne : ∀ j, j < its.length → emp (itemF (fstI its) j) = true → False := fun j hj he => by
    rw [item_get, fstI_getD] at he
    exact h _ (getD_inA it0 hj) ((emp_size _).1 he)
  have hem : emp (itemF (fstI its) its.length) = true := by
    rw [item_get, fstI_getD, getD_ge (Nat.le_refl _)]
    exact (emp_size it0.1).2 rfl
  rw [freeF, if_pos hr, show (max (1 : Int) 0).toNat = 1 from rfl]
  rcases frL_spec (fstI its) (24 - 1) 1 with ⟨_, h3⟩ | ⟨j, h3, h4, h5, h6, h7⟩
  · have := h3 its.length h1 (by omega)
    rw [hem] at this; cases this
  · rw [h3]
    have e1 : ¬ j < its.length := fun e => hne j e h6
    have e2 : ¬ its.length < j := fun e => by
      have := h7 its.length h1 e
      rw [hem] at this; cases this
    omega
theorem ag_okP {G : List AG} (hG : agOk G) {n : Nat} (h : n < G.length) : okP (agP (G.getD n ag0)) := by
  have := hG.ok.get (n := n) (by rw [agH_len hG.len]; have := hG.len; omega)
  rwa [agH_get h] at this
theorem ag_ver {G : List AG} (hG : agOk G) {n : Nat} (h : n < G.length) : ∀ v ∈ (G.getD n ag0).2, vok v := hG.ver _ (getD_inA ag0 h)
theorem ag_room {G : List AG} (hG : agOk G) {n : Nat} (h : n < G.length) {s : ByteArray} (hs : s.size = 18) (hc : (G.getD n ag0).2.length ≤ 21) : 0 < roomI (pvL (agH G) n) s := by
  rw [pvL_ag hG.len h]
  have hp := ag_okP hG h
  have hv := ag_ver hG h
  obtain ⟨g, hg⟩ : ∃ g, G.getD n ag0 = g := ⟨_, rfl⟩
  rw [hg] at hc hp hv ⊢
  have hf := full_free (k := 1) (lsn := g.1) (its := agI g.2) hp.1 (agI_ne hv) (by rw [agI_len]; omega) (by rw [agI_len]; omega)
  have hz := agI_size hv
  have hz2 := sizeT_plain (fstI (agI g.2))
  have hl := agI_len g.2
  have he : putErr 1 g.1 (fstI (agI g.2)) ((agI g.2).length : Int) s = 0 := putErr_small hp.1 (by omega) (by omega) (by omega)
  show 0 < (if true = true then (if putErr 1 g.1 (fstI (agI g.2)) (freeF 1 g.1 (fstI (agI g.2)) 1) s = 0 then freeF 1 g.1 (fstI (agI g.2)) 1 else 0) else 0)
  rw [hf, if_pos rfl, if_pos he]; omega
theorem ag_slot {G : List AG} (hG : agOk G) {n : Nat} (h : n < G.length) {s : ByteArray} (hr : 0 < roomI (pvL (agH G) n) s) : roomI (pvL (agH G) n) s = ((G.getD n ag0).2.length + 1 : Nat) ∧ (G.getD n ag0).2.length < 23 ∧ putErr 1 (G.getD n ag0).1 (fstI (agI (G.getD n ag0).2)) ((G.getD n ag0).2.length + 1 : Nat) s = 0 := by
  obtain ⟨h1, h2, h3, h4⟩ := roomI_pos hr
  rw [pvL_ag hG.len h] at h2 h3 h4 hr ⊢
  have hp := ag_okP hG h
  have hv := ag_ver hG h
  obtain ⟨g, hg⟩ : ∃ g, G.getD n ag0 = g := ⟨_, rfl⟩
  rw [hg] at h2 h3 h4 hr hp hv ⊢
  obtain ⟨q, hq⟩ : ∃ q, roomI ⟨1, g.1, agI g.2, true⟩ s = q := ⟨_, rfl⟩
  rw [hq] at h2 h3 h4 hr ⊢
  have hl := agI_len g.2
  have hge : (agI g.2).length ≤ q.toNat := by
    rcases Nat.lt_or_ge q.toNat (agI g.2).length with e | e
    · exact absurd h4 (agI_ne hv _ (getD_inA it0 e))
    · exact e
  have hf := full_free (k := 1) (lsn := g.1) (its := agI g.2) hp.1 (agI_ne hv) (by omega) (by omega)
  have hq2 : roomI ⟨1, g.1, agI g.2, true⟩ s = (if true = true then (if putErr 1 g.1 (fstI (agI g.2)) (freeF 1 g.1 (fstI (agI g.2)) 1) s = 0 then freeF 1 g.1 (fstI (agI g.2)) 1 else 0) else 0) := rfl
  rw [hf, if_pos rfl, hq] at hq2
  have hq3 : q = (g.2.length + 1 : Nat) := by
    split at hq2
    · rw [hq2, hl]
    · omega
  refine ⟨hq3, by omega, ?_⟩
  rw [← hq3]
  exact h2
theorem ag_hd {G : List AG} (hG : G.length ≤ 8) {n : Nat} (h : n < G.length) : hdF (pvL (agH G) n) = true ∧ ofF (pvL (agH G) n) = 7 := by
  have hs2 := putS2_size 7
  have e0 : (agI (G.getD n ag0).2).getD 0 it0 = (putS 7 2, none) := rfl
  have hh : hdF (pvL (agH G) n) = true := by rw [pvL_ag hG h, hdF_eq]; dsimp only; rw [e0]; dsimp only; rw [hs2]; rfl
  refine ⟨hh, ?_⟩
  rw [ofF_eq, if_pos hh, pvL_ag hG h]
  dsimp only
  rw [e0]
  dsimp only
  rw [numS_at (a := []) (b := bl (putS 7 2)) (c := []) (p := 0) (k := 2) (by simp) rfl (putS_bl _ 2 (by omega))]
  exact putS_num2 7 (by decide) (by decide)
def agAt (G : List AG) (n k : Nat) : Option VerD := (G.getD n ag0).2[k - 1]?
theorem ag_at {G : List AG} (hG : G.length ≤ 8) {n k : Nat} (h : n < G.length) (hk : 1 ≤ k) : atF (pvL (agH G) n) k = agAt G n k := by
  rw [atF_eq, if_pos ⟨(ag_hd hG h).1, by omega⟩, pvL_ag hG h, agAt]
  dsimp only
  obtain ⟨j, rfl⟩ : ∃ j, k = j + 1 := ⟨k - 1, by omega⟩
  rw [Int.toNat_natCast, agI, List.getD_eq_getElem?_getD, List.getElem?_cons_succ, List.getElem?_map, Nat.add_sub_cancel]
  cases (G.getD n ag0).2[j]? <;> rfl
/-- an insert into a page at hand, or into a fresh one -/
def addG (G : List AG) (n : Nat) (lsn : Int) (v : VerD) : List AG := if n < G.length then G.set n (lsn, (G.getD n ag0).2 ++ [v]) else G ++ [(lsn, [v])]
theorem insP_none {pv : Int → PV} {tb : Int} {s : ByteArray} : ∀ {ns : List Int}, insP pv tb s ns = none → ∀ n ∈ ns, hdF (pv n) = true → ofF (pv n) = tb → ¬ 0 < roomI (pv n) s
  | [], _, n, hn => by cases hn
  | m :: l, h, n, hn => by
    rw [insP] at h
    split at h
    · cases h
    · rename_i h1
      intro h2 h3 h4
      rcases List.mem_cons.1 hn with rfl | hn
      · apply h1
        simp only [Bool.and_eq_true, beq_iff_eq, decide_eq_true_eq]
        exact ⟨⟨h2, h3⟩, h4⟩
      · exact insP_none h n hn h2 h3 h4
def rangeI (n : Nat) : List Int := (List.range n).map fun k : Nat => (k : Int)
theorem ver_mem {G : List AG} {n : Nat} {lsn : Int} {v : VerD} (hG : agOk G) (hv : vok v) : ∀ g ∈ addG G n lsn v, ∀ u ∈ g.2, vok u := by
  intro g hg u hu
  rw [addG] at hg
  split at hg
  · rename_i h
    rcases List.mem_or_eq_of_mem_set hg with h1 | rfl
    · exact hG.ver g h1 u hu
    · rcases List.mem_append.1 hu with h2 | h2
      · exact ag_ver hG h u h2
      · rw [List.mem_singleton] at h2; subst h2; exact hv
  · rcases List.mem_append.1 hg with h1 | h1
    · exact hG.ver g h1 u hu
    · rw [List.mem_singleton] at h1; subst h1
      rw [List.mem_singleton] at hu; subst hu; exact hv
theorem ag_ins {G : List AG} {v : VerD} {lsn : Int} (hG : agOk G) (hv : vok v) (hl : 0 ≤ lsn ∧ lsn ≤ 2147483647) (hP : G.length < 8) :
    ∃ (n : Nat) (es : List EdI), n ≤ G.length ∧ insA (pvL (agH G)) G.length 7 (rangeI G.length) (txD v) = (((n : Int), (((G.getD n ag0).2.length + 1 : Nat) : Int)), es.map edD, 0) ∧ (∀ e ∈ es, Desc e.2.2.1 e.2.2.2) ∧
      doL lsn (agH G) es = some (agH (addG G n lsn v)) ∧ agOk (addG G n lsn v) ∧ (G.getD n ag0).2.length < 23 ∧ (n = G.length → ∀ g ∈ G, 22 ≤ g.2.length) := by
  have hR : insA (pvL (agH G)) G.length 7 (rangeI G.length) (txD v) = insR (pvL (agH G)) G.length 7 (rangeI G.length) (txD v) := by
    rw [insA, if_neg (by rw [insBad_no hv.1 (by decide) (by omega)]; decide)]
  cases hq : insP (pvL (agH G)) 7 (txD v) (rangeI G.length) with
  | none =>
    have hR2 : insA (pvL (agH G)) G.length 7 (rangeI G.length) (txD v) = (((G.length : Int), 1), bgL G.length 7 ++ [((G.length : Int), 1, txD v)], 0) := by
      rw [hR, insR, hq]
      show (if (G.length : Int) < 0 then _ else _) = _
      rw [if_neg (by omega)]
    have hd0 : G.getD G.length ag0 = ag0 := getD_ge (Nat.le_refl _)
    have hfd := fresh_do (H := agH G) (f := (G.length : Int)) (tb := 7) hl (by rw [agH_len hG.len]; omega) hv.1 hG.ok (by decide)
    have hfp : freshP lsn 7 v = agP (lsn, [v]) := by
      have e1 : putI [] 0 (putS 7 2, none) = [(putS 7 2, none)] := putI_app (its := []) (fun x hx => by cases hx) (by show (putS 7 2).size ≠ 0; rw [putS2_size]; decide)
      have e2 : putI [(putS 7 2, none)] 1 (txD v, some v) = [(putS 7 2, none)] ++ [(txD v, some v)] := putI_app (its := [(putS 7 2, none)]) (fun x hx => by rw [List.mem_singleton] at hx; subst hx; show (putS 7 2).size ≠ 0; rw [putS2_size]; decide) (vok_ne hv)
      rw [freshP, e1, e2]; rfl
    have hadd : addG G G.length lsn v = G ++ [(lsn, [v])] := by rw [addG, if_neg (by omega)]
    rw [hfp, Int.toNat_natCast, agH_add hP] at hfd
    refine ⟨G.length, [((G.length : Int), -1, ((⟨#[1]⟩ : ByteArray), none)), ((G.length : Int), 0, (putS 7 2, none)), ((G.length : Int), 1, (txD v, some v))], Nat.le_refl _, ?_, fun e he => ?_, ?_, ⟨?_, ?_, ver_mem hG hv⟩, ?_, fun _ g hg => ?_⟩
    · rw [hR2, hd0]; rfl
    · simp only [List.mem_cons, List.not_mem_nil, or_false] at he
      rcases he with rfl | rfl | rfl
      · show (1 : Nat) < 8; decide
      · show (putS 7 2).size < 8; rw [putS2_size]; decide
      · exact ⟨hv.1, rfl⟩
    · rw [hadd]; exact hfd.1
    · rw [hadd]; simp; omega
    · rw [hadd, ← agH_add hP]
      exact hG.ok.set hfd.2
    · rw [hd0]; decide
    · obtain ⟨n, hn, rfl⟩ := List.mem_iff_getElem.1 hg
      have h1 := insP_none hq (n : Int) (List.mem_map.2 ⟨n, List.mem_range.2 hn, rfl⟩) (ag_hd hG.len hn).1 (ag_hd hG.len hn).2
      rcases Nat.lt_or_ge (G.getD n ag0).2.length 22 with h2 | h2
      · exact absurd (ag_room hG hn hv.2 (by omega)) h1
      · rwa [List.getD_eq_getElem?_getD, List.getElem?_eq_getElem hn] at h2
  | some q =>
    have hR2 : insA (pvL (agH G)) G.length 7 (rangeI G.length) (txD v) = (q, [(q.1, q.2, txD v)], 0) := by rw [hR, insR, hq]
    obtain ⟨h1, h2, h3, h4, h5⟩ := insP_some hq
    obtain ⟨q1, q2⟩ := q
    obtain ⟨n, hn, rfl⟩ := List.mem_map.1 (show q1 ∈ (List.range G.length).map (fun k : Nat => (k : Int)) from h5)
    rw [List.mem_range] at hn
    dsimp only at h3 h4
    obtain ⟨g1, g2, g3⟩ := ag_slot hG hn h3
    rw [g1] at h4
    subst h4
    have hp := ag_okP hG hn
    have hvs := ag_ver hG hn
    have hadd : addG G n lsn v = G.set n (lsn, (G.getD n ag0).2 ++ [v]) := by rw [addG, if_pos hn]
    obtain ⟨g, hg⟩ : ∃ g, G.getD n ag0 = g := ⟨_, rfl⟩
    rw [hg] at g2 g3 hp hvs hadd
    have hput : putI (agI g.2) (g.2.length + 1) (agV v) = agI (g.2 ++ [v]) := by
      have e := putI_app (its := agI g.2) (i := agV v) (agI_ne hvs) (vok_ne hv)
      rw [agI_len] at e
      rw [e, agI, agI, List.map_append]; rfl
    have hdo : do1 lsn ((agH G).getD n pgi0) ((n : Int), ((g.2.length + 1 : Nat) : Int), agV v) = some (agP (lsn, g.2 ++ [v])) := by
      rw [agH_get hn, hg, do1, if_neg (show ¬ ((g.2.length + 1 : Nat) : Int) = -1 by omega), if_pos (show putErr (agP g).1 (agP g).2.1 (fstI (agP g).2.2) ((g.2.length + 1 : Nat) : Int) (agV v).1 = 0 from g3)]
      show some (1, lsn, putI (agI g.2) ((g.2.length + 1 : Nat) : Int).toNat (agV v)) = _
      rw [Int.toNat_natCast, hput]; rfl
    have h8 := agH_len hG.len
    have hone := doL_one (lsn := lsn) (H := agH G) (e := ((n : Int), ((g.2.length + 1 : Nat) : Int), agV v)) (by dsimp only; omega) hdo
    dsimp only at hone
    rw [Int.toNat_natCast, agH_set hn] at hone
    refine ⟨n, [((n : Int), ((g.2.length + 1 : Nat) : Int), agV v)], by omega, ?_, fun e he => ?_, ?_, ⟨?_, ?_, ver_mem hG hv⟩, ?_, fun e => ?_⟩
    · rw [hR2, hg]; rfl
    · rw [List.mem_singleton] at he; subst he; exact ⟨hv.1, rfl⟩
    · rw [hadd]; exact hone
    · rw [hadd, List.length_set]; exact hG.len
    · rw [hadd, ← agH_set hn]
      refine hG.ok.set ?_
      have := hp.put (j := ((g.2.length + 1 : Nat) : Int)) (i := agV v) hl ⟨hv.1, rfl⟩ g3
      rw [Int.toNat_natCast] at this
      have e2 : ((agP g).1, lsn, putI (agP g).2.2 (g.2.length + 1) (agV v)) = agP (lsn, g.2 ++ [v]) := by
        show (1, lsn, putI (agI g.2) (g.2.length + 1) (agV v)) = _
        rw [hput]; rfl
      rwa [e2] at this
    · rw [hg]; exact g2
    · omega
/-- a delete -/
theorem ag_del {G : List AG} {v : VerD} {lsn x : Int} {n k : Nat} (hG : agOk G) (hn : n < G.length) (hk : 1 ≤ k) (ha : agAt G n k = some v) (hx : 3 ≤ x ∧ x < 128) (hl : 0 ≤ lsn ∧ lsn ≤ 2147483647) :
    delA (pvL (agH G)) n k x = ([((n : Int), (k : Int), txD (v.1, x, -1, 0, v.2.2.2.2.1, v.2.2.2.2.2))], 0) ∧
      doL lsn (agH G) [((n : Int), (k : Int), agV (v.1, x, -1, 0, v.2.2.2.2.1, v.2.2.2.2.2))] = some (agH (G.set n (lsn, (G.getD n ag0).2.set (k - 1) (v.1, x, -1, 0, v.2.2.2.2.1, v.2.2.2.2.2)))) ∧
      agOk (G.set n (lsn, (G.getD n ag0).2.set (k - 1) (v.1, x, -1, 0, v.2.2.2.2.1, v.2.2.2.2.2))) ∧ Desc (txD (v.1, x, -1, 0, v.2.2.2.2.1, v.2.2.2.2.2)) (some (v.1, x, -1, 0, v.2.2.2.2.1, v.2.2.2.2.2)) := by
  have hon : onF x = true := by rw [onF, decide_eq_true hx.1, decide_eq_true hx.2]; rfl
  have hat := ag_at hG.len hn hk
  rw [ha] at hat
  have hp := ag_okP hG hn
  have hvs := ag_ver hG hn
  obtain ⟨g, hg⟩ : ∃ g, G.getD n ag0 = g := ⟨_, rfl⟩
  rw [agAt, hg] at ha
  rw [hg] at hp hvs ⊢
  obtain ⟨hk1, hk2⟩ := List.getElem?_eq_some_iff.1 ha
  have hvk : vok v := hvs v (by rw [← hk2]; exact List.getElem_mem _)
  have hv' : okD (v.1, x, -1, 0, v.2.2.2.2.1, v.2.2.2.2.2) := okD_old hvk.1 hx (.inl ⟨rfl, rfl⟩)
  have hz' : (txD (v.1, x, -1, 0, v.2.2.2.2.1, v.2.2.2.2.2)).size = 18 := by
    have h1 := txD_size hv'
    have h2 := txD_size hvk.1
    have h3 := hvk.2
    dsimp only at h1
    omega
  obtain ⟨u, hu⟩ : ∃ u : VerD, (v.1, x, -1, 0, v.2.2.2.2.1, v.2.2.2.2.2) = u := ⟨_, rfl⟩
  have hR : delA (pvL (agH G)) n k x = ([((n : Int), (k : Int), txD u)], 0) := by rw [delA, hat, if_neg (by simp), if_neg (by rw [hon]; decide), ← hu]; rfl
  rw [hu] at hv' hz' ⊢
  have hgk : ((fstI (agI g.2)).getD k ByteArray.empty) = txD v := by
    rw [fstI_getD]
    obtain ⟨j, rfl⟩ : ∃ j, k = j + 1 := ⟨k - 1, by omega⟩
    rw [Nat.add_sub_cancel] at ha
    rw [agI, List.getD_eq_getElem?_getD, List.getElem?_cons_succ, List.getElem?_map, ha]; rfl
  have hput : putI (agI g.2) k (agV u) = agI (g.2.set (k - 1) u) := by
    rw [putI_over (agI_ne hvs) (by show (txD u).size ≠ 0; omega) (by rw [agI_len]; omega)]
    obtain ⟨j, rfl⟩ : ∃ j, k = j + 1 := ⟨k - 1, by omega⟩
    rw [agI, agI, List.set_cons_succ, Nat.add_sub_cancel, List.map_set]
  have hpe : putErr 1 g.1 (fstI (agI g.2)) (k : Int) (txD u) = 0 := putErr_old hp.1 (by omega) (by rw [Int.toNat_natCast, hgk, hvk.2]; decide) (by rw [Int.toNat_natCast, hgk, hvk.2]; exact hz')
  have hdo : do1 lsn ((agH G).getD n pgi0) ((n : Int), (k : Int), agV u) = some (agP (lsn, g.2.set (k - 1) u)) := by
    rw [agH_get hn, hg, do1, if_neg (show ¬ (k : Int) = -1 by omega), if_pos (show putErr (agP g).1 (agP g).2.1 (fstI (agP g).2.2) (k : Int) (agV u).1 = 0 from hpe)]
    show some (1, lsn, putI (agI g.2) (k : Int).toNat (agV u)) = _
    rw [Int.toNat_natCast, hput]; rfl
  have h8 := agH_len hG.len
  have hlen := hG.len
  have hone := doL_one (lsn := lsn) (H := agH G) (e := ((n : Int), (k : Int), agV u)) (by dsimp only; omega) hdo
  dsimp only at hone
  rw [Int.toNat_natCast, agH_set hn] at hone
  refine ⟨hR, hone, ⟨by rw [List.length_set]; exact hG.len, ?_, ?_⟩, ⟨hv', rfl⟩⟩
  · rw [← agH_set hn]
    refine hG.ok.set ?_
    have := hp.put (j := (k : Int)) (i := agV u) hl ⟨hv', rfl⟩ hpe
    rw [Int.toNat_natCast] at this
    have e2 : ((agP g).1, lsn, putI (agP g).2.2 k (agV u)) = agP (lsn, g.2.set (k - 1) u) := by
      show (1, lsn, putI (agI g.2) k (agV u)) = _
      rw [hput]; rfl
    rwa [e2] at this
  · intro g' hg' w hw
    rcases List.mem_or_eq_of_mem_set hg' with h1 | rfl
    · exact hG.ver g' h1 w hw
    · rcases List.mem_or_eq_of_mem_set hw with h2 | rfl
      · exact hvs w h2
      · exact ⟨hv', hz'⟩
/-- what All finds -/
theorem fnd_ag (l : List VerD) : ∀ k, k ≤ l.length → (fndF (agI l) (k + 1)).map Prod.snd = l.take k
  | 0, _ => by simp [fndF, List.range_succ]
  | k + 1, h => by
    have ih := fnd_ag l k (by omega)
    rw [fndF] at ih ⊢
    rw [List.range_succ, List.filterMap_append, List.map_append, ih]
    have e : (agI l).getD (k + 1) it0 = agV l[k] := by
      rw [agI, List.getD_eq_getElem?_getD, List.getElem?_cons_succ, List.getElem?_map, List.getElem?_eq_getElem (show k < l.length by omega)]; rfl
    have e2 : ([k + 1].filterMap fun j => if 0 < j then ((agI l).getD j it0).2.map (fun v => (j, v)) else none) = [(k + 1, l[k])] := by
      rw [List.filterMap_cons, if_pos (by omega), e]; rfl
    rw [e2, List.take_add_one, List.getElem?_eq_getElem (show k < l.length by omega)]
    rfl
theorem all_ag {G : List AG} (hG : G.length ≤ 8) {n : Nat} (h : n < G.length) : (allF' (pvL (agH G) n)).map Prod.snd = (G.getD n ag0).2 := by
  rw [allF', if_pos (ag_hd hG h).1, pvL_ag hG h]
  dsimp only
  rw [agI_len, fnd_ag _ _ (Nat.le_refl _), List.take_length]
end
end Go.Proofs.YtjnplglnnamfdaaDoor

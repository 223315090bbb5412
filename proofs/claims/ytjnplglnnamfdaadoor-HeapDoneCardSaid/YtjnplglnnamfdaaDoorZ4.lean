/- HeapDoneRow9: part 4 of the proof. -/
import Derived.Test.YtjnplglnnamfdaaDoorZ3
import Derived.Maps.OwnSet
import Derived.Maps.Views
import Derived.Carry
set_option linter.unusedVariables false
set_option linter.unusedSimpArgs false
namespace Go.Proofs.YtjnplglnnamfdaaDoor
section
open Go.RowKit
set_option linter.unusedVariables false
set_option linter.unusedSimpArgs false
/-- an edit -/
abbrev EdD := Int × Int × ByteArray
def cellsE (e : EdD) : List Value := [.int .i64 e.1, .int .i64 e.2.1, .string e.2.2]
theorem eds_snoc (l : List EdD) (e : EdD) : l.flatMap cellsE ++ cellsE e = (l ++ [e]).flatMap cellsE := by simp
theorem Tryd.infoEdit : (Tryd.prog.info? 99).map (fun i => (i.zero, i.size, i.bytes)) = some (some (.agg #[.int .i64 0, .int .i64 0, .string ByteArray.empty]), 3, 32) := by kernel_rfl
def EdsPost (l : List EdD) (w : World) (e : Ending) (w' : World) : Prop := ∃ A c, e = .returned (.slice A l.length c) ∧ w'.ownsRow w.heap.size 99 3 (.slice A l.length c) l.length (l.flatMap cellsE) ∧ Ext w w'
def bgL (n tb : Int) : List EdD := [(n, -1, ⟨#[1]⟩), (n, 0, putS tb 2)]
theorem tb_le (a b n1 n2 : Int) (ho : Bool) (rs : List Val) : (tbytesF a b n1 n2 ho rs).size ≤ 309 := by
  cases h : trightF a b n1 n2 rs with
  | true => rw [tb_size h]; have := vbytes_size rs; omega
  | false => rw [tbytesF, h]; show 0 ≤ 309; decide
/-- the lowest free slot, from 1, where the item fits, or 0 -/
def roomI (v : PV) (s : ByteArray) : Int := if v.ok then (if putErr v.k v.l (v.its.map Prod.fst) (freeF v.k v.l (v.its.map Prod.fst) 1) s = 0 then freeF v.k v.l (v.its.map Prod.fst) 1 else 0) else 0
theorem pvits_len {v : PV} : (v.its.map Prod.fst).length = v.its.length := List.length_map ..
theorem hfree_any (v : PV) (A : Option Addr) (c : Nat) (w : World) (h : v.wf) (hA : At w A (strs v.its)) : Calls Tryd.prog 66 #[.agg #[.int .i64 v.k, .int .i64 v.l, .slice A v.its.length c], .int .i64 1] w (Ret (.int .i64 (freeF v.k v.l (v.its.map Prod.fst) 1)) w) := by
  have := free_any v.k v.l A c (v.its.map Prod.fst) 1 w (by rw [← strs_map]; exact hA) (PV.small h)
  rw [pvits_len] at this
  exact this
theorem hput_ok (v : PV) (A : Option Addr) (c : Nat) (slot : Int) (s : ByteArray) (w : World) (h : v.wf) (hA : At w A (strs v.its)) (hs : s.size ≤ 400) (hp : putErr v.k v.l (v.its.map Prod.fst) slot s = 0) :
    Calls Tryd.prog 67 #[.agg #[.int .i64 v.k, .int .i64 v.l, .slice A v.its.length c], .int .i64 slot, .string s] w (PgPost v.k v.l (plainL (withL (v.its.map Prod.fst) slot.toNat s)) 0 w) := by
  have h2 := put_any v.k v.l A _ c (v.its.map Prod.fst) slot s w rfl (by rw [← strs_map]; exact hA) (PV.small h) (by omega)
  rw [PutPost, if_pos hp, pvits_len] at h2
  exact h2
theorem hput_bad (v : PV) (A : Option Addr) (c : Nat) (slot : Int) (s : ByteArray) (w : World) (h : v.wf) (hA : At w A (strs v.its)) (hs : s.size ≤ 400) (hp : putErr v.k v.l (v.its.map Prod.fst) slot s ≠ 0) :
    Calls Tryd.prog 67 #[.agg #[.int .i64 v.k, .int .i64 v.l, .slice A v.its.length c], .int .i64 slot, .string s] w (PgPost 0 0 [] (putErr v.k v.l (v.its.map Prod.fst) slot s) w) := by
  have h2 := put_any v.k v.l A _ c (v.its.map Prod.fst) slot s w rfl (by rw [← strs_map]; exact hA) (PV.small h) (by omega)
  rw [PutPost, if_neg hp, pvits_len] at h2
  exact h2
/-- the first of the pages of the table where the item fits, with the slot -/
def insP (pv : Int → PV) (tb : Int) (s : ByteArray) : List Int → Option (Int × Int)
  | [] => none
  | n :: l => if (hdF (pv n) && ofF (pv n) == tb) && decide (0 < roomI (pv n) s) then some (n, roomI (pv n) s) else insP pv tb s l
theorem insP_at {pv : Int → PV} {tb : Int} {s : ByteArray} {ns : List Int} {k : Nat} (h : k < ns.length) : insP pv tb s (ns.drop k) = if (hdF (pv (ns.getD k 0)) && ofF (pv (ns.getD k 0)) == tb) && decide (0 < roomI (pv (ns.getD k 0)) s) then some (ns.getD k 0, roomI (pv (ns.getD k 0)) s) else insP pv tb s (ns.drop (k + 1)) := by
  rw [List.drop_eq_getElem_cons h, insP, List.getD_eq_getElem?_getD, List.getElem?_eq_getElem h, Option.getD_some]
def insR (pv : Int → PV) (fresh tb : Int) (ns : List Int) (s : ByteArray) : (Int × Int) × List EdD × Int :=
  match insP pv tb s ns with
  | some q => (q, [(q.1, q.2, s)], 0)
  | none => if fresh < 0 then ((0, 0), [], 23) else ((fresh, 1), bgL fresh tb ++ [(fresh, 1, s)], 0)
def insBad (s : ByteArray) (fresh tb : Int) : Bool := (((s.toList == (⟨#[]⟩ : ByteArray).toList) || (decide (tb < 0))) || (decide (65535 < tb))) || (decide (400 ≤ fresh))
def insA (pv : Int → PV) (fresh tb : Int) (ns : List Int) (s : ByteArray) : (Int × Int) × List EdD × Int := if insBad s fresh tb then ((0, 0), [], 1) else insR pv fresh tb ns s
def InsPost (R : (Int × Int) × List EdD × Int) (w : World) (e : Ending) (w' : World) : Prop := ∃ A c, e = .returned (.tuple #[.agg #[.int .i64 R.1.1, .int .i64 R.1.2], .slice A R.2.1.length c, .int .i64 R.2.2]) ∧
  w'.ownsRow w.heap.size 99 3 (.slice A R.2.1.length c) R.2.1.length (R.2.1.flatMap cellsE) ∧ Ext w w'
theorem InsPost.of {R : (Int × Int) × List EdD × Int} {w w' : World} {a1 a2 er : Int} {A : Option Addr} {c n : Nat} {l : List EdD} {xs : List Value} (h : R = ((a1, a2), l, er)) (hn : n = l.length) (hxs : xs = l.flatMap cellsE) (ho : w'.ownsRow w.heap.size 99 3 (.slice A n c) n xs) (hx : Ext w w') :
    InsPost R w (.returned (.tuple #[.agg #[.int .i64 a1, .int .i64 a2], .slice A n c, .int .i64 er])) w' := by
  subst hn hxs h
  exact ⟨A, c, rfl, ho, hx⟩
theorem InsPost.nil {R : (Int × Int) × List EdD × Int} {w w' : World} {a1 a2 er : Int} (h : R = ((a1, a2), [], er)) (hx : Ext w w') :
    InsPost R w (.returned (.tuple #[.agg #[.int .i64 a1, .int .i64 a2], .slice none 0 0, .int .i64 er])) w' := InsPost.of h rfl rfl (World.ownsRow_nil _ _ _ _) hx
set_option maxRecDepth 100000 in
set_option maxHeartbeats 2000000 in
theorem hbegin_any (n tb : Int) (w : World) :
    Calls Tryd.prog 33 #[.int .i64 n, .int .i64 tb] w (EdsPost (bgL n tb) w) := by
  go_enter Tryd.func33, Tryd.ntmps33
  have hst0 := St.start w
  refine wp_seq (wp_region_P [0] [.k 4 (.slice none 0 0)] [(4, 0, 1, 5)] hst0 fun W1 hst1 => ?_)
  refine then_normal (wp_seq (wp_region_Y [0, 0, 2, 7, 0, 0, 32, 112, 255, 511] [[], [], [0]] [[], [0], [], [], [], [], [], [], [1]] [] [.k 5 (vi n), .a 6, .c 7 (.string (strOfNums ([1]))), .k 8 (.agg #[vi n, vi (-1), .string (strOfNums ([1]))]), .k 9 (vi n), .k 10 (vi tb), .c 11 (.string (putS tb 2)), .k 12 (.agg #[vi n, vi 0, .string (putS tb 2)]), .a 13, .a 4] (fun ix σ β X => match ix with | 0 => True | 1 => σ 6 = .slice (sA (β 6)) 1 1 ∧ X 0 = eO 5 1 (.slice (sA (β 6)) 1 1) 1 ([.int .u8 1]) | 2 => True | 3 => True | 4 => True | 5 => True | 6 => True | 7 => True | 8 => σ 13 = .slice ((some ⟨(pb' (β 13)), 0, none⟩)) 2 2 ∧ X 1 = eO 99 3 (.slice ((some ⟨(pb' (β 13)), 0, none⟩)) 2 2) 2 ([vi n, vi (-1), .string (strOfNums ([1])), vi n, vi 0, .string (putS tb 2)]) | 9 => σ 4 = .slice ((some ⟨(pb' (β 13)), 0, none⟩)) 2 2 | _ => True) [0, 1] [1, 2, 6, 8, 9] [(4, 9, 1, 5), (0, 0, 9, 9)] hst1 ?_ ?_ ?_))
  · exact fun ix _ _ _ _ _ _ hs hb hx h => match ix, h with
    | 1, h => by dsimp only at h ⊢; rw [← hs 6 rfl, ← hb 6 rfl, ← hx 0 rfl]; exact h
    | 8, h => by dsimp only at h ⊢; rw [← hs 13 rfl, ← hb 13 rfl, ← hx 1 rfl]; exact h
    | 9, h => by dsimp only at h ⊢; rw [← hs 4 rfl, ← hb 13 rfl]; exact h
    | 0, _ | 2, _ | 3, _ | 4, _ | 5, _ | 6, _ | 7, _ | _ + 10, _ => trivial
  · refine ⟨?_, ?_, ?_, ?_, ?_, trivial⟩
    · refine sv_any rfl rfl fun ρ β W X cx => ?_
      exact dv_lit (e := 5) (xs := [.int .u8 1]) rfl (by simp [go_sem, cx.sees.const]) rfl (by decide) rfl rfl (fun σ β' X' hs hb hv hx => ⟨hv, hx⟩)
    · exact xs4 rfl id fun cx => run_convB (e := 5) rfl (by kernel_rfl) (by kernel_rfl) (by kernel_rfl) (dTn (cx.an 1)).1 (cx.row (dTn (cx.an 1)).2 rfl)
    · exact xsc rfl id rfl rfl fun cx => ⟨_, oput2_any tb _, (map2 (cx.an 5) (cx.co _))⟩
    · refine sv_any rfl rfl fun ρ β W X cx => ?_
      have fF8 : ρ (.tmp 8) = .agg #[vi n, vi (-1), .string (strOfNums ([1]))] := (cx.an 3)
      have fF12 : ρ (.tmp 12) = .agg #[vi n, vi 0, .string (putS tb 2)] := (cx.an 7)
      exact dv_litN (e := 99) (sz := 3) (xs := [vi n, vi (-1), .string (strOfNums ([1])), vi n, vi 0, .string (putS tb 2)]) rfl (by simp [go_sem, fF8, fF12]) rfl (by decide) rfl rfl (fun σ β' X' hs hb hv hx => ⟨hv, hx⟩)
    · exact sv rfl rfl rfl rfl rfl _ (fun _ _ _ h => h) (fun β β' h => by rw [h 13 (by decide)]) fun ρ β W X cx => run_assign' rfl (dTn (cx.an 8)).1
  intro σ β X W2 hD hst2 fr hfr
  obtain ⟨A6_2, hu_A6_2⟩ : ∃ z, sA (β 6) = z := ⟨_, rfl⟩
  obtain ⟨B13_2, hu_B13_2⟩ : ∃ z, pb' (β 13) = z := ⟨_, rfl⟩
  simp only [exq 0 ((dTn (hD 1 lq)).2), exq 1 ((dTn (hD 8 lq)).2), hu_A6_2, hu_B13_2] at hst2
  simp only [ed 6 ((dTn (hD 1 lq)).1), ed 13 ((dTn (hD 8 lq)).1), ed 4 ((dTn (hD 9 lq))), hu_A6_2, hu_B13_2] at hfr
  clear hD hu_A6_2 hu_B13_2; subst hfr; clear σ β X
  refine then_normal (wp_ret ?_)
  refine bodyPost_ret (v := .slice ((some ⟨B13_2, 0, none⟩)) 2 2) (results_tmp Tryd.results33 rfl) rfl ?_
  exact ⟨_, _, rfl, hst2.own' 1 rfl, hst2.ext⟩
set_option maxRecDepth 100000 in
set_option maxHeartbeats 2000000 in
theorem hnone_any  (w : World) :
    Calls Tryd.prog 38 #[] w (Ret (.agg #[.int .i64 (-1), .int .i64 0]) w) := by
  go_enter Tryd.func38, Tryd.ntmps38
  have hst0 := St.start w
  refine wp_seq (wp_region_Y [0] [] [[0]] [] [.a 0] (fun ix σ β X => match ix with | 0 => σ 0 = vp (pb (β 0)) ∧ X 0 = eB (pb (β 0)) 24 #[vi 0, vi 0] | _ => True) [0] [0] [(0, 0, 1, 1)] hst0 ?_ ?_ ?_)
  · exact fun ix _ _ _ _ _ _ hs hb hx h => match ix, h with
    | 0, h => by dsimp only at h ⊢; rw [← hs 0 rfl, ← hb 0 rfl, ← hx 0 rfl]; exact h
    | _ + 1, _ => trivial
  · refine ⟨?_, trivial⟩
    · refine sv_any rfl rfl fun ρ β W X cx => ?_
      exact dv_alloc (cs := #[vi 0, vi 0]) rfl (by kernel_rfl) rfl rfl (fun σ β' X' hs hb hv hx => ⟨hv, hx⟩)
  intro σ β X W1 hD hst1 fr hfr
  obtain ⟨B0_1, hu_B0_1⟩ : ∃ z, pb (β 0) = z := ⟨_, rfl⟩
  simp only [exq 0 ((dTn (hD 0 lq)).2), hu_B0_1] at hst1
  simp only [ed 0 ((dTn (hD 0 lq)).1), hu_B0_1] at hfr
  clear hD hu_B0_1; subst hfr; clear σ β X
  refine then_normal (wp_seq (wp_region_Y [0, 1] [[], [0]] [[], [1]] [[], [0]] [.k 1 (.agg #[vi (-1), vi 0]), .n] (fun ix σ β X => match ix with | 0 => True | 1 => X 1 = eB B0_1 24 #[vi (-1), vi 0] | _ => True) [1] [1] [(1, 0, 1, 2)] hst1 ?_ ?_ ?_))
  · exact fun ix _ _ _ _ _ _ hs hb hx h => match ix, h with
    | 1, h => by dsimp only at h ⊢; rw [← hx 1 rfl]; exact h
    | 0, _ | _ + 2, _ => trivial
  · refine ⟨?_, trivial⟩
    · refine sv_any rfl rfl fun ρ β W X cx => ?_
      exact dv_store (n := 2) rfl (cx.ou 0) (cx.an 0) (by kernel_rfl) (by kernel_rfl) (by kernel_rfl) cx (cx.init 0 _ rfl) rfl (nle rfl) (by kernel_rfl) rfl rfl rfl (fun σ β' X' hs hb hx => hx)
  intro σ β X W2 hD hst2 fr hfr
  simp only [exq 1 ((dTn (hD 1 lq)))] at hst2
  clear hD; subst hfr; clear σ β X
  refine then_normal (wp_ret ?_)
  refine bodyPost_ret (v := .agg #[vi (-1), vi 0]) (results_cell (n := 2) Tryd.results38 rfl (by kernel_rfl) (by kernel_rfl) (hst2.blk 0 rfl) rfl) rfl ?_
  exact Ret.of rfl hst2.ext
set_option maxRecDepth 100000 in
set_option maxHeartbeats 2000000 in
theorem hring_any (x : Int) (w : World) :
    Calls Tryd.prog 39 #[.int .i64 x] w (Ret (.bool (onF x)) w) := by
  go_enter Tryd.func39, Tryd.ntmps39
  have hst0 := St.start w
  refine wp_seq (wp_region_P [0] [.k 2 (.bool false)] [(2, 0, 1, 3)] hst0 fun W1 hst1 => ?_)
  refine then_normal (wp_seq (wp_region_P [0, 1, 3, 7, 15, 31, 63] [.k 3 (vi x), .k 4 (.bool (decide (3 ≤ x))), .k 5 (.bool (decide (3 ≤ x))), .z 6 (decide (3 ≤ x)) (vi x), .z 7 (decide (3 ≤ x)) (.bool (decide (x < 128))), tA 8 (decide (3 ≤ x)) (decide (x < 128)), .k 2 (.bool ((decide (3 ≤ x)) && (decide (x < 128))))] [(2, 6, 1, 3), (0, 0, 6, 6)] hst1 fun W2 hst2 => ?_))
  refine then_normal (wp_ret ?_)
  refine bodyPost_ret (v := .bool ((decide (3 ≤ x)) && (decide (x < 128)))) (results_tmp Tryd.results39 rfl) rfl ?_
  exact Ret.bool rfl hst2.ext
set_option maxRecDepth 100000 in
set_option maxHeartbeats 2000000 in
theorem hget_any (tt : TypeId) (tv : Value) (pv : Int → PV) (n j : Int) (w : World) (hS : PgsOk w tt tv pv) (hN : NoneAt w) :
    Calls Tryd.prog 11 #[.iface tt (tv), .agg #[.int .i64 n, .int .i64 j]] w (VerAt (atF (pv n) j) w) := by
  obtain ⟨f0, rv, hM, hC, hG⟩ := hS.ex
  have hwf := hS.wf n
  have hwl := hwf.1
  go_enter Tryd.func11, Tryd.ntmps11
  have hst0 := St.start w
  refine wp_seq (wp_region_Y [0, 0, 0] [] [[0], [1]] [] [.a 3, .a 4, .k 5 (.bool false)] (fun ix σ β X => match ix with | 0 => σ 3 = vp (pb (β 3)) ∧ X 0 = eB (pb (β 3)) 24 #[vi n, vi j] | 1 => σ 4 = vp (pb (β 4)) ∧ X 1 = eB (pb (β 4)) 41 #[vi 0, vi 0, vi 0, vi 0, .bool false, .slice none 0 0] | _ => True) [0, 1] [0, 1] [(3, 0, 3, 6)] hst0 ?_ ?_ ?_)
  · exact fun ix _ _ _ _ _ _ hs hb hx h => match ix, h with
    | 0, h => by dsimp only at h ⊢; rw [← hs 3 rfl, ← hb 3 rfl, ← hx 0 rfl]; exact h
    | 1, h => by dsimp only at h ⊢; rw [← hs 4 rfl, ← hb 4 rfl, ← hx 1 rfl]; exact h
    | _ + 2, _ => trivial
  · refine ⟨?_, ?_, trivial⟩
    · refine sv_any rfl rfl fun ρ β W X cx => ?_
      exact dv_box (cs := #[vi n, vi j]) rfl (cx.ou 1) rfl rfl rfl (fun σ β' X' hs hb hv hx => ⟨hv, hx⟩)
    · refine sv_any rfl rfl fun ρ β W X cx => ?_
      exact dv_alloc (cs := #[vi 0, vi 0, vi 0, vi 0, .bool false, .slice none 0 0]) rfl (by kernel_rfl) rfl rfl (fun σ β' X' hs hb hv hx => ⟨hv, hx⟩)
  intro σ β X W1 hD hst1 fr hfr
  obtain ⟨B3_1, hu_B3_1⟩ : ∃ z, pb (β 3) = z := ⟨_, rfl⟩
  obtain ⟨B4_1, hu_B4_1⟩ : ∃ z, pb (β 4) = z := ⟨_, rfl⟩
  simp only [exq 0 ((dTn (hD 0 lq)).2), exq 1 ((dTn (hD 1 lq)).2), hu_B3_1, hu_B4_1] at hst1
  simp only [ed 3 ((dTn (hD 0 lq)).1), ed 4 ((dTn (hD 1 lq)).1), hu_B3_1, hu_B4_1] at hfr
  clear hD hu_B3_1 hu_B4_1; subst hfr; clear σ β X
  refine then_normal (wp_seq (wp_seq (wp_region_Z [0, 0, 2, 7, 15, 31, 31, 63, 255] [[], [], [0]] [.k 13 (.iface tt (tv)), .k 14 (vp B3_1), .c 15 (vi n), .c 16 (.tuple #[vi ((ofF (pv n))), .bool ((hdF (pv n)))]), .k 12 (.tuple #[vi ((ofF (pv n))), .bool ((hdF (pv n)))]), .k 17 (vi ((ofF (pv n)))), .k 18 (.bool ((hdF (pv n)))), .k 6 (vi ((ofF (pv n)))), .k 7 (.bool ((hdF (pv n))))] [0, 1] [2, 3] [(6, 7, 2, 8), (4, 4, 1, 5), (0, 0, 4, 4), (0, 5, 2, 2)] hst1 ?_ fun W2 hst2 => ?_)))
  · refine ⟨?_, ?_, trivial⟩
    · exact xs4 rfl id fun cx => run_load1 rfl (by kernel_rfl) (cx.an 1) ((cx.bi 0 rfl).cell 0)
    · exact xsc rfl id rfl rfl fun cx => ⟨_, of_any _ _ pv n _ (hS.ext cx.upd.to_ext), (map2 (cx.an 0) (cx.an 2))⟩
  refine then_normal (wp_seq (wp_region_Z [0, 1, 3, 7, 15, 31, 63] [[], [], [], [], [0]] [.k 19 (.bool ((hdF (pv n)))), .k 20 (.bool (!((hdF (pv n))))), .k 21 (.bool (!((hdF (pv n))))), .z 22 (!(!((hdF (pv n))))) (.pointer (some ⟨B3_1, 1, none⟩)), .y 23 (!(!((hdF (pv n))))) (vi j), .z 24 (!(!((hdF (pv n))))) (.bool (decide (j < 1))), tO 25 (!((hdF (pv n)))) (decide (j < 1))] [0, 1] [4] [(19, 0, 7, 26)] hst2 ?_ fun W3 hst3 => ?_))
  · refine ⟨?_, trivial⟩
    · exact m2 rfl (fun _ _ _ h => h) (fun cx => (cx.an 2)) fun cx hq => run_load1 rfl (by kernel_rfl) (mbv (cx.an 3) hq) ((cx.bi 0 rfl).cell 1)
  refine then_normal ?_
  rcases Bool.eq_false_or_eq_true ((!((hdF (pv n)))) || (decide (j < 1))) with hs4 | hs4
  · skip
    have hs4p := hs4
    simp only [zB] at hs4p
    refine wp_cond_true (show Act.eval _ _ = .bool true from (congrArg Value.bool hs4)) (wp_seq (wp_region_Y [0, 1, 3] [[], [1]] [[], [2]] [[], [1]] [.k 26 (.agg #[vi 0, vi 0, vi 0, vi 0, .bool false, .slice none 0 0]), .n, .k 5 (.bool false)] (fun ix σ β X => match ix with | 0 => True | 1 => X 2 = eB B4_1 41 #[vi 0, vi 0, vi 0, vi 0, .bool false, .slice none 0 0] | _ => True) [0, 2] [1] [(5, 2, 1, 6), (20, 0, 1, 21)] hst3 ?_ ?_ ?_))
    · exact fun ix _ _ _ _ _ _ hs hb hx h => match ix, h with
      | 1, h => by dsimp only at h ⊢; rw [← hx 2 rfl]; exact h
      | 0, _ | _ + 2, _ => trivial
    · refine ⟨?_, trivial⟩
      · refine sv_any rfl rfl fun ρ β W X cx => ?_
        exact dv_store (n := 6) rfl (cx.ou 4) (cx.an 0) (by kernel_rfl) (by kernel_rfl) (by kernel_rfl) cx (cx.init 1 _ rfl) rfl (nle rfl) (by kernel_rfl) rfl rfl rfl (fun σ β' X' hs hb hx => hx)
    intro σ β X W5 hD hst5 fr hfr
    simp only [exq 2 ((dTn (hD 1 lq)))] at hst5
    clear hD; subst hfr; clear σ β X
    refine then_normal (wp_ret (then_ret ?_))
    have hr6 : W5.cell? ⟨B4_1, 0, none⟩ = some (vi 0) := (hst5.blk 1 rfl).cell 0
    have hr7 : W5.cell? ⟨B4_1, 1, none⟩ = some (vi 0) := (hst5.blk 1 rfl).cell 1
    have hr8 : W5.cell? ⟨B4_1, 2, none⟩ = some (vi 0) := (hst5.blk 1 rfl).cell 2
    have hr9 : W5.cell? ⟨B4_1, 3, none⟩ = some (vi 0) := (hst5.blk 1 rfl).cell 3
    have hr10 : W5.cell? ⟨B4_1, 4, none⟩ = some (.bool false) := (hst5.blk 1 rfl).cell 4
    have hr11 : W5.cell? ⟨B4_1, 5, none⟩ = some (.slice none 0 0) := (hst5.blk 1 rfl).cell 5
    refine bodyPost_ret (v := .tuple #[.agg #[vi 0, vi 0, vi 0, vi 0, .bool false, .slice none 0 0], .bool false]) (by simp [results, Tryd.results11, go_sem, hr6, hr7, hr8, hr9, hr10, hr11]) rfl ?_
    have hat : atF (pv n) j = none := by rw [atF, if_neg (by rintro ⟨a_, b_, c_⟩; have d_ := (tbF_hd (pv n)).1 a_; first | (simp_all; done) | (simp_all; omega))]
    rw [hat]
    exact ⟨none, 0, rfl, World.ownsRow_nil _ _ _ _, hst5.ext⟩
  have hs4p := hs4
  simp only [zB] at hs4p
  obtain ⟨hs4p1, hs4p2⟩ := hs4p
  refine wp_cond_false (show Act.eval _ _ = .bool false from (congrArg Value.bool hs4)) (wp_skip (then_normal (wp_seq (wp_region_Y [0, 0, 2, 7, 15, 31, 31, 0, 191, 511] [[], [], [0], [], [], [], [], [], [3]] [[], [], [], [2], [], [], [], [3], [4]] [[], [], [], [], [], [], [], [], [3]] [.k 28 (.iface tt (tv)), .k 29 (vp B3_1), .c 30 (vi n), .a 31, .a 27, .a 32, .c 33 (.bool ((pv n).ok)), .a 8, .n, .k 9 (.bool ((pv n).ok))] (fun ix σ β X => match ix with | 0 => True | 1 => True | 2 => True | 3 => σ 31 = .tuple #[.agg #[vi ((pv n).k), vi ((pv n).l), .slice (sA (tg (tg (β 31) 0) 2)) ((pv n).its.length) (sC (tg (tg (β 31) 0) 2))], .bool ((pv n).ok)] ∧ X 2 = eO 9 1 (.slice (sA (tg (tg (β 31) 0) 2)) ((pv n).its.length) (sC (tg (tg (β 31) 0) 2))) ((pv n).its.length) (strs (pv n).its) | 4 => σ 27 = .tuple #[.agg #[vi ((pv n).k), vi ((pv n).l), .slice (sA (tg (tg (β 31) 0) 2)) ((pv n).its.length) (sC (tg (tg (β 31) 0) 2))], .bool ((pv n).ok)] | 5 => σ 32 = .agg #[vi ((pv n).k), vi ((pv n).l), .slice (sA (tg (tg (β 31) 0) 2)) ((pv n).its.length) (sC (tg (tg (β 31) 0) 2))] | 6 => True | 7 => σ 8 = vp (pb (β 8)) ∧ X 3 = eB (pb (β 8)) 86 #[vi 0, vi 0, .slice none 0 0] | 8 => X 4 = eB (pb (β 8)) 86 #[vi ((pv n).k), vi ((pv n).l), .slice (sA (tg (tg (β 31) 0) 2)) ((pv n).its.length) (sC (tg (tg (β 31) 0) 2))] | _ => True) [0, 1, 2, 4] [2, 3, 4, 5, 6, 7, 8] [(8, 7, 3, 10), (17, 4, 1, 18), (0, 0, 4, 4), (0, 5, 2, 2)] hst3 ?_ ?_ ?_))))
  · exact fun ix _ _ _ _ _ _ hs hb hx h => match ix, h with
    | 3, h => by dsimp only at h ⊢; rw [← hs 31 rfl, ← hb 31 rfl, ← hx 2 rfl]; exact h
    | 4, h => by dsimp only at h ⊢; rw [← hs 27 rfl, ← hb 31 rfl]; exact h
    | 5, h => by dsimp only at h ⊢; rw [← hs 32 rfl, ← hb 31 rfl]; exact h
    | 7, h => by dsimp only at h ⊢; rw [← hs 8 rfl, ← hb 8 rfl, ← hx 3 rfl]; exact h
    | 8, h => by dsimp only at h ⊢; rw [← hb 8 rfl, ← hb 31 rfl, ← hx 4 rfl]; exact h
    | 0, _ | 1, _ | 2, _ | 6, _ | _ + 9, _ => trivial
  · refine ⟨?_, ?_, ?_, ?_, ?_, ?_, ?_, trivial⟩
    · exact xs4 rfl id fun cx => run_load1 rfl (by kernel_rfl) (cx.an 1) ((cx.bi 0 rfl).cell 0)
    · refine sv_any rfl rfl fun ρ β W X cx => ?_
      refine DoesU.call (run_invoke (args := #[vi n]) (args' := #[rv, vi n]) rfl rfl (cx.an 0) hM hC (map1 (cx.an 2)) rfl) ?_
      refine (hG _ n cx.upd.to_ext).mono ?_
      rintro e W1 ⟨A4, c4, rfl, ho, hx⟩
      refine ⟨_, rfl, post_call [eO 9 1 (.slice A4 (pv n).its.length c4) (pv n).its.length (strs (pv n).its)] rfl rfl hx (one_new (eO_new ho)) (List.pairwise_singleton _ _) (fun σ β' X' hs hb hv hN => ?_)⟩
      have hv1 := (hv 31 rfl).1; have hv2 := (hv 31 rfl).2
      exact ⟨hv1.trans (by rw [hv2]; rfl), (by rw [hv2]; exact (List.cons.inj hN).1)⟩
    · exact sv rfl rfl rfl rfl rfl _ (fun _ _ _ h => h) (fun β β' h => by rw [h 31 (by decide)]) fun ρ β W X cx => run_move' rfl (dTn (cx.an 3)).1
    · exact sv rfl rfl rfl rfl rfl _ (fun _ _ _ h => h) (fun β β' h => by rw [h 31 (by decide)]) fun ρ β W X cx => run_extract' rfl (dTn (cx.an 4)) rfl
    · exact xs4 rfl id fun cx => run_extract' rfl (dTn (cx.an 4)) rfl
    · refine sv_any rfl rfl fun ρ β W X cx => ?_
      exact dv_alloc (cs := #[vi 0, vi 0, .slice none 0 0]) rfl (by kernel_rfl) rfl rfl (fun σ β' X' hs hb hv hx => ⟨hv, hx⟩)
    · refine sv_any rfl rfl fun ρ β W X cx => ?_
      exact dv_store (n := 3) rfl (dTn (cx.an 7)).1 (dTn (cx.an 5)) (by kernel_rfl) (by kernel_rfl) (by kernel_rfl) cx (dTn (cx.an 7)).2 rfl (nle rfl) (by kernel_rfl) rfl rfl rfl (fun σ β' X' hs hb hx => by rw [hb 8, hb 31]; exact hx)
  intro σ β X W12 hD hst12 fr hfr
  obtain ⟨A31_12, hu_A31_12⟩ : ∃ z, sA (tg (tg (β 31) 0) 2) = z := ⟨_, rfl⟩
  obtain ⟨c31_12, hu_c31_12⟩ : ∃ z, sC (tg (tg (β 31) 0) 2) = z := ⟨_, rfl⟩
  obtain ⟨B8_12, hu_B8_12⟩ : ∃ z, pb (β 8) = z := ⟨_, rfl⟩
  simp only [exq 2 ((dTn (hD 3 lq)).2), exq 4 ((dTn (hD 8 lq))), hu_A31_12, hu_c31_12, hu_B8_12] at hst12
  simp only [ed 31 ((dTn (hD 3 lq)).1), ed 27 ((dTn (hD 4 lq))), ed 32 ((dTn (hD 5 lq))), ed 8 ((dTn (hD 7 lq)).1), hu_A31_12, hu_c31_12, hu_B8_12] at hfr
  clear hD hu_A31_12 hu_c31_12 hu_B8_12; subst hfr; clear σ β X
  refine then_normal (wp_seq (wp_seq (wp_region_Z [0, 1, 0, 4, 12, 31] [[], [0], [], [3]] [.k 34 (.pointer (some ⟨B3_1, 1, none⟩)), .c 35 (vi j), .k 36 (.pointer (some ⟨B8_12, 2, none⟩)), .c 37 (.slice A31_12 ((pv n).its.length) c31_12), .k 38 (vi (((pv n).its.length : Int))), .k 39 (.bool (decide (((pv n).its.length : Int) ≤ j)))] [0, 1, 2, 3] [1, 3] [(34, 0, 6, 40)] hst12 ?_ fun W13 hst13 => ?_)))
  · refine ⟨?_, ?_, trivial⟩
    · exact xs4 rfl id fun cx => run_load1 rfl (by kernel_rfl) (cx.an 0) ((cx.bi 0 rfl).cell 1)
    · exact xs4 rfl id fun cx => run_load1 rfl (by kernel_rfl) (cx.an 2) ((cx.bi 3 rfl).cell 2)
  refine then_normal ?_
  rcases Bool.eq_false_or_eq_true (decide (((pv n).its.length : Int) ≤ j)) with hs14 | hs14
  · skip
    have hs14p : ((pv n).its.length : Int) ≤ j := by simpa using hs14
    refine wp_cond_true (show Act.eval _ _ = .bool true from (congrArg Value.bool hs14)) (wp_seq (wp_region_Y [0, 1, 3] [[], [1]] [[], [4]] [[], [1]] [.k 40 (.agg #[vi 0, vi 0, vi 0, vi 0, .bool false, .slice none 0 0]), .n, .k 5 (.bool false)] (fun ix σ β X => match ix with | 0 => True | 1 => X 4 = eB B4_1 41 #[vi 0, vi 0, vi 0, vi 0, .bool false, .slice none 0 0] | _ => True) [0, 2, 3, 4] [1] [(5, 2, 1, 6), (34, 0, 1, 35)] hst13 ?_ ?_ ?_))
    · exact fun ix _ _ _ _ _ _ hs hb hx h => match ix, h with
      | 1, h => by dsimp only at h ⊢; rw [← hx 4 rfl]; exact h
      | 0, _ | _ + 2, _ => trivial
    · refine ⟨?_, trivial⟩
      · refine sv_any rfl rfl fun ρ β W X cx => ?_
        exact dv_store (n := 6) rfl (cx.ou 4) (cx.an 0) (by kernel_rfl) (by kernel_rfl) (by kernel_rfl) cx (cx.init 1 _ rfl) rfl (nle rfl) (by kernel_rfl) rfl rfl rfl (fun σ β' X' hs hb hx => hx)
    intro σ β X W15 hD hst15 fr hfr
    simp only [exq 4 ((dTn (hD 1 lq)))] at hst15
    clear hD; subst hfr; clear σ β X
    refine then_normal (wp_ret (then_ret ?_))
    have hr16 : W15.cell? ⟨B4_1, 0, none⟩ = some (vi 0) := (hst15.blk 3 rfl).cell 0
    have hr17 : W15.cell? ⟨B4_1, 1, none⟩ = some (vi 0) := (hst15.blk 3 rfl).cell 1
    have hr18 : W15.cell? ⟨B4_1, 2, none⟩ = some (vi 0) := (hst15.blk 3 rfl).cell 2
    have hr19 : W15.cell? ⟨B4_1, 3, none⟩ = some (vi 0) := (hst15.blk 3 rfl).cell 3
    have hr20 : W15.cell? ⟨B4_1, 4, none⟩ = some (.bool false) := (hst15.blk 3 rfl).cell 4
    have hr21 : W15.cell? ⟨B4_1, 5, none⟩ = some (.slice none 0 0) := (hst15.blk 3 rfl).cell 5
    refine bodyPost_ret (v := .tuple #[.agg #[vi 0, vi 0, vi 0, vi 0, .bool false, .slice none 0 0], .bool false]) (by simp [results, Tryd.results11, go_sem, hr16, hr17, hr18, hr19, hr20, hr21]) rfl ?_
    have hat : atF (pv n) j = none := by rw [atF, if_neg (by rintro ⟨a_, b_, c_⟩; have d_ := (tbF_hd (pv n)).1 a_; first | (simp_all; done) | (simp_all; omega))]
    rw [hat]
    exact ⟨none, 0, rfl, World.ownsRow_nil _ _ _ _, hst15.ext⟩
  have hs14p : ¬ (((pv n).its.length : Int) ≤ j) := by simpa using hs14
  refine wp_cond_false (show Act.eval _ _ = .bool false from (congrArg Value.bool hs14)) (wp_skip (then_normal (wp_seq ?_)))
  obtain ⟨J, rfl⟩ : ∃ J : Nat, j = (J : Int) := ⟨j.toNat, by omega⟩
  have hdj := PV.desc hwf (j := J) (by omega)
  refine wp_region_Y [0, 1, 0, 4, 15, 31, 63, 127, 255, 255, 0, 1535, 4095] [[], [3], [], [0], [2], [2], [], [], [], [], [], [5]] [[], [], [], [], [], [], [4], [], [], [], [5], [6]] [[], [], [], [], [], [], [], [], [], [], [], [5]] [.k 42 (.pointer (some ⟨B8_12, 2, none⟩)), .c 43 (.slice A31_12 ((pv n).its.length) c31_12), .k 44 (.pointer (some ⟨B3_1, 1, none⟩)), .c 45 (vi (J : Int)), .c 46 (.pointer (some ((ad A31_12).add J))), .c 47 (.string (((pv n).its.getD J it0).1)), .a 48, .a 41, .a 49, .c 50 (vi ((eD ((pv n).its.getD J it0).2))), .a 10, .n, .k 11 (vi ((eD ((pv n).its.getD J it0).2)))] (fun ix σ β X => match ix with | 0 => True | 1 => True | 2 => True | 3 => True | 4 => True | 5 => True | 6 => σ 48 = .tuple #[.agg #[vi ((vD ((pv n).its.getD J it0).2).1), vi ((vD ((pv n).its.getD J it0).2).2.1), vi ((vD ((pv n).its.getD J it0).2).2.2.1), vi ((vD ((pv n).its.getD J it0).2).2.2.2.1), .bool ((vD ((pv n).its.getD J it0).2).2.2.2.2.1), .slice (sA (tg (tg (β 48) 0) 5)) ((vD ((pv n).its.getD J it0).2).2.2.2.2.2.length) (sC (tg (tg (β 48) 0) 5))], vi ((eD ((pv n).its.getD J it0).2))] ∧ X 4 = eO 82 3 (.slice (sA (tg (tg (β 48) 0) 5)) ((vD ((pv n).its.getD J it0).2).2.2.2.2.2.length) (sC (tg (tg (β 48) 0) 5))) ((vD ((pv n).its.getD J it0).2).2.2.2.2.2.length) (flatR (vD ((pv n).its.getD J it0).2).2.2.2.2.2) | 7 => σ 41 = .tuple #[.agg #[vi ((vD ((pv n).its.getD J it0).2).1), vi ((vD ((pv n).its.getD J it0).2).2.1), vi ((vD ((pv n).its.getD J it0).2).2.2.1), vi ((vD ((pv n).its.getD J it0).2).2.2.2.1), .bool ((vD ((pv n).its.getD J it0).2).2.2.2.2.1), .slice (sA (tg (tg (β 48) 0) 5)) ((vD ((pv n).its.getD J it0).2).2.2.2.2.2.length) (sC (tg (tg (β 48) 0) 5))], vi ((eD ((pv n).its.getD J it0).2))] | 8 => σ 49 = .agg #[vi ((vD ((pv n).its.getD J it0).2).1), vi ((vD ((pv n).its.getD J it0).2).2.1), vi ((vD ((pv n).its.getD J it0).2).2.2.1), vi ((vD ((pv n).its.getD J it0).2).2.2.2.1), .bool ((vD ((pv n).its.getD J it0).2).2.2.2.2.1), .slice (sA (tg (tg (β 48) 0) 5)) ((vD ((pv n).its.getD J it0).2).2.2.2.2.2.length) (sC (tg (tg (β 48) 0) 5))] | 9 => True | 10 => σ 10 = vp (pb (β 10)) ∧ X 5 = eB (pb (β 10)) 41 #[vi 0, vi 0, vi 0, vi 0, .bool false, .slice none 0 0] | 11 => X 6 = eB (pb (β 10)) 41 #[vi ((vD ((pv n).its.getD J it0).2).1), vi ((vD ((pv n).its.getD J it0).2).2.1), vi ((vD ((pv n).its.getD J it0).2).2.2.1), vi ((vD ((pv n).its.getD J it0).2).2.2.2.1), .bool ((vD ((pv n).its.getD J it0).2).2.2.2.2.1), .slice (sA (tg (tg (β 48) 0) 5)) ((vD ((pv n).its.getD J it0).2).2.2.2.2.2.length) (sC (tg (tg (β 48) 0) 5))] | _ => True) [0, 1, 2, 3, 4, 6] [1, 3, 4, 5, 6, 7, 8, 9, 10, 11] [(10, 10, 3, 12), (29, 7, 1, 30), (0, 0, 7, 7), (0, 8, 2, 2)] hst13 ?_ ?_ ?_
  · exact fun ix _ _ _ _ _ _ hs hb hx h => match ix, h with
    | 6, h => by dsimp only at h ⊢; rw [← hs 48 rfl, ← hb 48 rfl, ← hx 4 rfl]; exact h
    | 7, h => by dsimp only at h ⊢; rw [← hs 41 rfl, ← hb 48 rfl]; exact h
    | 8, h => by dsimp only at h ⊢; rw [← hs 49 rfl, ← hb 48 rfl]; exact h
    | 10, h => by dsimp only at h ⊢; rw [← hs 10 rfl, ← hb 10 rfl, ← hx 5 rfl]; exact h
    | 11, h => by dsimp only at h ⊢; rw [← hb 10 rfl, ← hb 48 rfl, ← hx 6 rfl]; exact h
    | 0, _ | 1, _ | 2, _ | 3, _ | 4, _ | 5, _ | 9, _ | _ + 12, _ => trivial
  · refine ⟨?_, ?_, ?_, ?_, ?_, ?_, ?_, ?_, ?_, ?_, trivial⟩
    · exact xs4 rfl id fun cx => run_load1 rfl (by kernel_rfl) (cx.an 0) ((cx.bi 3 rfl).cell 2)
    · exact xs4 rfl id fun cx => run_load1 rfl (by kernel_rfl) (cx.an 2) ((cx.bi 0 rfl).cell 1)
    · exact xs4 rfl id fun cx => run_indexSl (e := 9) (m := J) rfl (by kernel_rfl) (by kernel_rfl) (cx.an 1) (cx.an 3) (by omega) (by omega) (At.of_own (cx.ri 2 rfl)) (strs_len _)
    · exact xs4 rfl id fun cx => run_load1 rfl (by kernel_rfl) (cx.an 4) (At.cellAd (At.of_own (cx.ri 2 rfl)) (getD_strs (by omega)))
    · refine sv_any rfl rfl fun ρ β W X cx => ?_
      refine DoesU.call (run_callF (args := #[.string (((pv n).its.getD J it0).1)]) rfl cx.sees rfl (by kernel_rfl) (map1 (cx.an 5))) ?_
      refine (tread_desc _ hdj (hN.ext cx.upd.to_ext)).mono ?_
      rintro e W1 ⟨A4, c4, rfl, ho, hx⟩
      refine ⟨_, rfl, post_call [eO 82 3 (.slice A4 (vD ((pv n).its.getD J it0).2).2.2.2.2.2.length c4) (vD ((pv n).its.getD J it0).2).2.2.2.2.2.length (flatR (vD ((pv n).its.getD J it0).2).2.2.2.2.2)] rfl rfl hx (one_new (eO_new ho)) (List.pairwise_singleton _ _) (fun σ β' X' hs hb hv hN => ?_)⟩
      have hv1 := (hv 48 rfl).1; have hv2 := (hv 48 rfl).2
      exact ⟨hv1.trans (by rw [hv2]; rfl), (by rw [hv2]; exact (List.cons.inj hN).1)⟩
    · exact sv rfl rfl rfl rfl rfl _ (fun _ _ _ h => h) (fun β β' h => by rw [h 48 (by decide)]) fun ρ β W X cx => run_move' rfl (dTn (cx.an 6)).1
    · exact sv rfl rfl rfl rfl rfl _ (fun _ _ _ h => h) (fun β β' h => by rw [h 48 (by decide)]) fun ρ β W X cx => run_extract' rfl (dTn (cx.an 7)) rfl
    · exact xs4 rfl id fun cx => run_extract' rfl (dTn (cx.an 7)) rfl
    · refine sv_any rfl rfl fun ρ β W X cx => ?_
      exact dv_alloc (cs := #[vi 0, vi 0, vi 0, vi 0, .bool false, .slice none 0 0]) rfl (by kernel_rfl) rfl rfl (fun σ β' X' hs hb hv hx => ⟨hv, hx⟩)
    · refine sv_any rfl rfl fun ρ β W X cx => ?_
      exact dv_store (n := 6) rfl (dTn (cx.an 10)).1 (dTn (cx.an 8)) (by kernel_rfl) (by kernel_rfl) (by kernel_rfl) cx (dTn (cx.an 10)).2 rfl (nle rfl) (by kernel_rfl) rfl rfl rfl (fun σ β' X' hs hb hx => by rw [hb 10, hb 48]; exact hx)
  intro σ β X W22 hD hst22 fr hfr
  obtain ⟨A48_22, hu_A48_22⟩ : ∃ z, sA (tg (tg (β 48) 0) 5) = z := ⟨_, rfl⟩
  obtain ⟨c48_22, hu_c48_22⟩ : ∃ z, sC (tg (tg (β 48) 0) 5) = z := ⟨_, rfl⟩
  obtain ⟨B10_22, hu_B10_22⟩ : ∃ z, pb (β 10) = z := ⟨_, rfl⟩
  simp only [exq 4 ((dTn (hD 6 lq)).2), exq 6 ((dTn (hD 11 lq))), hu_A48_22, hu_c48_22, hu_B10_22] at hst22
  simp only [ed 48 ((dTn (hD 6 lq)).1), ed 41 ((dTn (hD 7 lq))), ed 49 ((dTn (hD 8 lq))), ed 10 ((dTn (hD 10 lq)).1), hu_A48_22, hu_c48_22, hu_B10_22] at hfr
  clear hD hu_A48_22 hu_c48_22 hu_B10_22; subst hfr; clear σ β X
  refine then_normal (wp_seq (wp_region_Y [0, 0, 2, 1, 15] [[5], [], [], [1]] [[], [], [], [6]] [[], [], [], [1]] [.c 51 (.agg #[vi ((vD ((pv n).its.getD J it0).2).1), vi ((vD ((pv n).its.getD J it0).2).2.1), vi ((vD ((pv n).its.getD J it0).2).2.2.1), vi ((vD ((pv n).its.getD J it0).2).2.2.2.1), .bool ((vD ((pv n).its.getD J it0).2).2.2.2.2.1), .slice A48_22 ((vD ((pv n).its.getD J it0).2).2.2.2.2.2.length) c48_22]), .k 52 (vi ((eD ((pv n).its.getD J it0).2))), .k 53 (.bool ((eD ((pv n).its.getD J it0).2) == 0)), .n, .k 5 (.bool ((eD ((pv n).its.getD J it0).2) == 0))] (fun ix σ β X => match ix with | 0 => True | 1 => True | 2 => True | 3 => X 6 = eB B4_1 41 #[vi ((vD ((pv n).its.getD J it0).2).1), vi ((vD ((pv n).its.getD J it0).2).2.1), vi ((vD ((pv n).its.getD J it0).2).2.2.1), vi ((vD ((pv n).its.getD J it0).2).2.2.2.1), .bool ((vD ((pv n).its.getD J it0).2).2.2.2.2.1), .slice A48_22 ((vD ((pv n).its.getD J it0).2).2.2.2.2.2.length) c48_22] | _ => True) [0, 2, 3, 4, 5, 6] [0, 3] [(5, 4, 1, 6), (45, 0, 3, 48)] hst22 ?_ ?_ ?_))
  · exact fun ix _ _ _ _ _ _ hs hb hx h => match ix, h with
    | 3, h => by dsimp only at h ⊢; rw [← hx 6 rfl]; exact h
    | 0, _ | 1, _ | 2, _ | _ + 4, _ => trivial
  · refine ⟨?_, ?_, trivial⟩
    · exact xs4 rfl id fun cx => run_loadB (n := 6) rfl (by kernel_rfl) (by kernel_rfl) (cx.ou 10) (cx.bi 5 rfl) (nle rfl) rfl
    · refine sv_any rfl rfl fun ρ β W X cx => ?_
      exact dv_store (n := 6) rfl (cx.ou 4) (cx.an 0) (by kernel_rfl) (by kernel_rfl) (by kernel_rfl) cx (cx.init 1 _ rfl) rfl (nle rfl) (by kernel_rfl) rfl rfl rfl (fun σ β' X' hs hb hx => hx)
  intro σ β X W23 hD hst23 fr hfr
  simp only [exq 6 ((dTn (hD 3 lq)))] at hst23
  clear hD; subst hfr; clear σ β X
  refine then_normal (wp_ret ?_)
  have hr24 : W23.cell? ⟨B4_1, 0, none⟩ = some (vi ((vD ((pv n).its.getD J it0).2).1)) := (hst23.blk 5 rfl).cell 0
  have hr25 : W23.cell? ⟨B4_1, 1, none⟩ = some (vi ((vD ((pv n).its.getD J it0).2).2.1)) := (hst23.blk 5 rfl).cell 1
  have hr26 : W23.cell? ⟨B4_1, 2, none⟩ = some (vi ((vD ((pv n).its.getD J it0).2).2.2.1)) := (hst23.blk 5 rfl).cell 2
  have hr27 : W23.cell? ⟨B4_1, 3, none⟩ = some (vi ((vD ((pv n).its.getD J it0).2).2.2.2.1)) := (hst23.blk 5 rfl).cell 3
  have hr28 : W23.cell? ⟨B4_1, 4, none⟩ = some (.bool ((vD ((pv n).its.getD J it0).2).2.2.2.2.1)) := (hst23.blk 5 rfl).cell 4
  have hr29 : W23.cell? ⟨B4_1, 5, none⟩ = some (.slice A48_22 ((vD ((pv n).its.getD J it0).2).2.2.2.2.2.length) c48_22) := (hst23.blk 5 rfl).cell 5
  refine bodyPost_ret (v := .tuple #[.agg #[vi ((vD ((pv n).its.getD J it0).2).1), vi ((vD ((pv n).its.getD J it0).2).2.1), vi ((vD ((pv n).its.getD J it0).2).2.2.1), vi ((vD ((pv n).its.getD J it0).2).2.2.2.1), .bool ((vD ((pv n).its.getD J it0).2).2.2.2.2.1), .slice A48_22 ((vD ((pv n).its.getD J it0).2).2.2.2.2.2.length) c48_22], .bool ((eD ((pv n).its.getD J it0).2) == 0)]) (by simp [results, Tryd.results11, go_sem, hr24, hr25, hr26, hr27, hr28, hr29]) rfl ?_
  have hat : atF (pv n) (J : Int) = ((pv n).its.getD J it0).2 := by rw [atF, if_pos ⟨(tbF_hd (pv n)).2 (by simp_all), by omega, by omega⟩]; rfl
  rw [hat]
  exact ⟨_, _, by rw [eD_some], hst23.own' 3 rfl, hst23.ext⟩
set_option maxRecDepth 100000 in
set_option maxHeartbeats 2000000 in
theorem hroomi_any (tt : TypeId) (tv : Value) (pv : Int → PV) (n : Int) (s : ByteArray) (w : World) (hS : PgsOk w tt tv pv) (hs400 : s.size ≤ 400) :
    Calls Tryd.prog 32 #[.iface tt (tv), .int .i64 n, .string s] w (Ret (.int .i64 (roomI (pv n) s)) w) := by
  obtain ⟨f0, rv, hM, hC, hG⟩ := hS.ex
  have hwf := hS.wf n
  have hwl := hwf.1
  go_enter Tryd.func32, Tryd.ntmps32
  have hst0 := St.start w
  refine wp_seq (wp_region_P [0] [.k 6 (vi 0)] [(6, 0, 1, 7)] hst0 fun W1 hst1 => ?_)
  refine then_normal (wp_seq (wp_region_Y [0, 0, 3, 7, 15, 15, 0, 95, 255] [[], [], [], [], [], [], [], [1]] [[], [], [0], [], [], [], [1], [2]] [[], [], [], [], [], [], [], [1]] [.k 13 (.iface tt (tv)), .k 14 (vi n), .a 15, .a 12, .a 16, .c 17 (.bool ((pv n).ok)), .a 7, .n, .k 8 (.bool ((pv n).ok))] (fun ix σ β X => match ix with | 0 => True | 1 => True | 2 => σ 15 = .tuple #[.agg #[vi ((pv n).k), vi ((pv n).l), .slice (sA (tg (tg (β 15) 0) 2)) ((pv n).its.length) (sC (tg (tg (β 15) 0) 2))], .bool ((pv n).ok)] ∧ X 0 = eO 9 1 (.slice (sA (tg (tg (β 15) 0) 2)) ((pv n).its.length) (sC (tg (tg (β 15) 0) 2))) ((pv n).its.length) (strs (pv n).its) | 3 => σ 12 = .tuple #[.agg #[vi ((pv n).k), vi ((pv n).l), .slice (sA (tg (tg (β 15) 0) 2)) ((pv n).its.length) (sC (tg (tg (β 15) 0) 2))], .bool ((pv n).ok)] | 4 => σ 16 = .agg #[vi ((pv n).k), vi ((pv n).l), .slice (sA (tg (tg (β 15) 0) 2)) ((pv n).its.length) (sC (tg (tg (β 15) 0) 2))] | 5 => True | 6 => σ 7 = vp (pb (β 7)) ∧ X 1 = eB (pb (β 7)) 86 #[vi 0, vi 0, .slice none 0 0] | 7 => X 2 = eB (pb (β 7)) 86 #[vi ((pv n).k), vi ((pv n).l), .slice (sA (tg (tg (β 15) 0) 2)) ((pv n).its.length) (sC (tg (tg (β 15) 0) 2))] | _ => True) [0, 2] [2, 3, 4, 5, 6, 7] [(7, 6, 3, 9), (3, 3, 1, 4), (0, 0, 3, 3), (0, 4, 2, 2)] hst1 ?_ ?_ ?_))
  · exact fun ix _ _ _ _ _ _ hs hb hx h => match ix, h with
    | 2, h => by dsimp only at h ⊢; rw [← hs 15 rfl, ← hb 15 rfl, ← hx 0 rfl]; exact h
    | 3, h => by dsimp only at h ⊢; rw [← hs 12 rfl, ← hb 15 rfl]; exact h
    | 4, h => by dsimp only at h ⊢; rw [← hs 16 rfl, ← hb 15 rfl]; exact h
    | 6, h => by dsimp only at h ⊢; rw [← hs 7 rfl, ← hb 7 rfl, ← hx 1 rfl]; exact h
    | 7, h => by dsimp only at h ⊢; rw [← hb 7 rfl, ← hb 15 rfl, ← hx 2 rfl]; exact h
    | 0, _ | 1, _ | 5, _ | _ + 8, _ => trivial
  · refine ⟨?_, ?_, ?_, ?_, ?_, ?_, trivial⟩
    · refine sv_any rfl rfl fun ρ β W X cx => ?_
      refine DoesU.call (run_invoke (args := #[vi n]) (args' := #[rv, vi n]) rfl rfl (cx.an 0) hM hC (map1 (cx.an 1)) rfl) ?_
      refine (hG _ n cx.upd.to_ext).mono ?_
      rintro e W1 ⟨A4, c4, rfl, ho, hx⟩
      refine ⟨_, rfl, post_call [eO 9 1 (.slice A4 (pv n).its.length c4) (pv n).its.length (strs (pv n).its)] rfl rfl hx (one_new (eO_new ho)) (List.pairwise_singleton _ _) (fun σ β' X' hs hb hv hN => ?_)⟩
      have hv1 := (hv 15 rfl).1; have hv2 := (hv 15 rfl).2
      exact ⟨hv1.trans (by rw [hv2]; rfl), (by rw [hv2]; exact (List.cons.inj hN).1)⟩
    · exact sv rfl rfl rfl rfl rfl _ (fun _ _ _ h => h) (fun β β' h => by rw [h 15 (by decide)]) fun ρ β W X cx => run_move' rfl (dTn (cx.an 2)).1
    · exact sv rfl rfl rfl rfl rfl _ (fun _ _ _ h => h) (fun β β' h => by rw [h 15 (by decide)]) fun ρ β W X cx => run_extract' rfl (dTn (cx.an 3)) rfl
    · exact xs4 rfl id fun cx => run_extract' rfl (dTn (cx.an 3)) rfl
    · refine sv_any rfl rfl fun ρ β W X cx => ?_
      exact dv_alloc (cs := #[vi 0, vi 0, .slice none 0 0]) rfl (by kernel_rfl) rfl rfl (fun σ β' X' hs hb hv hx => ⟨hv, hx⟩)
    · refine sv_any rfl rfl fun ρ β W X cx => ?_
      exact dv_store (n := 3) rfl (dTn (cx.an 6)).1 (dTn (cx.an 4)) (by kernel_rfl) (by kernel_rfl) (by kernel_rfl) cx (dTn (cx.an 6)).2 rfl (nle rfl) (by kernel_rfl) rfl rfl rfl (fun σ β' X' hs hb hx => by rw [hb 7, hb 15]; exact hx)
  intro σ β X W2 hD hst2 fr hfr
  obtain ⟨A15_2, hu_A15_2⟩ : ∃ z, sA (tg (tg (β 15) 0) 2) = z := ⟨_, rfl⟩
  obtain ⟨c15_2, hu_c15_2⟩ : ∃ z, sC (tg (tg (β 15) 0) 2) = z := ⟨_, rfl⟩
  obtain ⟨B7_2, hu_B7_2⟩ : ∃ z, pb (β 7) = z := ⟨_, rfl⟩
  simp only [exq 0 ((dTn (hD 2 lq)).2), exq 2 ((dTn (hD 7 lq))), hu_A15_2, hu_c15_2, hu_B7_2] at hst2
  simp only [ed 15 ((dTn (hD 2 lq)).1), ed 12 ((dTn (hD 3 lq))), ed 16 ((dTn (hD 4 lq))), ed 7 ((dTn (hD 6 lq)).1), hu_A15_2, hu_c15_2, hu_B7_2] at hfr
  clear hD hu_A15_2 hu_c15_2 hu_B7_2; subst hfr; clear σ β X
  refine then_normal (wp_seq (wp_seq (wp_region_P [0, 1] [.k 18 (.bool ((pv n).ok)), .k 19 (.bool (!((pv n).ok)))] [(18, 0, 2, 20)] hst2 fun W3 hst3 => ?_)))
  refine then_normal ?_
  rcases Bool.eq_false_or_eq_true ((pv n).ok) with hs4 | hs4
  · skip
    refine wp_cond_false (show Act.eval _ _ = .bool false from (congrArg Value.bool (by rw [hs4]; rfl))) (wp_skip (then_normal (wp_seq (wp_region_Z [0, 1, 3] [[1], [0]] [.c 20 (.agg #[vi ((pv n).k), vi ((pv n).l), .slice A15_2 ((pv n).its.length) c15_2]), .c 21 (vi ((freeF (pv n).k (pv n).l ((pv n).its.map Prod.fst) 1))), .k 9 (vi ((freeF (pv n).k (pv n).l ((pv n).its.map Prod.fst) 1)))] [0, 1] [0, 1] [(9, 2, 1, 10), (10, 0, 2, 12)] hst3 ?_ fun W5 hst5 => ?_))))
    · refine ⟨?_, ?_, trivial⟩
      · exact xs4 rfl id fun cx => run_loadB (n := 3) rfl (by kernel_rfl) (by kernel_rfl) (cx.ou 7) (cx.bi 1 rfl) (nle rfl) rfl
      · exact xsc rfl id rfl rfl fun cx => ⟨_, hfree_any (pv n) _ _ _ hwf (At.of_own (cx.ri 0 rfl)), (map2 (cx.an 0) (cx.co _))⟩
    refine then_normal (wp_seq (wp_seq ?_))
    rcases Decidable.em ((putErr (pv n).k (pv n).l ((pv n).its.map Prod.fst) (freeF (pv n).k (pv n).l ((pv n).its.map Prod.fst) 1) s) = 0) with hpe | hpe
    · skip
      refine wp_region_Y [0, 0, 0, 7, 15, 31, 31, 0, 191, 511] [[1], [], [], [0], [], [], [], [], [3]] [[], [], [], [2], [], [], [], [3], [4]] [[], [], [], [], [], [], [], [], [3]] [.c 23 (.agg #[vi ((pv n).k), vi ((pv n).l), .slice A15_2 ((pv n).its.length) c15_2]), .k 24 (vi ((freeF (pv n).k (pv n).l ((pv n).its.map Prod.fst) 1))), .k 25 (.string s), .a 26, .a 22, .a 27, .c 28 (vi 0), .a 10, .n, .k 11 (vi 0)] (fun ix σ β X => match ix with | 0 => True | 1 => True | 2 => True | 3 => σ 26 = .tuple #[.agg #[vi ((pv n).k), vi ((pv n).l), .slice (sA (tg (tg (β 26) 0) 2)) ((plainL (withL ((pv n).its.map Prod.fst) (freeF (pv n).k (pv n).l ((pv n).its.map Prod.fst) 1).toNat s)).length) (sC (tg (tg (β 26) 0) 2))], vi 0] ∧ X 2 = eO 9 1 (.slice (sA (tg (tg (β 26) 0) 2)) ((plainL (withL ((pv n).its.map Prod.fst) (freeF (pv n).k (pv n).l ((pv n).its.map Prod.fst) 1).toNat s)).length) (sC (tg (tg (β 26) 0) 2))) ((plainL (withL ((pv n).its.map Prod.fst) (freeF (pv n).k (pv n).l ((pv n).its.map Prod.fst) 1).toNat s)).length) ((plainL (withL ((pv n).its.map Prod.fst) (freeF (pv n).k (pv n).l ((pv n).its.map Prod.fst) 1).toNat s)).map Value.string) | 4 => σ 22 = .tuple #[.agg #[vi ((pv n).k), vi ((pv n).l), .slice (sA (tg (tg (β 26) 0) 2)) ((plainL (withL ((pv n).its.map Prod.fst) (freeF (pv n).k (pv n).l ((pv n).its.map Prod.fst) 1).toNat s)).length) (sC (tg (tg (β 26) 0) 2))], vi 0] | 5 => σ 27 = .agg #[vi ((pv n).k), vi ((pv n).l), .slice (sA (tg (tg (β 26) 0) 2)) ((plainL (withL ((pv n).its.map Prod.fst) (freeF (pv n).k (pv n).l ((pv n).its.map Prod.fst) 1).toNat s)).length) (sC (tg (tg (β 26) 0) 2))] | 6 => True | 7 => σ 10 = vp (pb (β 10)) ∧ X 3 = eB (pb (β 10)) 86 #[vi 0, vi 0, .slice none 0 0] | 8 => X 4 = eB (pb (β 10)) 86 #[vi ((pv n).k), vi ((pv n).l), .slice (sA (tg (tg (β 26) 0) 2)) ((plainL (withL ((pv n).its.map Prod.fst) (freeF (pv n).k (pv n).l ((pv n).its.map Prod.fst) 1).toNat s)).length) (sC (tg (tg (β 26) 0) 2))] | _ => True) [0, 1, 2, 4] [0, 3, 4, 5, 6, 7, 8] [(10, 7, 3, 12), (10, 4, 1, 11), (0, 0, 4, 4), (0, 5, 2, 2)] hst5 ?_ ?_ ?_
      · exact fun ix _ _ _ _ _ _ hs hb hx h => match ix, h with
        | 3, h => by dsimp only at h ⊢; rw [← hs 26 rfl, ← hb 26 rfl, ← hx 2 rfl]; exact h
        | 4, h => by dsimp only at h ⊢; rw [← hs 22 rfl, ← hb 26 rfl]; exact h
        | 5, h => by dsimp only at h ⊢; rw [← hs 27 rfl, ← hb 26 rfl]; exact h
        | 7, h => by dsimp only at h ⊢; rw [← hs 10 rfl, ← hb 10 rfl, ← hx 3 rfl]; exact h
        | 8, h => by dsimp only at h ⊢; rw [← hb 10 rfl, ← hb 26 rfl, ← hx 4 rfl]; exact h
        | 0, _ | 1, _ | 2, _ | 6, _ | _ + 9, _ => trivial
      · refine ⟨?_, ?_, ?_, ?_, ?_, ?_, ?_, trivial⟩
        · exact xs4 rfl id fun cx => run_loadB (n := 3) rfl (by kernel_rfl) (by kernel_rfl) (cx.ou 7) (cx.bi 1 rfl) (nle rfl) rfl
        · refine sv_any rfl rfl fun ρ β W X cx => ?_
          refine DoesU.call (run_callF (args := #[.agg #[vi ((pv n).k), vi ((pv n).l), .slice A15_2 ((pv n).its.length) c15_2], vi ((freeF (pv n).k (pv n).l ((pv n).its.map Prod.fst) 1)), .string s]) rfl cx.sees rfl (by kernel_rfl) (map3 (cx.an 0) (cx.an 1) (cx.an 2))) ?_
          refine (hput_ok (pv n) _ _ (freeF (pv n).k (pv n).l ((pv n).its.map Prod.fst) 1) s _ hwf (At.of_own (cx.ri 0 rfl)) hs400 hpe).mono ?_
          rintro e W1 ⟨A4, c4, rfl, ho, hx⟩
          refine ⟨_, rfl, post_call [eO 9 1 (.slice A4 (plainL (withL ((pv n).its.map Prod.fst) (freeF (pv n).k (pv n).l ((pv n).its.map Prod.fst) 1).toNat s)).length c4) (plainL (withL ((pv n).its.map Prod.fst) (freeF (pv n).k (pv n).l ((pv n).its.map Prod.fst) 1).toNat s)).length ((plainL (withL ((pv n).its.map Prod.fst) (freeF (pv n).k (pv n).l ((pv n).its.map Prod.fst) 1).toNat s)).map Value.string)] rfl rfl hx (one_new (eO_new ho)) (List.pairwise_singleton _ _) (fun σ β' X' hs hb hv hN => ?_)⟩
          have hv1 := (hv 26 rfl).1; have hv2 := (hv 26 rfl).2
          exact ⟨hv1.trans (by rw [hv2]; rfl), (by rw [hv2]; exact (List.cons.inj hN).1)⟩
        · exact sv rfl rfl rfl rfl rfl _ (fun _ _ _ h => h) (fun β β' h => by rw [h 26 (by decide)]) fun ρ β W X cx => run_move' rfl (dTn (cx.an 3)).1
        · exact sv rfl rfl rfl rfl rfl _ (fun _ _ _ h => h) (fun β β' h => by rw [h 26 (by decide)]) fun ρ β W X cx => run_extract' rfl (dTn (cx.an 4)) rfl
        · exact xs4 rfl id fun cx => run_extract' rfl (dTn (cx.an 4)) rfl
        · refine sv_any rfl rfl fun ρ β W X cx => ?_
          exact dv_alloc (cs := #[vi 0, vi 0, .slice none 0 0]) rfl (by kernel_rfl) rfl rfl (fun σ β' X' hs hb hv hx => ⟨hv, hx⟩)
        · refine sv_any rfl rfl fun ρ β W X cx => ?_
          exact dv_store (n := 3) rfl (dTn (cx.an 7)).1 (dTn (cx.an 5)) (by kernel_rfl) (by kernel_rfl) (by kernel_rfl) cx (dTn (cx.an 7)).2 rfl (nle rfl) (by kernel_rfl) rfl rfl rfl (fun σ β' X' hs hb hx => by rw [hb 10, hb 26]; exact hx)
      intro σ β X W6 hD hst6 fr hfr
      obtain ⟨A26_6, hu_A26_6⟩ : ∃ z, sA (tg (tg (β 26) 0) 2) = z := ⟨_, rfl⟩
      obtain ⟨c26_6, hu_c26_6⟩ : ∃ z, sC (tg (tg (β 26) 0) 2) = z := ⟨_, rfl⟩
      obtain ⟨B10_6, hu_B10_6⟩ : ∃ z, pb (β 10) = z := ⟨_, rfl⟩
      simp only [exq 2 ((dTn (hD 3 lq)).2), exq 4 ((dTn (hD 8 lq))), hu_A26_6, hu_c26_6, hu_B10_6] at hst6
      simp only [ed 26 ((dTn (hD 3 lq)).1), ed 22 ((dTn (hD 4 lq))), ed 27 ((dTn (hD 5 lq))), ed 10 ((dTn (hD 7 lq)).1), hu_A26_6, hu_c26_6, hu_B10_6] at hfr
      clear hD hu_A26_6 hu_c26_6 hu_B10_6; subst hfr; clear σ β X
      refine then_normal (wp_seq (wp_region_P [0, 1] [.k 29 (vi 0), .k 30 (.bool false)] [(29, 0, 2, 31)] hst6 fun W7 hst7 => ?_))
      refine then_normal (wp_cond_false (show Act.eval _ _ = .bool false from rfl) (wp_skip (then_normal (wp_seq (wp_region_P [0, 1] [.k 31 (vi ((freeF (pv n).k (pv n).l ((pv n).its.map Prod.fst) 1))), .k 6 (vi ((freeF (pv n).k (pv n).l ((pv n).its.map Prod.fst) 1)))] [(6, 1, 1, 7), (24, 0, 1, 25)] hst7 fun W8 hst8 => ?_)))))
      refine then_normal (wp_ret ?_)
      refine bodyPost_ret (v := vi ((freeF (pv n).k (pv n).l ((pv n).its.map Prod.fst) 1))) (results_tmp Tryd.results32 rfl) rfl ?_
      exact Ret.int (by rw [roomI, if_pos (by simp_all), if_pos hpe]) hst8.ext
    · skip
      refine wp_region_Y [0, 0, 0, 7, 15, 31, 31, 0, 191, 511] [[1], [], [], [0], [], [], [], [], [3]] [[], [], [], [2], [], [], [], [3], [4]] [[], [], [], [], [], [], [], [], [3]] [.c 23 (.agg #[vi ((pv n).k), vi ((pv n).l), .slice A15_2 ((pv n).its.length) c15_2]), .k 24 (vi ((freeF (pv n).k (pv n).l ((pv n).its.map Prod.fst) 1))), .k 25 (.string s), .a 26, .a 22, .a 27, .c 28 (vi ((putErr (pv n).k (pv n).l ((pv n).its.map Prod.fst) (freeF (pv n).k (pv n).l ((pv n).its.map Prod.fst) 1) s))), .a 10, .n, .k 11 (vi ((putErr (pv n).k (pv n).l ((pv n).its.map Prod.fst) (freeF (pv n).k (pv n).l ((pv n).its.map Prod.fst) 1) s)))] (fun ix σ β X => match ix with | 0 => True | 1 => True | 2 => True | 3 => σ 26 = .tuple #[.agg #[vi 0, vi 0, .slice (sA (tg (tg (β 26) 0) 2)) (([] : List ByteArray).length) (sC (tg (tg (β 26) 0) 2))], vi ((putErr (pv n).k (pv n).l ((pv n).its.map Prod.fst) (freeF (pv n).k (pv n).l ((pv n).its.map Prod.fst) 1) s))] ∧ X 2 = eO 9 1 (.slice (sA (tg (tg (β 26) 0) 2)) (([] : List ByteArray).length) (sC (tg (tg (β 26) 0) 2))) (([] : List ByteArray).length) (([] : List ByteArray).map Value.string) | 4 => σ 22 = .tuple #[.agg #[vi 0, vi 0, .slice (sA (tg (tg (β 26) 0) 2)) (([] : List ByteArray).length) (sC (tg (tg (β 26) 0) 2))], vi ((putErr (pv n).k (pv n).l ((pv n).its.map Prod.fst) (freeF (pv n).k (pv n).l ((pv n).its.map Prod.fst) 1) s))] | 5 => σ 27 = .agg #[vi 0, vi 0, .slice (sA (tg (tg (β 26) 0) 2)) (([] : List ByteArray).length) (sC (tg (tg (β 26) 0) 2))] | 6 => True | 7 => σ 10 = vp (pb (β 10)) ∧ X 3 = eB (pb (β 10)) 86 #[vi 0, vi 0, .slice none 0 0] | 8 => X 4 = eB (pb (β 10)) 86 #[vi 0, vi 0, .slice (sA (tg (tg (β 26) 0) 2)) (([] : List ByteArray).length) (sC (tg (tg (β 26) 0) 2))] | _ => True) [0, 1, 2, 4] [0, 3, 4, 5, 6, 7, 8] [(10, 7, 3, 12), (10, 4, 1, 11), (0, 0, 4, 4), (0, 5, 2, 2)] hst5 ?_ ?_ ?_
      · exact fun ix _ _ _ _ _ _ hs hb hx h => match ix, h with
        | 3, h => by dsimp only at h ⊢; rw [← hs 26 rfl, ← hb 26 rfl, ← hx 2 rfl]; exact h
        | 4, h => by dsimp only at h ⊢; rw [← hs 22 rfl, ← hb 26 rfl]; exact h
        | 5, h => by dsimp only at h ⊢; rw [← hs 27 rfl, ← hb 26 rfl]; exact h
        | 7, h => by dsimp only at h ⊢; rw [← hs 10 rfl, ← hb 10 rfl, ← hx 3 rfl]; exact h
        | 8, h => by dsimp only at h ⊢; rw [← hb 10 rfl, ← hb 26 rfl, ← hx 4 rfl]; exact h
        | 0, _ | 1, _ | 2, _ | 6, _ | _ + 9, _ => trivial
      · refine ⟨?_, ?_, ?_, ?_, ?_, ?_, ?_, trivial⟩
        · exact xs4 rfl id fun cx => run_loadB (n := 3) rfl (by kernel_rfl) (by kernel_rfl) (cx.ou 7) (cx.bi 1 rfl) (nle rfl) rfl
        · refine sv_any rfl rfl fun ρ β W X cx => ?_
          refine DoesU.call (run_callF (args := #[.agg #[vi ((pv n).k), vi ((pv n).l), .slice A15_2 ((pv n).its.length) c15_2], vi ((freeF (pv n).k (pv n).l ((pv n).its.map Prod.fst) 1)), .string s]) rfl cx.sees rfl (by kernel_rfl) (map3 (cx.an 0) (cx.an 1) (cx.an 2))) ?_
          refine (hput_bad (pv n) _ _ (freeF (pv n).k (pv n).l ((pv n).its.map Prod.fst) 1) s _ hwf (At.of_own (cx.ri 0 rfl)) hs400 hpe).mono ?_
          rintro e W1 ⟨A4, c4, rfl, ho, hx⟩
          refine ⟨_, rfl, post_call [eO 9 1 (.slice A4 (([] : List ByteArray).length) c4) (([] : List ByteArray).length) (([] : List ByteArray).map Value.string)] rfl rfl hx (one_new (eO_new ho)) (List.pairwise_singleton _ _) (fun σ β' X' hs hb hv hN => ?_)⟩
          have hv1 := (hv 26 rfl).1; have hv2 := (hv 26 rfl).2
          exact ⟨hv1.trans (by rw [hv2]; rfl), (by rw [hv2]; exact (List.cons.inj hN).1)⟩
        · exact sv rfl rfl rfl rfl rfl _ (fun _ _ _ h => h) (fun β β' h => by rw [h 26 (by decide)]) fun ρ β W X cx => run_move' rfl (dTn (cx.an 3)).1
        · exact sv rfl rfl rfl rfl rfl _ (fun _ _ _ h => h) (fun β β' h => by rw [h 26 (by decide)]) fun ρ β W X cx => run_extract' rfl (dTn (cx.an 4)) rfl
        · exact xs4 rfl id fun cx => run_extract' rfl (dTn (cx.an 4)) rfl
        · refine sv_any rfl rfl fun ρ β W X cx => ?_
          exact dv_alloc (cs := #[vi 0, vi 0, .slice none 0 0]) rfl (by kernel_rfl) rfl rfl (fun σ β' X' hs hb hv hx => ⟨hv, hx⟩)
        · refine sv_any rfl rfl fun ρ β W X cx => ?_
          exact dv_store (n := 3) rfl (dTn (cx.an 7)).1 (dTn (cx.an 5)) (by kernel_rfl) (by kernel_rfl) (by kernel_rfl) cx (dTn (cx.an 7)).2 rfl (nle rfl) (by kernel_rfl) rfl rfl rfl (fun σ β' X' hs hb hx => by rw [hb 10, hb 26]; exact hx)
      intro σ β X W9 hD hst9 fr hfr
      obtain ⟨A26_9, hu_A26_9⟩ : ∃ z, sA (tg (tg (β 26) 0) 2) = z := ⟨_, rfl⟩
      obtain ⟨c26_9, hu_c26_9⟩ : ∃ z, sC (tg (tg (β 26) 0) 2) = z := ⟨_, rfl⟩
      obtain ⟨B10_9, hu_B10_9⟩ : ∃ z, pb (β 10) = z := ⟨_, rfl⟩
      simp only [exq 2 ((dTn (hD 3 lq)).2), exq 4 ((dTn (hD 8 lq))), hu_A26_9, hu_c26_9, hu_B10_9] at hst9
      simp only [ed 26 ((dTn (hD 3 lq)).1), ed 22 ((dTn (hD 4 lq))), ed 27 ((dTn (hD 5 lq))), ed 10 ((dTn (hD 7 lq)).1), hu_A26_9, hu_c26_9, hu_B10_9] at hfr
      clear hD hu_A26_9 hu_c26_9 hu_B10_9; subst hfr; clear σ β X
      refine then_normal (wp_seq ?_)
      have hd11 : ((putErr (pv n).k (pv n).l ((pv n).its.map Prod.fst) (freeF (pv n).k (pv n).l ((pv n).its.map Prod.fst) 1) s) != 0) = true := (by simpa using hpe)
      refine wp_region_P [0, 1] [.k 29 (vi ((putErr (pv n).k (pv n).l ((pv n).its.map Prod.fst) (freeF (pv n).k (pv n).l ((pv n).its.map Prod.fst) 1) s))), .e 30 (.bool ((putErr (pv n).k (pv n).l ((pv n).its.map Prod.fst) (freeF (pv n).k (pv n).l ((pv n).its.map Prod.fst) 1) s) != 0)) (.bool true) (congrArg Value.bool hd11)] [(29, 0, 2, 31)] hst9 fun W10 hst10 => ?_
      refine then_normal (wp_cond_true (show Act.eval _ _ = .bool true from rfl) (wp_seq (wp_region_P [0] [.k 6 (vi 0)] [(6, 0, 1, 7)] hst10 fun W12 hst12 => ?_)))
      refine then_normal (wp_ret (then_ret ?_))
      refine bodyPost_ret (v := vi 0) (results_tmp Tryd.results32 rfl) rfl ?_
      exact Ret.int (by rw [roomI, if_pos (by simp_all), if_neg hpe]) hst12.ext
  refine wp_cond_true (show Act.eval _ _ = .bool true from (congrArg Value.bool (by rw [hs4]; rfl))) (wp_seq (wp_region_P [0] [.k 6 (vi 0)] [(6, 0, 1, 7)] hst3 fun W13 hst13 => ?_))
  refine then_normal (wp_ret (then_ret ?_))
  refine bodyPost_ret (v := vi 0) (results_tmp Tryd.results32 rfl) rfl ?_
  exact Ret.int (by rw [roomI, if_neg (by simp_all)]) hst13.ext
set_option maxRecDepth 100000 in
set_option maxHeartbeats 8000000 in
theorem hinsert_any (tt : TypeId) (tv : Value) (pv : Int → PV) (NA : Option Addr) (nc : Nat) (ns : List Int) (fresh tb : Int) (a b n1 n2 : Int) (ho : Bool) (RA : Option Addr) (rc : Nat) (rs : List Val) (w : World) (hS : PgsOk w tt tv pv) (hA : At w NA (ns.map (Value.int .i64))) (hnl : ns.length ≤ 100000) (hR : At w RA (flatR rs)) (hrl : rs.length ≤ 9223372036854775807) (hN : NoneAt w) :
    Calls Tryd.prog 9 #[.iface tt (tv), .slice NA ns.length nc, .int .i64 fresh, .int .i64 tb, .agg #[.int .i64 a, .int .i64 b, .int .i64 n1, .int .i64 n2, .bool ho, .slice RA rs.length rc]] w (InsPost (insA pv fresh tb ns (tbytesF a b n1 n2 ho rs)) w) := by
  go_enter Tryd.func9, Tryd.ntmps9
  have hst0 := St.start w
  refine wp_seq (wp_region_Y [0, 0, 0, 4] [] [[0], [1]] [] [.a 9, .a 10, .k 11 (.slice none 0 0), .k 12 (vi 0)] (fun ix σ β X => match ix with | 0 => σ 9 = vp (pb (β 9)) ∧ X 0 = eB (pb (β 9)) 41 #[vi a, vi b, vi n1, vi n2, .bool ho, .slice RA rs.length rc] | 1 => σ 10 = vp (pb (β 10)) ∧ X 1 = eB (pb (β 10)) 24 #[vi 0, vi 0] | _ => True) [0, 1] [0, 1] [(9, 0, 4, 13)] hst0 ?_ ?_ ?_)
  · exact fun ix _ _ _ _ _ _ hs hb hx h => match ix, h with
    | 0, h => by dsimp only at h ⊢; rw [← hs 9 rfl, ← hb 9 rfl, ← hx 0 rfl]; exact h
    | 1, h => by dsimp only at h ⊢; rw [← hs 10 rfl, ← hb 10 rfl, ← hx 1 rfl]; exact h
    | _ + 2, _ => trivial
  · refine ⟨?_, ?_, trivial⟩
    · refine sv_any rfl rfl fun ρ β W X cx => ?_
      exact dv_box (cs := #[vi a, vi b, vi n1, vi n2, .bool ho, .slice RA rs.length rc]) rfl (cx.ou 4) rfl rfl rfl (fun σ β' X' hs hb hv hx => ⟨hv, hx⟩)
    · refine sv_any rfl rfl fun ρ β W X cx => ?_
      exact dv_alloc (cs := #[vi 0, vi 0]) rfl (by kernel_rfl) rfl rfl (fun σ β' X' hs hb hv hx => ⟨hv, hx⟩)
  intro σ β X W1 hD hst1 fr hfr
  obtain ⟨B9_1, hu_B9_1⟩ : ∃ z, pb (β 9) = z := ⟨_, rfl⟩
  obtain ⟨B10_1, hu_B10_1⟩ : ∃ z, pb (β 10) = z := ⟨_, rfl⟩
  simp only [exq 0 ((dTn (hD 0 lq)).2), exq 1 ((dTn (hD 1 lq)).2), hu_B9_1, hu_B10_1] at hst1
  simp only [ed 9 ((dTn (hD 0 lq)).1), ed 10 ((dTn (hD 1 lq)).1), hu_B9_1, hu_B10_1] at hfr
  clear hD hu_B9_1 hu_B10_1; subst hfr; clear σ β X
  refine then_normal (wp_seq (wp_region_Z [0, 1, 3] [[0]] [.c 19 (.agg #[vi a, vi b, vi n1, vi n2, .bool ho, .slice RA rs.length rc]), .c 20 (.string (tbytesF a b n1 n2 ho rs)), .k 13 (.string (tbytesF a b n1 n2 ho rs))] [0, 1] [0, 1] [(13, 2, 1, 14), (5, 0, 2, 7)] hst1 ?_ fun W2 hst2 => ?_))
  · refine ⟨?_, ?_, trivial⟩
    · exact xs4 rfl id fun cx => run_loadB (n := 6) rfl (by kernel_rfl) (by kernel_rfl) (cx.ou 9) (cx.bi 0 rfl) (nle rfl) rfl
    · exact xsc rfl id rfl rfl fun cx => ⟨_, tbytes_any a b n1 n2 ho _ _ rs _ (hR.ext cx.upd.to_ext) (by first | omega | decide | (simp; done) | (simp; omega)) (hN.ext cx.upd.to_ext), (map1 (cx.an 0))⟩
  obtain ⟨s, hN_s⟩ : ∃ z, tbytesF a b n1 n2 ho rs = z := ⟨_, rfl⟩
  rw [hN_s]
  have hs309 : s.size ≤ 309 := by rw [← hN_s]; exact tb_le _ _ _ _ _ _
  refine then_normal (wp_seq (wp_seq (wp_region_P [0, 1, 3, 7, 15, 31, 63, 127, 255, 511, 1023, 2047, 4095, 8191] [.k 21 (.string (s)), .k 22 (.bool (s.toList == ((⟨#[]⟩ : ByteArray)).toList)), .k 23 (.bool (s.toList == ((⟨#[]⟩ : ByteArray)).toList)), .z 24 (!(s.toList == ((⟨#[]⟩ : ByteArray)).toList)) (vi tb), .z 25 (!(s.toList == ((⟨#[]⟩ : ByteArray)).toList)) (.bool (decide (tb < 0))), tO 26 (s.toList == ((⟨#[]⟩ : ByteArray)).toList) (decide (tb < 0)), .k 27 (.bool ((s.toList == ((⟨#[]⟩ : ByteArray)).toList) || (decide (tb < 0)))), .z 28 (!((s.toList == ((⟨#[]⟩ : ByteArray)).toList) || (decide (tb < 0)))) (vi tb), .z 29 (!((s.toList == ((⟨#[]⟩ : ByteArray)).toList) || (decide (tb < 0)))) (.bool (decide (65535 < tb))), tO 30 ((s.toList == ((⟨#[]⟩ : ByteArray)).toList) || (decide (tb < 0))) (decide (65535 < tb)), .k 31 (.bool (((s.toList == ((⟨#[]⟩ : ByteArray)).toList) || (decide (tb < 0))) || (decide (65535 < tb)))), .z 32 (!(((s.toList == ((⟨#[]⟩ : ByteArray)).toList) || (decide (tb < 0))) || (decide (65535 < tb)))) (vi fresh), .z 33 (!(((s.toList == ((⟨#[]⟩ : ByteArray)).toList) || (decide (tb < 0))) || (decide (65535 < tb)))) (.bool (decide (400 ≤ fresh))), tO 34 (((s.toList == ((⟨#[]⟩ : ByteArray)).toList) || (decide (tb < 0))) || (decide (65535 < tb))) (decide (400 ≤ fresh))] [(21, 0, 14, 35)] hst2 fun W3 hst3 => ?_)))
  refine then_normal ?_
  rcases Bool.eq_false_or_eq_true ((((s.toList == ((⟨#[]⟩ : ByteArray)).toList) || (decide (tb < 0))) || (decide (65535 < tb))) || (decide (400 ≤ fresh))) with hs4 | hs4
  · skip
    have hs4p := hs4
    simp only [zB] at hs4p
    refine wp_cond_true (show Act.eval _ _ = .bool true from (congrArg Value.bool hs4)) (wp_seq (wp_region_Y [0, 1, 3, 7] [[], [1]] [[], [2]] [[], [1]] [.k 35 (.agg #[vi 0, vi 0]), .n, .k 11 (.slice none 0 0), .k 12 (vi 1)] (fun ix σ β X => match ix with | 0 => True | 1 => X 2 = eB B10_1 24 #[vi 0, vi 0] | _ => True) [0, 2] [1] [(11, 2, 2, 13), (22, 0, 1, 23)] hst3 ?_ ?_ ?_))
    · exact fun ix _ _ _ _ _ _ hs hb hx h => match ix, h with
      | 1, h => by dsimp only at h ⊢; rw [← hx 2 rfl]; exact h
      | 0, _ | _ + 2, _ => trivial
    · refine ⟨?_, trivial⟩
      · refine sv_any rfl rfl fun ρ β W X cx => ?_
        exact dv_store (n := 2) rfl (cx.ou 10) (cx.an 0) (by kernel_rfl) (by kernel_rfl) (by kernel_rfl) cx (cx.init 1 _ rfl) rfl (nle rfl) (by kernel_rfl) rfl rfl rfl (fun σ β' X' hs hb hx => hx)
    intro σ β X W5 hD hst5 fr hfr
    simp only [exq 2 ((dTn (hD 1 lq)))] at hst5
    clear hD; subst hfr; clear σ β X
    refine then_normal (wp_ret (then_ret ?_))
    have hr6 : W5.cell? ⟨B10_1, 0, none⟩ = some (vi 0) := (hst5.blk 1 rfl).cell 0
    have hr7 : W5.cell? ⟨B10_1, 1, none⟩ = some (vi 0) := (hst5.blk 1 rfl).cell 1
    refine bodyPost_ret (v := .tuple #[.agg #[vi 0, vi 0], .slice none 0 0, vi 1]) (by simp [results, Tryd.results9, go_sem, hr6, hr7]) rfl ?_
    exact InsPost.nil (by rw [insA, insBad, if_pos hs4]) hst5.ext
  have hs4p := hs4
  simp only [zB] at hs4p
  obtain ⟨⟨⟨hs4p1, hs4p2⟩, hs4p3⟩, hs4p4⟩ := hs4p
  refine wp_cond_false (show Act.eval _ _ = .bool false from (congrArg Value.bool hs4)) (wp_skip (then_normal (wp_seq (wp_seq (wp_region_P [0, 1, 0] [.k 36 (.slice NA ns.length nc), .k 37 (vi ((ns.length : Int))), .k 38 (vi 0)] [(36, 0, 3, 39)] hst3 fun W8 hst8 => ?_)))))
  refine then_normal (wp_block ?_)
  refine wp_loopN (fun mz az W => ∃ k : Nat, ∃ u9_ : List Value, k ≤ ns.length ∧ insP pv tb s ns = insP pv tb s (ns.drop k) ∧ mz = ns.length - k ∧ az = ⟨#[.iface tt (tv), .slice NA ns.length nc, vi fresh, vi tb, .agg #[vi a, vi b, vi n1, vi n2, .bool ho, .slice RA rs.length rc], undef, undef, undef, undef, vp B9_1, vp B10_1, (gu u9_ 0), (gu u9_ 1), .string (s), undef, (gu u9_ 2), (gu u9_ 3), (gu u9_ 4), (gu u9_ 5), .agg #[vi a, vi b, vi n1, vi n2, .bool ho, .slice RA rs.length rc], .string (s), .string (s), .bool (s.toList == ((⟨#[]⟩ : ByteArray)).toList), .bool (s.toList == ((⟨#[]⟩ : ByteArray)).toList), mb (!(s.toList == ((⟨#[]⟩ : ByteArray)).toList)) (vi tb), mb (!(s.toList == ((⟨#[]⟩ : ByteArray)).toList)) (.bool (decide (tb < 0))), .bool ((s.toList == ((⟨#[]⟩ : ByteArray)).toList) || (decide (tb < 0))), .bool ((s.toList == ((⟨#[]⟩ : ByteArray)).toList) || (decide (tb < 0))), mb (!((s.toList == ((⟨#[]⟩ : ByteArray)).toList) || (decide (tb < 0)))) (vi tb), mb (!((s.toList == ((⟨#[]⟩ : ByteArray)).toList) || (decide (tb < 0)))) (.bool (decide (65535 < tb))), .bool (((s.toList == ((⟨#[]⟩ : ByteArray)).toList) || (decide (tb < 0))) || (decide (65535 < tb))), .bool (((s.toList == ((⟨#[]⟩ : ByteArray)).toList) || (decide (tb < 0))) || (decide (65535 < tb))), mb (!(((s.toList == ((⟨#[]⟩ : ByteArray)).toList) || (decide (tb < 0))) || (decide (65535 < tb)))) (vi fresh), mb (!(((s.toList == ((⟨#[]⟩ : ByteArray)).toList) || (decide (tb < 0))) || (decide (65535 < tb)))) (.bool (decide (400 ≤ fresh))), .bool ((((s.toList == ((⟨#[]⟩ : ByteArray)).toList) || (decide (tb < 0))) || (decide (65535 < tb))) || (decide (400 ≤ fresh))), undef, .slice NA ns.length nc, vi ((ns.length : Int)), vi ((k : Int)), (gu u9_ 6), (gu u9_ 7), (gu u9_ 8), (gu u9_ 9), (gu u9_ 10), (gu u9_ 11), (gu u9_ 12), (gu u9_ 13), (gu u9_ 14), (gu u9_ 15), (gu u9_ 16), (gu u9_ 17), (gu u9_ 18), (gu u9_ 19), (gu u9_ 20), (gu u9_ 21), (gu u9_ 22), (gu u9_ 23), (gu u9_ 24), (gu u9_ 25), (gu u9_ 26), (gu u9_ 27), (gu u9_ 28), (gu u9_ 29), (gu u9_ 30), (gu u9_ 31), (gu u9_ 32), (gu u9_ 33), (gu u9_ 34), (gu u9_ 35), undef, undef, undef, undef, undef, undef, undef, undef, undef, undef, undef, undef, undef], []⟩ ∧ St w [] [eB B9_1 41 #[vi a, vi b, vi n1, vi n2, .bool ho, .slice RA rs.length rc], eB B10_1 24 #[vi 0, vi 0]] W) (ns.length - 0) ?_ ?_
  · -- the loop begins
    have hp10 := hst8.pick [0, 1] (by decide) rfl
    exact ⟨0, [.slice none 0 0, vi 0, undef, undef, undef, undef, undef, undef, undef, undef, undef, undef, undef, undef, undef, undef, undef, undef, undef, undef, undef, undef, undef, undef, undef, undef, undef, undef, undef, undef, undef, undef, undef, undef, undef, undef], Nat.zero_le _, rfl, rfl, rfl, hp10⟩
  rintro n9 a9 W9 ⟨k, u9_, hk, hkr, rfl, rfl, hst9⟩
  refine wp_seq (wp_region_P [0] [.k 39 (.bool (decide ((k : Int) < (ns.length : Int))))] [(39, 0, 1, 40)] hst9 fun W11 hst11 => ?_)
  refine then_normal (wp_seq ?_)
  rcases Bool.eq_false_or_eq_true (decide ((k : Int) < (ns.length : Int))) with hs12 | hs12
  · skip
    have hs12p : (k : Int) < (ns.length : Int) := by simpa using hs12
    refine wp_cond_true (show Act.eval _ _ = .bool true from (congrArg Value.bool hs12)) (wp_skip (then_normal (wp_seq (wp_block (wp_seq (wp_region_Z [0, 1, 3] [] [.c 40 (.pointer (some ((ad NA).add k))), .c 41 (vi (ns.getD k 0)), .k 15 (vi (ns.getD k 0))] [0, 1] [0, 1] [(15, 2, 1, 16), (24, 0, 2, 26)] hst11 ?_ fun W13 hst13 => ?_))))))
    · refine ⟨?_, ?_, trivial⟩
      · exact xs4 rfl id fun cx => run_indexSl (e := 3) (m := k) rfl (by kernel_rfl) (by kernel_rfl) (cx.ou 36) (cx.ou 38) (by omega) (by omega) (hA.ext cx.upd.to_ext) (by simp)
      · exact xs4 rfl id fun cx => run_load1 rfl (by kernel_rfl) (cx.an 0) (At.cellAd (hA.ext cx.upd.to_ext) (getD_int (by omega)))
    refine then_normal (wp_seq ?_)
    obtain ⟨n, hN_n⟩ : ∃ z, ns.getD k 0 = z := ⟨_, rfl⟩
    rw [hN_n]
    refine wp_region_Z [0, 0, 3, 7, 15, 15, 31, 127] [] [.k 43 (.iface tt (tv)), .k 44 (vi (n)), .c 45 (.tuple #[vi ((ofF (pv n))), .bool ((hdF (pv n)))]), .k 42 (.tuple #[vi ((ofF (pv n))), .bool ((hdF (pv n)))]), .k 46 (vi ((ofF (pv n)))), .k 47 (.bool ((hdF (pv n)))), .k 16 (vi ((ofF (pv n)))), .k 17 (.bool ((hdF (pv n))))] [0, 1] [2] [(16, 6, 2, 18), (24, 3, 1, 25), (0, 0, 3, 3), (0, 4, 2, 2)] hst13 ?_ fun W14 hst14 => ?_
    · refine ⟨?_, trivial⟩
      · exact xsc rfl id rfl rfl fun cx => ⟨_, of_any _ _ pv n _ (hS.ext cx.upd.to_ext), (map2 (cx.an 0) (cx.an 1))⟩
    refine then_normal (wp_seq (wp_region_P [0, 1, 3, 3, 15, 31] [.k 48 (.bool ((hdF (pv n)))), .k 49 (.bool ((hdF (pv n)))), .z 50 (hdF (pv n)) (vi ((ofF (pv n)))), .z 51 (hdF (pv n)) (vi tb), .z 52 (hdF (pv n)) (.bool ((ofF (pv n)) == tb)), tA 53 (hdF (pv n)) ((ofF (pv n)) == tb)] [(48, 0, 6, 54)] hst14 fun W15 hst15 => ?_))
    refine then_normal ?_
    rcases Bool.eq_false_or_eq_true ((hdF (pv n)) && ((ofF (pv n)) == tb)) with hs16 | hs16
    · skip
      have hs16p := hs16
      simp only [zB] at hs16p
      obtain ⟨hs16p1, hs16p2⟩ := hs16p
      refine wp_cond_true (show Act.eval _ _ = .bool true from (congrArg Value.bool hs16)) (wp_seq (wp_region_Z [0, 0, 0, 7, 15] [] [.k 54 (.iface tt (tv)), .k 55 (vi (n)), .k 56 (.string (s)), .c 57 (vi ((roomI (pv n) s))), .k 18 (vi ((roomI (pv n) s)))] [0, 1] [3] [(18, 4, 1, 19), (35, 0, 4, 39)] hst15 ?_ fun W17 hst17 => ?_))
      · refine ⟨?_, trivial⟩
        · exact xsc rfl id rfl rfl fun cx => ⟨_, hroomi_any _ _ pv n s _ (hS.ext cx.upd.to_ext) (by omega), (map3 (cx.an 0) (cx.an 1) (cx.an 2))⟩
      refine then_normal (wp_seq (wp_region_P [0, 1] [.k 58 (vi ((roomI (pv n) s))), .k 59 (.bool (decide (0 < (roomI (pv n) s))))] [(58, 0, 2, 60)] hst17 fun W18 hst18 => ?_))
      refine then_normal ?_
      rcases Bool.eq_false_or_eq_true (decide (0 < (roomI (pv n) s))) with hs19 | hs19
      · skip
        have hs19p : 0 < (roomI (pv n) s) := by simpa using hs19
        refine wp_cond_true (show Act.eval _ _ = .bool true from (congrArg Value.bool hs19)) (wp_seq (wp_region_Y [0, 0, 3, 0, 0, 0, 56, 120, 7, 511, 1023] [[], [], [], [], [], [], [], [], [1]] [[], [], [], [], [], [], [], [2], [3]] [[], [], [], [], [], [], [], [], [1]] [.k 60 (vi (n)), .k 61 (vi ((roomI (pv n) s))), .k 62 (.agg #[vi (n), vi ((roomI (pv n) s))]), .k 63 (vi (n)), .k 64 (vi ((roomI (pv n) s))), .k 65 (.string (s)), .k 66 (.agg #[vi (n), vi ((roomI (pv n) s)), .string (s)]), .a 67, .n, .a 11, .k 12 (vi 0)] (fun ix σ β X => match ix with | 0 => True | 1 => True | 2 => True | 3 => True | 4 => True | 5 => True | 6 => True | 7 => σ 67 = .slice ((some ⟨(pb' (β 67)), 0, none⟩)) 1 1 ∧ X 2 = eO 99 3 (.slice ((some ⟨(pb' (β 67)), 0, none⟩)) 1 1) 1 (cellsE (n, (roomI (pv n) s), s)) | 8 => X 3 = eB B10_1 24 #[vi (n), vi ((roomI (pv n) s))] | 9 => σ 11 = .slice ((some ⟨(pb' (β 67)), 0, none⟩)) 1 1 | _ => True) [0, 2, 3] [7, 8, 9] [(11, 9, 2, 13), (47, 0, 8, 55)] hst18 ?_ ?_ ?_))
        · exact fun ix _ _ _ _ _ _ hs hb hx h => match ix, h with
          | 7, h => by dsimp only at h ⊢; rw [← hs 67 rfl, ← hb 67 rfl, ← hx 2 rfl]; exact h
          | 8, h => by dsimp only at h ⊢; rw [← hx 3 rfl]; exact h
          | 9, h => by dsimp only at h ⊢; rw [← hs 11 rfl, ← hb 67 rfl]; exact h
          | 0, _ | 1, _ | 2, _ | 3, _ | 4, _ | 5, _ | 6, _ | _ + 10, _ => trivial
        · refine ⟨?_, ?_, ?_, trivial⟩
          · refine sv_any rfl rfl fun ρ β W X cx => ?_
            have fF66 : ρ (.tmp 66) = .agg #[vi (n), vi ((roomI (pv n) s)), .string (s)] := (cx.an 6)
            exact dv_litN (e := 99) (sz := 3) (xs := [vi (n), vi ((roomI (pv n) s)), .string (s)]) rfl (by simp [go_sem, fF66]) rfl (by decide) rfl rfl (fun σ β' X' hs hb hv hx => ⟨hv, hx⟩)
          · refine sv_any rfl rfl fun ρ β W X cx => ?_
            exact dv_store (n := 2) rfl (cx.ou 10) (cx.an 2) (by kernel_rfl) (by kernel_rfl) (by kernel_rfl) cx (cx.init 1 _ rfl) rfl (nle rfl) (by kernel_rfl) rfl rfl rfl (fun σ β' X' hs hb hx => hx)
          · exact sv rfl rfl rfl rfl rfl _ (fun _ _ _ h => h) (fun β β' h => by rw [h 67 (by decide)]) fun ρ β W X cx => run_assign' rfl (dTn (cx.an 7)).1
        intro σ β X W20 hD hst20 fr hfr
        obtain ⟨B67_20, hu_B67_20⟩ : ∃ z, pb' (β 67) = z := ⟨_, rfl⟩
        simp only [exq 2 ((dTn (hD 7 lq)).2), exq 3 ((dTn (hD 8 lq))), hu_B67_20] at hst20
        simp only [ed 67 ((dTn (hD 7 lq)).1), ed 11 ((dTn (hD 9 lq))), hu_B67_20] at hfr
        clear hD hu_B67_20; subst hfr; clear σ β X
        refine then_normal (wp_ret (blk_ret (then_ret (then_ret (blk_ret (then_ret ?_))))))
        have hr21 : W20.cell? ⟨B10_1, 0, none⟩ = some (vi (n)) := (hst20.blk 2 rfl).cell 0
        have hr22 : W20.cell? ⟨B10_1, 1, none⟩ = some (vi ((roomI (pv n) s))) := (hst20.blk 2 rfl).cell 1
        refine bodyPost_ret (v := .tuple #[.agg #[vi (n), vi ((roomI (pv n) s))], .slice ((some ⟨B67_20, 0, none⟩)) 1 1, vi 0]) (by simp [results, Tryd.results9, go_sem, hr21, hr22]) rfl ?_
        exact InsPost.of (l := [(n, roomI (pv n) s, s)]) (by rw [insA, insBad, if_neg (by rw [hs4]; decide), insR]; rw [hkr, insP_at (by omega), hN_n, if_pos (by rw [hs16, hs19]; rfl)]) rfl rfl (hst20.own' 1 rfl) hst20.ext
      have hs19p : ¬ (0 < (roomI (pv n) s)) := by simpa using hs19
      refine wp_cond_false (show Act.eval _ _ = .bool false from (congrArg Value.bool hs19)) (wp_skip (blk_normal (then_normal (wp_region_P [0, 1] [tI 68 ((k : Int) + 1) (by omega), .k 38 (vi ((k : Int) + 1))] [(38, 1, 1, 39), (29, 0, 1, 30)] hst18 fun W23 hst23 => ?_))))
      refine then_normal ?_
      refine ⟨ns.length - ((k + 1)), by omega, ?_⟩
      have hp24 := hst23.pick [0, 1] (by decide) rfl
      exact ⟨(k + 1), [(gu u9_ 0), (gu u9_ 1), vi (n), vi ((ofF (pv n))), .bool ((hdF (pv n))), vi ((roomI (pv n) s)), .bool (decide ((k : Int) < (ns.length : Int))), .pointer (some ((ad NA).add k)), vi (n), .tuple #[vi ((ofF (pv n))), .bool ((hdF (pv n)))], .iface tt (tv), vi (n), .tuple #[vi ((ofF (pv n))), .bool ((hdF (pv n)))], vi ((ofF (pv n))), .bool ((hdF (pv n))), .bool ((hdF (pv n))), .bool ((hdF (pv n))), mb (hdF (pv n)) (vi ((ofF (pv n)))), mb (hdF (pv n)) (vi tb), mb (hdF (pv n)) (.bool ((ofF (pv n)) == tb)), .bool ((hdF (pv n)) && ((ofF (pv n)) == tb)), .iface tt (tv), vi (n), .string (s), vi ((roomI (pv n) s)), vi ((roomI (pv n) s)), .bool (decide (0 < (roomI (pv n) s))), (gu u9_ 27), (gu u9_ 28), (gu u9_ 29), (gu u9_ 30), (gu u9_ 31), (gu u9_ 32), (gu u9_ 33), (gu u9_ 34), vi ((k : Int) + 1)], by omega, by rw [hkr, insP_at (by omega), hN_n, if_neg (by rw [hs16, hs19]; simp)], rfl, rfl, hp24⟩
    have hs16p := hs16
    simp only [zB] at hs16p
    refine wp_cond_false (show Act.eval _ _ = .bool false from (congrArg Value.bool hs16)) (wp_skip (blk_normal (then_normal (wp_region_P [0, 1] [tI 68 ((k : Int) + 1) (by omega), .k 38 (vi ((k : Int) + 1))] [(38, 1, 1, 39), (29, 0, 1, 30)] hst15 fun W25 hst25 => ?_))))
    refine then_normal ?_
    refine ⟨ns.length - ((k + 1)), by omega, ?_⟩
    have hp26 := hst25.pick [0, 1] (by decide) rfl
    exact ⟨(k + 1), [(gu u9_ 0), (gu u9_ 1), vi (n), vi ((ofF (pv n))), .bool ((hdF (pv n))), (gu u9_ 5), .bool (decide ((k : Int) < (ns.length : Int))), .pointer (some ((ad NA).add k)), vi (n), .tuple #[vi ((ofF (pv n))), .bool ((hdF (pv n)))], .iface tt (tv), vi (n), .tuple #[vi ((ofF (pv n))), .bool ((hdF (pv n)))], vi ((ofF (pv n))), .bool ((hdF (pv n))), .bool ((hdF (pv n))), .bool ((hdF (pv n))), mb (hdF (pv n)) (vi ((ofF (pv n)))), mb (hdF (pv n)) (vi tb), mb (hdF (pv n)) (.bool ((ofF (pv n)) == tb)), .bool ((hdF (pv n)) && ((ofF (pv n)) == tb)), (gu u9_ 21), (gu u9_ 22), (gu u9_ 23), (gu u9_ 24), (gu u9_ 25), (gu u9_ 26), (gu u9_ 27), (gu u9_ 28), (gu u9_ 29), (gu u9_ 30), (gu u9_ 31), (gu u9_ 32), (gu u9_ 33), (gu u9_ 34), vi ((k : Int) + 1)], by omega, by rw [hkr, insP_at (by omega), hN_n, if_neg (by rw [hs16]; simp)], rfl, rfl, hp26⟩
  have hs12p : ¬ ((k : Int) < (ns.length : Int)) := by simpa using hs12
  refine wp_cond_false (show Act.eval _ _ = .bool false from (congrArg Value.bool hs12)) (wp_exit (then_exit (then_exit (blk_eq (then_normal (wp_seq (wp_seq (wp_region_P [0, 1] [.k 69 (vi fresh), .k 70 (.bool (decide (fresh < 0)))] [(69, 0, 2, 71)] hst11 fun W27 hst27 => ?_))))))))
  refine then_normal ?_
  rcases Bool.eq_false_or_eq_true (decide (fresh < 0)) with hs28 | hs28
  · skip
    have hs28p : fresh < 0 := by simpa using hs28
    refine wp_cond_true (show Act.eval _ _ = .bool true from (congrArg Value.bool hs28)) (wp_seq (wp_region_Y [0, 1, 3, 7] [[], [1]] [[], [2]] [[], [1]] [.k 71 (.agg #[vi 0, vi 0]), .n, .k 11 (.slice none 0 0), .k 12 (vi 23)] (fun ix σ β X => match ix with | 0 => True | 1 => X 2 = eB B10_1 24 #[vi 0, vi 0] | _ => True) [0, 2] [1] [(11, 2, 2, 13), (58, 0, 1, 59)] hst27 ?_ ?_ ?_))
    · exact fun ix _ _ _ _ _ _ hs hb hx h => match ix, h with
      | 1, h => by dsimp only at h ⊢; rw [← hx 2 rfl]; exact h
      | 0, _ | _ + 2, _ => trivial
    · refine ⟨?_, trivial⟩
      · refine sv_any rfl rfl fun ρ β W X cx => ?_
        exact dv_store (n := 2) rfl (cx.ou 10) (cx.an 0) (by kernel_rfl) (by kernel_rfl) (by kernel_rfl) cx (cx.init 1 _ rfl) rfl (nle rfl) (by kernel_rfl) rfl rfl rfl (fun σ β' X' hs hb hx => hx)
    intro σ β X W29 hD hst29 fr hfr
    simp only [exq 2 ((dTn (hD 1 lq)))] at hst29
    clear hD; subst hfr; clear σ β X
    refine then_normal (wp_ret (then_ret ?_))
    have hr30 : W29.cell? ⟨B10_1, 0, none⟩ = some (vi 0) := (hst29.blk 1 rfl).cell 0
    have hr31 : W29.cell? ⟨B10_1, 1, none⟩ = some (vi 0) := (hst29.blk 1 rfl).cell 1
    refine bodyPost_ret (v := .tuple #[.agg #[vi 0, vi 0], .slice none 0 0, vi 23]) (by simp [results, Tryd.results9, go_sem, hr30, hr31]) rfl ?_
    exact InsPost.nil (by rw [insA, insBad, if_neg (by rw [hs4]; decide), insR]; rw [hkr, List.drop_of_length_le (by omega)]; show (if _ then _ else _) = _; rw [if_pos (by omega)]) hst29.ext
  have hs28p : ¬ (fresh < 0) := by simpa using hs28
  refine wp_cond_false (show Act.eval _ _ = .bool false from (congrArg Value.bool hs28)) (wp_skip (then_normal (wp_seq (wp_region_Y [0, 1, 0, 0, 12, 0, 0, 96, 224, 508, 1023, 2047, 4095] [[], [], [], [], [], [], [], [], [], [3, 2], [1]] [[], [], [], [], [2], [], [], [], [3], [4], [5]] [[], [], [], [], [], [], [], [], [], [2], [1]] [.k 72 (vi fresh), .k 73 (.agg #[vi fresh, vi 1]), .k 74 (vi fresh), .k 75 (vi tb), .a 76, .k 77 (vi fresh), .k 78 (.string (s)), .k 79 (.agg #[vi fresh, vi 1, .string (s)]), .a 80, .a 81, .n, .a 11, .k 12 (vi 0)] (fun ix σ β X => match ix with | 0 => True | 1 => True | 2 => True | 3 => True | 4 => σ 76 = .slice (sA (β 76)) 2 (sC (β 76)) ∧ X 2 = eO 99 3 (.slice (sA (β 76)) 2 (sC (β 76))) 2 ((bgL fresh tb).flatMap cellsE) | 5 => True | 6 => True | 7 => True | 8 => σ 80 = .slice ((some ⟨(pb' (β 80)), 0, none⟩)) 1 1 ∧ X 3 = eO 99 3 (.slice ((some ⟨(pb' (β 80)), 0, none⟩)) 1 1) 1 (cellsE (fresh, 1, s)) | 9 => σ 81 = .slice (sA (β 81)) 3 (sC (β 81)) ∧ X 4 = eO 99 3 (.slice (sA (β 81)) 3 (sC (β 81))) 3 (((bgL fresh tb) ++ [(fresh, 1, s)]).flatMap cellsE) | 10 => X 5 = eB B10_1 24 #[vi fresh, vi 1] | 11 => σ 11 = .slice (sA (β 81)) 3 (sC (β 81)) | _ => True) [0, 3, 4, 5] [4, 8, 9, 10, 11] [(11, 11, 2, 13), (59, 0, 10, 69)] hst27 ?_ ?_ ?_))))
  · exact fun ix _ _ _ _ _ _ hs hb hx h => match ix, h with
    | 4, h => by dsimp only at h ⊢; rw [← hs 76 rfl, ← hb 76 rfl, ← hx 2 rfl]; exact h
    | 8, h => by dsimp only at h ⊢; rw [← hs 80 rfl, ← hb 80 rfl, ← hx 3 rfl]; exact h
    | 9, h => by dsimp only at h ⊢; rw [← hs 81 rfl, ← hb 81 rfl, ← hx 4 rfl]; exact h
    | 10, h => by dsimp only at h ⊢; rw [← hx 5 rfl]; exact h
    | 11, h => by dsimp only at h ⊢; rw [← hs 11 rfl, ← hb 81 rfl]; exact h
    | 0, _ | 1, _ | 2, _ | 3, _ | 5, _ | 6, _ | 7, _ | _ + 12, _ => trivial
  · refine ⟨?_, ?_, ?_, ?_, ?_, trivial⟩
    · refine sv_any rfl rfl fun ρ β W X cx => ?_
      refine DoesU.call (run_callF (args := #[vi fresh, vi tb]) rfl cx.sees rfl (by kernel_rfl) (map2 (cx.an 2) (cx.an 3))) ?_
      refine (hbegin_any fresh tb _).mono ?_
      rintro e W1 ⟨A4, c4, rfl, ho, hx⟩
      refine ⟨_, rfl, post_call [eO 99 3 (.slice A4 2 c4) 2 ((bgL fresh tb).flatMap cellsE)] rfl rfl hx (one_new (eO_new ho)) (List.pairwise_singleton _ _) (fun σ β' X' hs hb hv hN => ?_)⟩
      have hv1 := (hv 76 rfl).1; have hv2 := (hv 76 rfl).2
      exact ⟨hv1.trans (by rw [hv2]; rfl), (by rw [hv2]; exact (List.cons.inj hN).1)⟩
    · refine sv_any rfl rfl fun ρ β W X cx => ?_
      have fF79 : ρ (.tmp 79) = .agg #[vi fresh, vi 1, .string (s)] := (cx.an 7)
      exact dv_litN (e := 99) (sz := 3) (xs := [vi fresh, vi 1, .string (s)]) rfl (by simp [go_sem, fF79]) rfl (by decide) rfl rfl (fun σ β' X' hs hb hv hx => ⟨hv, hx⟩)
    · refine sv_any rfl rfl fun ρ β W X cx => ?_
      obtain ⟨i0, hi0, hz0, hz1, hz2⟩ := info_parts Tryd.infoEdit
      refine dv_appendN (n := 2) (m := 1) (nm := 3) (sz := 3) (xs := (bgL fresh tb).flatMap cellsE) (news := cellsE (fresh, 1, s)) (xs' := ((bgL fresh tb) ++ [(fresh, 1, s)]).flatMap cellsE) rfl (ty := 36) rfl (by kernel_rfl) hi0 hz0 hz1 hz2 rfl (by decide) (dTn (cx.an 4)).1 cx (dTn (cx.an 4)).2 rfl (dTn (cx.an 8)).1 (by rfl) (At.of_ownN (cx.row (dTn (cx.an 8)).2 rfl)) (by simp [cellsE, Value.oneCell']) (by simp only [maxLen]; omega) (by omega) rfl rfl rfl (by omega) (eds_snoc _ _) (fun σ β' X' hs hb hv hx => ?_)
      exact ⟨hv, hx⟩
    · refine sv_any rfl rfl fun ρ β W X cx => ?_
      exact dv_store (n := 2) rfl (cx.ou 10) (cx.an 1) (by kernel_rfl) (by kernel_rfl) (by kernel_rfl) cx (cx.init 1 _ rfl) rfl (nle rfl) (by kernel_rfl) rfl rfl rfl (fun σ β' X' hs hb hx => hx)
    · exact sv rfl rfl rfl rfl rfl _ (fun _ _ _ h => h) (fun β β' h => by rw [h 81 (by decide)]) fun ρ β W X cx => run_assign' rfl (dTn (cx.an 9)).1
  intro σ β X W32 hD hst32 fr hfr
  obtain ⟨A76_32, hu_A76_32⟩ : ∃ z, sA (β 76) = z := ⟨_, rfl⟩
  obtain ⟨c76_32, hu_c76_32⟩ : ∃ z, sC (β 76) = z := ⟨_, rfl⟩
  obtain ⟨B80_32, hu_B80_32⟩ : ∃ z, pb' (β 80) = z := ⟨_, rfl⟩
  obtain ⟨A81_32, hu_A81_32⟩ : ∃ z, sA (β 81) = z := ⟨_, rfl⟩
  obtain ⟨c81_32, hu_c81_32⟩ : ∃ z, sC (β 81) = z := ⟨_, rfl⟩
  simp only [exq 3 ((dTn (hD 8 lq)).2), exq 4 ((dTn (hD 9 lq)).2), exq 5 ((dTn (hD 10 lq))), hu_A76_32, hu_c76_32, hu_B80_32, hu_A81_32, hu_c81_32] at hst32
  simp only [ed 76 ((dTn (hD 4 lq)).1), ed 80 ((dTn (hD 8 lq)).1), ed 81 ((dTn (hD 9 lq)).1), ed 11 ((dTn (hD 11 lq))), hu_A76_32, hu_c76_32, hu_B80_32, hu_A81_32, hu_c81_32] at hfr
  clear hD hu_A76_32 hu_c76_32 hu_B80_32 hu_A81_32 hu_c81_32; subst hfr; clear σ β X
  refine then_normal (wp_ret ?_)
  have hr33 : W32.cell? ⟨B10_1, 0, none⟩ = some (vi fresh) := (hst32.blk 3 rfl).cell 0
  have hr34 : W32.cell? ⟨B10_1, 1, none⟩ = some (vi 1) := (hst32.blk 3 rfl).cell 1
  refine bodyPost_ret (v := .tuple #[.agg #[vi fresh, vi 1], .slice A81_32 3 c81_32, vi 0]) (by simp [results, Tryd.results9, go_sem, hr33, hr34]) rfl ?_
  exact InsPost.of (l := bgL fresh tb ++ [(fresh, 1, s)]) (by rw [insA, insBad, if_neg (by rw [hs4]; decide), insR]; rw [hkr, List.drop_of_length_le (by omega)]; show (if _ then _ else _) = _; rw [if_neg (by omega)]) rfl rfl (hst32.own' 2 rfl) hst32.ext
end
end Go.Proofs.YtjnplglnnamfdaaDoor
namespace Go.Proofs.YtjnplglnnamfdaaDoor
section
set_option linter.unusedVariables false
set_option linter.unusedSimpArgs false
open Go.RowKit
theorem item_get (ss : List ByteArray) (i : Nat) : itemF ss i = ss.getD i ByteArray.empty := by
  rw [itemF, if_neg (by omega), Int.toNat_natCast]
theorem item_ge (ss : List ByteArray) (i : Nat) (h : ss.length ≤ i) : (itemF ss i).toList.isEmpty = true := by
  rw [item_get]; simp [List.getD, List.getElem?_eq_none h]
end
end Go.Proofs.YtjnplglnnamfdaaDoor
namespace Go.Proofs.YtjnplglnnamfdaaDoor
section
open Go.RowKit
set_option linter.unusedVariables false
set_option linter.unusedSimpArgs false
theorem ba_inj_z {a b : ByteArray} (h : a.toList = b.toList) : a = b := by
  rw [ByteArray.toList_eq, ByteArray.toList_eq] at h
  cases a; cases b
  simp at h
  rw [h]
theorem toList_empty : ByteArray.empty.toList = [] := by rw [ByteArray.toList_eq]; rfl
def emp (s : ByteArray) : Bool := s.toList.isEmpty
theorem emp_iff (s : ByteArray) : emp s = true ↔ s = ByteArray.empty := by
  unfold emp
  constructor
  · intro h
    have h1 : s.toList = [] := by simpa using h
    exact ba_inj_z (by rw [h1, toList_empty])
  · rintro rfl; rw [toList_empty]; rfl
theorem emp_size (s : ByteArray) : emp s = true ↔ s.size = 0 := by
  rw [emp_iff]
  constructor
  · rintro rfl; rfl
  · intro h
    apply ba_inj_z
    rw [ByteArray.toList_eq]
    have : s.data.toList.length = 0 := by simpa using h
    rw [List.eq_nil_of_length_eq_zero this, toList_empty]
theorem frL_spec (ss : List ByteArray) : ∀ n i, (frL ss n i = -1 ∧ ∀ j, i ≤ j → j < i + n → emp (itemF ss j) = false) ∨
    (∃ j : Nat, frL ss n i = j ∧ i ≤ j ∧ j < i + n ∧ emp (itemF ss j) = true ∧ ∀ k, i ≤ k → k < j → emp (itemF ss k) = false)
  | 0, i => .inl ⟨rfl, fun j h1 h2 => by omega⟩
  | n + 1, i => by
    rw [frL_succ]
    by_cases h1 : ss.length ≤ i
    · rw [if_pos h1]
      exact .inr ⟨i, rfl, Nat.le_refl _, by omega, item_ge ss i h1, fun k _ _ => by omega⟩
    · rw [if_neg h1]
      have hi : emp (itemF ss i) = (ss.getD i ByteArray.empty).toList.isEmpty := by rw [item_get, emp]
      cases h2 : (ss.getD i ByteArray.empty).toList.isEmpty with
      | true => exact .inr ⟨i, by simp, Nat.le_refl _, by omega, by rw [hi, h2], fun k _ _ => by omega⟩
      | false =>
        rw [if_neg (by simp)]
        rcases frL_spec ss n (i + 1) with ⟨h3, h4⟩ | ⟨j, h3, h4, h5, h6, h7⟩
        · refine .inl ⟨h3, fun j g1 g2 => ?_⟩
          by_cases e : j = i
          · subst e; rw [hi, h2]
          · exact h4 j (by omega) (by omega)
        · refine .inr ⟨j, h3, by omega, by omega, h6, fun k g1 g2 => ?_⟩
          by_cases e : k = i
          · subst e; rw [hi, h2]
          · exact h7 k (by omega) g2
theorem trimN_emp (ss : List ByteArray) : ∀ n j, trimN ss n ≤ j → j < n → emp (itemF ss j) = true
  | 0, j, _, h => by omega
  | n + 1, j, h1, h2 => by
    rw [trimN_succ] at h1
    split at h1
    · rename_i he
      by_cases e : j = n
      · subst e; rw [item_get]; exact he
      · exact trimN_emp ss n j h1 (by omega)
    · omega
theorem sizeT_append (a b : List ByteArray) : sizeT (a ++ b) = sizeT a + sizeT b := by simp [sizeT]
theorem sizeT_set (l : List ByteArray) (i : Nat) (s : ByteArray) (h : i < l.length) : sizeT (l.set i s) + l[i].size = sizeT l + s.size := by
  induction l generalizing i with
  | nil => simp at h
  | cons a l ih =>
    rcases i with _ | i
    · simp [sizeT]; omega
    · have := ih i (by simpa using h)
      simp only [List.set_cons_succ, List.getElem_cons_succ]
      simp only [sizeT, List.map_cons, List.sum_cons] at this ⊢
      omega
theorem plain_get {ss : List ByteArray} {i : Nat} (h : i < (plainL ss).length) : (plainL ss)[i] = itemF ss i := by
  have hl := plainL_len ss
  have ht := trimN_le ss ss.length
  rw [item_get]
  simp [plainL, List.getD, show i < ss.length by omega]
end
end Go.Proofs.YtjnplglnnamfdaaDoor
namespace Go.Proofs.YtjnplglnnamfdaaDoor
section
open Go.RowKit
set_option linter.unusedVariables false
set_option linter.unusedSimpArgs false
/-- an empty item says nothing -/
def clean (l : List Itm) : Prop := ∀ x ∈ l, x.1.size = 0 → x = it0
theorem txD_size {v : VerD} (h : okD v) : (txD v).size = 8 + (vbytesF v.2.2.2.2.2).size := tb_size h.1
theorem Desc.clean {x : Itm} (h : Desc x.1 x.2) (h0 : x.1.size = 0) : x = it0 := by
  obtain ⟨s, o⟩ := x
  cases o with
  | none =>
    have e : s = ByteArray.empty := (emp_iff s).1 ((emp_size s).2 h0)
    rw [e]; rfl
  | some v =>
    have h1 : s = txD v := h.2
    have h2 := txD_size h.1
    have h3 : s.size = 0 := h0
    rw [h1] at h3
    omega
theorem okP.clean {p : PgI} (h : okP p) : clean p.2.2 := fun x hx => (h.2 x hx).clean
theorem getD_mem_or {T : Type} (l : List T) (d : T) (j : Nat) : l.getD j d ∈ l ∨ l.getD j d = d := by
  rw [List.getD_eq_getElem?_getD]
  cases h : l[j]? with
  | none => exact .inr rfl
  | some x => exact .inl (by rw [Option.getD_some]; exact List.mem_of_getElem? h)
theorem clean_getD {l : List Itm} (h : clean l) {j : Nat} (h0 : (l.getD j it0).1.size = 0) : l.getD j it0 = it0 := by
  rcases getD_mem_or l it0 j with h1 | h1
  · exact h _ h1 h0
  · exact h1
theorem getD_ge {T : Type} {l : List T} {d : T} {j : Nat} (h : l.length ≤ j) : l.getD j d = d := by
  rw [List.getD_eq_getElem?_getD, List.getElem?_eq_none h]; rfl
theorem fstI_getD (l : List Itm) (j : Nat) : (fstI l).getD j ByteArray.empty = (l.getD j it0).1 := by
  rw [fstI, List.getD_eq_getElem?_getD, List.getD_eq_getElem?_getD, List.getElem?_map]
  cases l[j]? <;> rfl
theorem trimN_item {l : List Itm} {j : Nat} (h : trimN (fstI l) l.length ≤ j) : (l.getD j it0).1.size = 0 := by
  rcases Nat.lt_or_ge j l.length with g | g
  · have := trimN_emp (fstI l) l.length j h g
    rw [item_get, fstI_getD] at this
    exact (emp_size _).1 this
  · rw [getD_ge g]; rfl
theorem trimI_get {l : List Itm} (h : clean l) (j : Nat) : (trimI l).getD j it0 = l.getD j it0 := by
  rcases Nat.lt_or_ge j (trimN (fstI l) l.length) with g | g
  · rw [trimI, List.getD_eq_getElem?_getD, List.getElem?_take, if_pos g, List.getD_eq_getElem?_getD]
  · rw [clean_getD h (trimN_item g)]
    exact getD_ge (by rw [trimI, List.length_take]; omega)
theorem withI_get (its : List Itm) (K : Nat) (i : Itm) (j : Nat) : (withI its K i).getD j it0 = if j = K then i else (trimI its).getD j it0 := by
  rw [withI, List.getD_eq_getElem?_getD, List.getElem?_set]
  split
  · rename_i e
    subst e
    rw [if_pos rfl, if_pos (by simp only [List.length_append, List.length_replicate]; omega), Option.getD_some]
  · rename_i e
    rw [if_neg (fun e' => e e'.symm), List.getD_eq_getElem?_getD]
    rcases Nat.lt_or_ge j (trimI its).length with g | g
    · rw [List.getElem?_append_left g]
    · rw [List.getElem?_append_right g, List.getElem?_replicate, List.getElem?_eq_none g]
      split <;> rfl
theorem withI_clean {its : List Itm} {K : Nat} {i : Itm} (h : clean its) (hi : i.1.size = 0 → i = it0) : clean (withI its K i) := fun x hx h0 => by
  rcases withI_mem hx with rfl | h1 | h1
  · exact hi h0
  · exact h x h1 h0
  · exact h1
theorem putI_get {its : List Itm} {K : Nat} {i : Itm} (h : clean its) (hi : i.1.size = 0 → i = it0) (j : Nat) : (putI its K i).getD j it0 = if j = K then i else its.getD j it0 := by
  rw [putI, trimI_get (withI_clean h hi), withI_get]
  split
  · rfl
  · exact trimI_get h j
theorem hdF_eq (v : PV) : hdF v = (v.ok && (v.k == 1 && ((v.its.getD 0 it0).1.size == 2))) := by
  rw [hdF]
  cases hv : v.its with
  | nil =>
    have e : (([] : List Itm).getD 0 it0).1.size = 0 := rfl
    rw [e]
    cases v.ok <;> by_cases hk : v.k = 1 <;> simp [hk]
  | cons a l =>
    have e : ((a :: l).getD 0 it0) = a := rfl
    rw [e]
    have h3 : (((a :: l).length : Int) == 0) = false := by
      rw [List.length_cons]
      exact beq_false_of_ne (by omega)
    have h4 : ((a.1.size : Int) != 2) = !(a.1.size == 2) := by
      by_cases h : a.1.size = 2
      · rw [h]; rfl
      · rw [beq_false_of_ne h, bne, beq_false_of_ne (by omega)]
    rw [h3, h4, bne]
    cases v.ok <;> cases (v.k == 1) <;> cases (a.1.size == 2) <;> rfl
theorem ofF_eq (v : PV) : ofF v = if hdF v then (numS (v.its.getD 0 it0).1 0 2 : Int) else 0 := rfl
theorem atF_eq (v : PV) (j : Int) : atF v j = if hdF v = true ∧ 1 ≤ j then (v.its.getD j.toNat it0).2 else none := by
  rw [atF]
  have h := tbF_hd v
  by_cases h1 : hdF v = true
  · have h2 := h.2 h1
    by_cases h3 : 1 ≤ j
    · rw [if_pos (show hdF v = true ∧ 1 ≤ j from ⟨h1, h3⟩)]
      by_cases h4 : j < v.its.length
      · rw [if_pos ⟨h2, h3, h4⟩]
      · rw [if_neg (fun h5 => h4 h5.2.2), getD_ge (by omega)]; rfl
    · rw [if_neg (fun h5 => h3 h5.2.1), if_neg (fun h5 => h3 h5.2)]
  · rw [if_neg (fun h5 => h1 (h.1 h5.1)), if_neg (fun h5 => h1 h5.1)]
theorem pvL_in {H : List PgI} {n : Int} (h : 0 ≤ n ∧ n < H.length) : pvL H n = ⟨(H.getD n.toNat pgi0).1, (H.getD n.toNat pgi0).2.1, (H.getD n.toNat pgi0).2.2, true⟩ := by rw [pvL, if_pos h]
theorem pvL_ok {H : List PgI} {n : Int} (h : (pvL H n).ok = true) : 0 ≤ n ∧ n < H.length := by
  rw [pvL] at h
  split at h
  · assumption
  · cases h
theorem pvL_ne {H : List PgI} {n m : Int} {p : PgI} (h : 0 ≤ n) (hm : m ≠ n) : pvL (H.set n.toNat p) m = pvL H m := by
  rw [pvL, pvL, List.length_set]
  split
  · rename_i h1
    have e : (H.set n.toNat p).getD m.toNat pgi0 = H.getD m.toNat pgi0 := by
      rw [List.getD_eq_getElem?_getD, List.getD_eq_getElem?_getD, List.getElem?_set, if_neg (by omega)]
    rw [e]
  · rfl
theorem getD_set' {H : List PgI} {n : Int} {p : PgI} (h : 0 ≤ n ∧ n < H.length) : (H.set n.toNat p).getD n.toNat pgi0 = p := by
  rw [List.getD_eq_getElem?_getD, List.getElem?_set, if_pos rfl, if_pos (by omega), Option.getD_some]
theorem pvL_at {H : List PgI} {n : Int} {p : PgI} (h : 0 ≤ n ∧ n < H.length) : pvL (H.set n.toNat p) n = ⟨p.1, p.2.1, p.2.2, true⟩ := by
  rw [pvL_in (by rw [List.length_set]; exact h), getD_set' h]
/-- one item put: what is seen behind it -/
theorem put_core {H : List PgI} {lsn n j : Int} {i : Itm} (hH : okH H) (hl : 0 ≤ lsn ∧ lsn ≤ 2147483647) (hn : 0 ≤ n ∧ n < H.length) (hj : 1 ≤ j) (hi : Desc i.1 i.2) (hp : putErr (H.getD n.toNat pgi0).1 (H.getD n.toNat pgi0).2.1 (fstI (H.getD n.toNat pgi0).2.2) j i.1 = 0) :
    ∃ H', doL lsn H [(n, j, i)] = some H' ∧ okH H' ∧ H'.length = H.length ∧ (∀ m, hdF (pvL H' m) = hdF (pvL H m) ∧ ofF (pvL H' m) = ofF (pvL H m)) ∧ (hdF (pvL H n) = true → atF (pvL H' n) j = i.2) ∧ ∀ m k, m ≠ n ∨ k ≠ j → atF (pvL H' m) k = atF (pvL H m) k := by
  obtain ⟨p, hpe⟩ : ∃ p, H.getD n.toNat pgi0 = p := ⟨_, rfl⟩
  rw [hpe] at hp
  have hpo : okP p := by rw [← hpe]; exact hH.get (by omega)
  have hd1 : do1 lsn (H.getD n.toNat pgi0) (n, j, i) = some (p.1, lsn, putI p.2.2 j.toNat i) := by rw [hpe, do1, if_neg (show ¬ j = -1 by omega), if_pos hp]
  have hg := putI_get (K := j.toNat) (i := i) hpo.clean hi.clean
  have hpv : pvL H n = ⟨p.1, p.2.1, p.2.2, true⟩ := by rw [pvL_in hn, hpe]
  have hpv2 := pvL_at (p := (p.1, lsn, putI p.2.2 j.toNat i)) hn
  have h0 : (putI p.2.2 j.toNat i).getD 0 it0 = p.2.2.getD 0 it0 := by rw [hg, if_neg (by omega)]
  have hh : hdF (pvL (H.set n.toNat (p.1, lsn, putI p.2.2 j.toNat i)) n) = hdF (pvL H n) := by rw [hpv, hpv2, hdF_eq, hdF_eq]; dsimp only; rw [h0]
  refine ⟨_, doL_one (e := (n, j, i)) hn hd1, hH.set (hpo.put hl hi hp), List.length_set .., fun m => ?_, fun hhd => ?_, fun m k hmk => ?_⟩
  · by_cases e : m = n
    · subst e
      refine ⟨hh, ?_⟩
      rw [ofF_eq, ofF_eq, hh, hpv, hpv2]
      dsimp only
      rw [h0]
    · dsimp only
      rw [pvL_ne hn.1 e]; exact ⟨rfl, rfl⟩
  · dsimp only
    rw [atF_eq, hh, if_pos ⟨hhd, hj⟩, hpv2]
    dsimp only
    rw [hg, if_pos rfl]
  · dsimp only
    by_cases e : m = n
    · subst e
      rw [atF_eq, atF_eq, hh, hpv, hpv2]
      dsimp only
      by_cases h1 : 1 ≤ k
      · have h2 : k.toNat ≠ j.toNat := by
          rcases hmk with h3 | h3
          · exact absurd rfl h3
          · omega
        rw [hg, if_neg h2]
      · rw [if_neg (fun h2 => h1 h2.2), if_neg (fun h2 => h1 h2.2)]
    · rw [pvL_ne hn.1 e]
theorem roomI_pos {v : PV} {s : ByteArray} (h : 0 < roomI v s) : v.ok = true ∧ putErr v.k v.l (fstI v.its) (roomI v s) s = 0 ∧ roomI v s < 24 ∧ (v.its.getD (roomI v s).toNat it0).1.size = 0 := by
  rw [roomI] at h ⊢
  split at h
  · rename_i h1
    rw [if_pos h1]
    split at h
    · rename_i h2
      rw [if_pos h2]
      refine ⟨h1, h2, ?_⟩
      obtain ⟨f, hf⟩ : ∃ f, freeF v.k v.l (v.its.map Prod.fst) 1 = f := ⟨_, rfl⟩
      rw [hf] at h ⊢
      rw [freeF] at hf
      split at hf
      · rw [show (max (1 : Int) 0).toNat = 1 from rfl] at hf
        rcases frL_spec (v.its.map Prod.fst) (24 - 1) 1 with ⟨h3, _⟩ | ⟨j, h3, h4, h5, h6, _⟩
        · rw [h3] at hf; omega
        · rw [h3] at hf
          subst hf
          refine ⟨by omega, ?_⟩
          rw [item_get] at h6
          have := (emp_size _).1 h6
          rw [show (v.its.map Prod.fst) = fstI v.its from rfl, fstI_getD] at this
          exact this
      · omega
    · omega
  · omega
theorem put_new {H : List PgI} {lsn n : Int} {v : VerD} (hH : okH H) (hl : 0 ≤ lsn ∧ lsn ≤ 2147483647) (hv : okD v) (hq : 0 < roomI (pvL H n) (txD v)) (hh : hdF (pvL H n) = true) :
    ∃ H', doL lsn H [(n, roomI (pvL H n) (txD v), (txD v, some v))] = some H' ∧ okH H' ∧ H'.length = H.length ∧ (∀ m, hdF (pvL H' m) = hdF (pvL H m) ∧ ofF (pvL H' m) = ofF (pvL H m)) ∧ atF (pvL H' n) (roomI (pvL H n) (txD v)) = some v ∧
      atF (pvL H n) (roomI (pvL H n) (txD v)) = none ∧ ∀ m k, m ≠ n ∨ k ≠ roomI (pvL H n) (txD v) → atF (pvL H' m) k = atF (pvL H m) k := by
  obtain ⟨h1, h2, h3, h4⟩ := roomI_pos hq
  have hn := pvL_ok h1
  have hpv := pvL_in hn
  obtain ⟨H', g1, g2, g3, g4, g5, g6⟩ := put_core (i := (txD v, some v)) hH hl hn (show 1 ≤ roomI (pvL H n) (txD v) by omega) ⟨hv, rfl⟩ (by
    have : putErr (pvL H n).k (pvL H n).l (fstI (pvL H n).its) (roomI (pvL H n) (txD v)) (txD v) = 0 := h2
    generalize roomI (pvL H n) (txD v) = q at this ⊢
    rw [hpv] at this
    exact this)
  refine ⟨H', g1, g2, g3, g4, g5 hh, ?_, g6⟩
  rw [atF_eq, if_pos ⟨hh, by omega⟩]
  have hc : clean (pvL H n).its := by rw [hpv]; exact (hH.get (by omega)).clean
  rw [clean_getD hc h4]
  rfl
theorem sizeT_take (l : List ByteArray) (k : Nat) : sizeT (l.take k) ≤ sizeT l := by
  have := sizeT_append (l.take k) (l.drop k)
  rw [List.take_append_drop] at this
  omega
theorem sizeT_plain (l : List ByteArray) : sizeT (plainL l) ≤ sizeT l := sizeT_take _ _
theorem putErr_old {k l j : Int} {ss : List ByteArray} {s : ByteArray} (hr : rightB k l ss = true) (hj : 0 ≤ j) (h0 : 0 < (ss.getD j.toNat ByteArray.empty).size) (hs : s.size = (ss.getD j.toNat ByteArray.empty).size) : putErr k l ss j s = 0 := by
  obtain ⟨_, _, ⟨h24, hsz⟩, h512⟩ := right_parts hr
  have hjl : j.toNat < ss.length := by
    rcases Nat.lt_or_ge j.toNat ss.length with g | g
    · exact g
    · rw [getD_ge g] at h0; exact absurd h0 (by decide)
  have hg : ss.getD j.toNat ByteArray.empty = ss[j.toNat] := by rw [List.getD_eq_getElem?_getD, List.getElem?_eq_getElem hjl, Option.getD_some]
  have h400 := hsz _ (List.getElem_mem hjl)
  rw [hg] at h0 hs
  have hpl : j.toNat < (plainL ss).length := by
    rcases Nat.lt_or_ge j.toNat (trimN ss ss.length) with g | g
    · rw [plainL, List.length_take]; omega
    · have := (emp_size _).1 (trimN_emp ss ss.length j.toNat g hjl)
      rw [item_get, hg] at this
      omega
  have ew : withL ss j.toNat s = (plainL ss).set j.toNat s := by
    rw [withL, padTo, show j.toNat + 1 - (plainL ss).length = 0 by omega]
    simp
  have h1 := sizeT_set (plainL ss) j.toNat s hpl
  have h2 : (plainL ss)[j.toNat] = ss[j.toNat] := by rw [plain_get hpl, item_get, hg]
  rw [h2] at h1
  have h3 := sizeT_plain (withL ss j.toNat s)
  rw [putErr, hr, if_neg (by decide), if_neg (by omega), if_neg ?_]
  rw [sizeL] at h512 ⊢
  rw [ew] at h3 ⊢
  omega
theorem put_old {H : List PgI} {lsn n j : Int} {v v' : VerD} (hH : okH H) (hl : 0 ≤ lsn ∧ lsn ≤ 2147483647) (ha : atF (pvL H n) j = some v) (hv : okD v') (hsz : v'.2.2.2.2.2 = v.2.2.2.2.2) :
    ∃ H', doL lsn H [(n, j, (txD v', some v'))] = some H' ∧ okH H' ∧ H'.length = H.length ∧ (∀ m, hdF (pvL H' m) = hdF (pvL H m) ∧ ofF (pvL H' m) = ofF (pvL H m)) ∧ atF (pvL H' n) j = some v' ∧ ∀ m k, m ≠ n ∨ k ≠ j → atF (pvL H' m) k = atF (pvL H m) k := by
  rw [atF_eq] at ha
  split at ha
  · rename_i h1
    have hok : (pvL H n).ok = true := by
      have := h1.1
      rw [hdF_eq, Bool.and_eq_true] at this
      exact this.1
    have hn := pvL_ok hok
    have hpv := pvL_in hn
    have hpo := hH.get (n := n.toNat) (by omega)
    have ha2 : ((H.getD n.toNat pgi0).2.2.getD j.toNat it0).2 = some v := by rw [hpv] at ha; exact ha
    have hD : Desc ((H.getD n.toNat pgi0).2.2.getD j.toNat it0).1 ((H.getD n.toNat pgi0).2.2.getD j.toNat it0).2 := by
      rcases getD_mem_or (H.getD n.toNat pgi0).2.2 it0 j.toNat with h2 | h2
      · exact hpo.2 _ h2
      · rw [h2] at ha2; cases ha2
    rw [ha2] at hD
    have hs1 := txD_size hD.1
    have hs2 := txD_size hv
    rw [hsz] at hs2
    obtain ⟨H', g1, g2, g3, g4, g5, g6⟩ := put_core (i := (txD v', some v')) hH hl hn h1.2 ⟨hv, rfl⟩ (putErr_old hpo.1 (by omega) (by rw [fstI_getD, hD.2]; omega) (by rw [fstI_getD, hD.2]; show (txD v').size = _; omega))
    exact ⟨H', g1, g2, g3, g4, g5 h1.1, g6⟩
  · cases ha
end
end Go.Proofs.YtjnplglnnamfdaaDoor
namespace Go.Proofs.YtjnplglnnamfdaaDoor
section
open Go.RowKit
set_option linter.unusedVariables false
set_option linter.unusedSimpArgs false
theorem insA_len (pv : Int → PV) (fresh tb : Int) (ns : List Int) (s : ByteArray) : (insA pv fresh tb ns s).2.1.length ≤ 3 := by
  rw [insA]
  split
  · exact Nat.zero_le _
  · rw [insR]
    split
    · show 1 ≤ 3; decide
    · split
      · exact Nat.zero_le _
      · show 3 ≤ 3; decide
theorem atF_desc {v : PV} (h : v.wf) (j : Int) : ∃ s, Desc s (atF v j) := by
  rw [atF]
  split
  · have hj : j.toNat < v.its.length := by omega
    exact ⟨_, PV.desc h hj⟩
  · exact ⟨ByteArray.empty, by show 0 < 8; decide⟩
theorem atF_len {v : PV} (h : v.wf) (j : Int) : (vD (atF v j)).2.2.2.2.2.length ≤ 6 := by
  obtain ⟨s, hs⟩ := atF_desc h j
  exact hs.bd.2.2.2.2.2.2.2.2
def updBad (xid : Int) (s : ByteArray) (fresh tb : Int) : Bool := (((!(onF xid) || (s.toList == (⟨#[]⟩ : ByteArray).toList)) || (decide (tb < 0))) || (decide (65535 < tb))) || (decide (400 ≤ fresh))
def updQ (pv : Int → PV) (n : Int) (hot : Bool) (s : ByteArray) : Int := if hot then roomI (pv n) s else 0
def newB (xid : Int) (hot : Bool) (rs : List Val) : ByteArray := tbytesF xid 0 (-1) 0 hot rs
def oldB (o : VerD) (xid a b : Int) : ByteArray := tbytesF o.1 xid a b o.2.2.2.2.1 o.2.2.2.2.2
def updR (pv : Int → PV) (fresh tb : Int) (ns : List Int) (n j xid : Int) (hot : Bool) (rs : List Val) : (Int × Int) × Bool × List EdD × Int :=
  if 0 < updQ pv n hot (newB xid true rs) then ((n, updQ pv n hot (newB xid true rs)), true, [(n, updQ pv n hot (newB xid true rs), newB xid true rs), (n, j, oldB (vD (atF (pv n) j)) xid n (updQ pv n hot (newB xid true rs)))], 0)
  else if (insA pv fresh tb ns (newB xid false rs)).2.2 ≠ 0 then ((0, 0), false, [], (insA pv fresh tb ns (newB xid false rs)).2.2)
  else ((insA pv fresh tb ns (newB xid false rs)).1, false, (insA pv fresh tb ns (newB xid false rs)).2.1 ++ [(n, j, oldB (vD (atF (pv n) j)) xid (insA pv fresh tb ns (newB xid false rs)).1.1 (insA pv fresh tb ns (newB xid false rs)).1.2)], 0)
def updA (pv : Int → PV) (fresh tb : Int) (ns : List Int) (n j xid : Int) (hot : Bool) (rs : List Val) : (Int × Int) × Bool × List EdD × Int :=
  if !(atF (pv n) j).isSome then ((0, 0), false, [], 21) else if updBad xid (newB xid true rs) fresh tb then ((0, 0), false, [], 1) else updR pv fresh tb ns n j xid hot rs
def UpdPost (R : (Int × Int) × Bool × List EdD × Int) (w : World) (e : Ending) (w' : World) : Prop := ∃ A c, e = .returned (.tuple #[.agg #[.int .i64 R.1.1, .int .i64 R.1.2], .bool R.2.1, .slice A R.2.2.1.length c, .int .i64 R.2.2.2]) ∧
  w'.ownsRow w.heap.size 99 3 (.slice A R.2.2.1.length c) R.2.2.1.length (R.2.2.1.flatMap cellsE) ∧ Ext w w'
theorem UpdPost.of {R : (Int × Int) × Bool × List EdD × Int} {w w' : World} {a1 a2 er : Int} {b : Bool} {A : Option Addr} {c n : Nat} {l : List EdD} {xs : List Value} (h : R = ((a1, a2), b, l, er)) (hn : n = l.length) (hxs : xs = l.flatMap cellsE) (ho : w'.ownsRow w.heap.size 99 3 (.slice A n c) n xs) (hx : Ext w w') :
    UpdPost R w (.returned (.tuple #[.agg #[.int .i64 a1, .int .i64 a2], .bool b, .slice A n c, .int .i64 er])) w' := by
  subst hn hxs h
  exact ⟨A, c, rfl, ho, hx⟩
theorem UpdPost.nil {R : (Int × Int) × Bool × List EdD × Int} {w w' : World} {a1 a2 er : Int} {b : Bool} (h : R = ((a1, a2), b, [], er)) (hx : Ext w w') :
    UpdPost R w (.returned (.tuple #[.agg #[.int .i64 a1, .int .i64 a2], .bool b, .slice none 0 0, .int .i64 er])) w' := UpdPost.of h rfl rfl (World.ownsRow_nil _ _ _ _) hx
def delA (pv : Int → PV) (n j xid : Int) : List EdD × Int := if !(atF (pv n) j).isSome then ([], 21) else if !(onF xid) then ([], 1) else ([(n, j, oldB (vD (atF (pv n) j)) xid (-1) 0)], 0)
def DelPost (R : List EdD × Int) (w : World) (e : Ending) (w' : World) : Prop := ∃ A c, e = .returned (.tuple #[.slice A R.1.length c, .int .i64 R.2]) ∧
  w'.ownsRow w.heap.size 99 3 (.slice A R.1.length c) R.1.length (R.1.flatMap cellsE) ∧ Ext w w'
theorem DelPost.of {R : List EdD × Int} {w w' : World} {er : Int} {A : Option Addr} {c n : Nat} {l : List EdD} {xs : List Value} (h : R = (l, er)) (hn : n = l.length) (hxs : xs = l.flatMap cellsE) (ho : w'.ownsRow w.heap.size 99 3 (.slice A n c) n xs) (hx : Ext w w') :
    DelPost R w (.returned (.tuple #[.slice A n c, .int .i64 er])) w' := by
  subst hn hxs h
  exact ⟨A, c, rfl, ho, hx⟩
theorem DelPost.nil {R : List EdD × Int} {w w' : World} {er : Int} (h : R = ([], er)) (hx : Ext w w') : DelPost R w (.returned (.tuple #[.slice none 0 0, .int .i64 er])) w' := DelPost.of h rfl rfl (World.ownsRow_nil _ _ _ _) hx
set_option maxRecDepth 100000 in
set_option maxHeartbeats 2000000 in
theorem hdelete_any (tt : TypeId) (tv : Value) (pv : Int → PV) (n j xid : Int) (w : World) (hS : PgsOk w tt tv pv) (hN : NoneAt w) :
    Calls Tryd.prog 14 #[.iface tt (tv), .agg #[.int .i64 n, .int .i64 j], .int .i64 xid] w (DelPost (delA pv n j xid) w) := by
  have hwf := hS.wf n
  go_enter Tryd.func14, Tryd.ntmps14
  have hst0 := St.start w
  refine wp_seq (wp_region_Y [0, 0, 2] [] [[0]] [] [.a 4, .k 6 (.slice none 0 0), .k 7 (vi 0)] (fun ix σ β X => match ix with | 0 => σ 4 = vp (pb (β 4)) ∧ X 0 = eB (pb (β 4)) 24 #[vi n, vi j] | _ => True) [0] [0] [(4, 0, 1, 5), (1, 1, 2, 3)] hst0 ?_ ?_ ?_)
  · exact fun ix _ _ _ _ _ _ hs hb hx h => match ix, h with
    | 0, h => by dsimp only at h ⊢; rw [← hs 4 rfl, ← hb 4 rfl, ← hx 0 rfl]; exact h
    | _ + 1, _ => trivial
  · refine ⟨?_, trivial⟩
    · refine sv_any rfl rfl fun ρ β W X cx => ?_
      exact dv_box (cs := #[vi n, vi j]) rfl (cx.ou 1) rfl rfl rfl (fun σ β' X' hs hb hv hx => ⟨hv, hx⟩)
  intro σ β X W1 hD hst1 fr hfr
  obtain ⟨B4_1, hu_B4_1⟩ : ∃ z, pb (β 4) = z := ⟨_, rfl⟩
  simp only [exq 0 ((dTn (hD 0 lq)).2), hu_B4_1] at hst1
  simp only [ed 4 ((dTn (hD 0 lq)).1), hu_B4_1] at hfr
  clear hD hu_B4_1; subst hfr; clear σ β X
  refine then_normal (wp_seq (wp_region_Y [0, 0, 3, 7, 15, 15, 0, 95, 255] [[], [0], [], [], [], [], [], [2]] [[], [], [1], [], [], [], [2], [3]] [[], [], [], [], [], [], [], [2]] [.k 11 (.iface tt (tv)), .c 12 (.agg #[vi n, vi j]), .a 13, .a 10, .a 14, .c 15 (.bool ((atF (pv n) j).isSome)), .a 8, .n, .k 9 (.bool ((atF (pv n) j).isSome))] (fun ix σ β X => match ix with | 0 => True | 1 => True | 2 => σ 13 = .tuple #[.agg #[vi ((vD (atF (pv n) j)).1), vi ((vD (atF (pv n) j)).2.1), vi ((vD (atF (pv n) j)).2.2.1), vi ((vD (atF (pv n) j)).2.2.2.1), .bool ((vD (atF (pv n) j)).2.2.2.2.1), .slice (sA (tg (tg (β 13) 0) 5)) ((vD (atF (pv n) j)).2.2.2.2.2.length) (sC (tg (tg (β 13) 0) 5))], .bool ((atF (pv n) j).isSome)] ∧ X 1 = eO 82 3 (.slice (sA (tg (tg (β 13) 0) 5)) ((vD (atF (pv n) j)).2.2.2.2.2.length) (sC (tg (tg (β 13) 0) 5))) ((vD (atF (pv n) j)).2.2.2.2.2.length) (flatR (vD (atF (pv n) j)).2.2.2.2.2) | 3 => σ 10 = .tuple #[.agg #[vi ((vD (atF (pv n) j)).1), vi ((vD (atF (pv n) j)).2.1), vi ((vD (atF (pv n) j)).2.2.1), vi ((vD (atF (pv n) j)).2.2.2.1), .bool ((vD (atF (pv n) j)).2.2.2.2.1), .slice (sA (tg (tg (β 13) 0) 5)) ((vD (atF (pv n) j)).2.2.2.2.2.length) (sC (tg (tg (β 13) 0) 5))], .bool ((atF (pv n) j).isSome)] | 4 => σ 14 = .agg #[vi ((vD (atF (pv n) j)).1), vi ((vD (atF (pv n) j)).2.1), vi ((vD (atF (pv n) j)).2.2.1), vi ((vD (atF (pv n) j)).2.2.2.1), .bool ((vD (atF (pv n) j)).2.2.2.2.1), .slice (sA (tg (tg (β 13) 0) 5)) ((vD (atF (pv n) j)).2.2.2.2.2.length) (sC (tg (tg (β 13) 0) 5))] | 5 => True | 6 => σ 8 = vp (pb (β 8)) ∧ X 2 = eB (pb (β 8)) 41 #[vi 0, vi 0, vi 0, vi 0, .bool false, .slice none 0 0] | 7 => X 3 = eB (pb (β 8)) 41 #[vi ((vD (atF (pv n) j)).1), vi ((vD (atF (pv n) j)).2.1), vi ((vD (atF (pv n) j)).2.2.1), vi ((vD (atF (pv n) j)).2.2.2.1), .bool ((vD (atF (pv n) j)).2.2.2.2.1), .slice (sA (tg (tg (β 13) 0) 5)) ((vD (atF (pv n) j)).2.2.2.2.2.length) (sC (tg (tg (β 13) 0) 5))] | _ => True) [0, 1, 3] [1, 2, 3, 4, 5, 6, 7] [(8, 6, 3, 10), (0, 3, 1, 1), (0, 0, 3, 3), (0, 4, 2, 2)] hst1 ?_ ?_ ?_))
  · exact fun ix _ _ _ _ _ _ hs hb hx h => match ix, h with
    | 2, h => by dsimp only at h ⊢; rw [← hs 13 rfl, ← hb 13 rfl, ← hx 1 rfl]; exact h
    | 3, h => by dsimp only at h ⊢; rw [← hs 10 rfl, ← hb 13 rfl]; exact h
    | 4, h => by dsimp only at h ⊢; rw [← hs 14 rfl, ← hb 13 rfl]; exact h
    | 6, h => by dsimp only at h ⊢; rw [← hs 8 rfl, ← hb 8 rfl, ← hx 2 rfl]; exact h
    | 7, h => by dsimp only at h ⊢; rw [← hb 8 rfl, ← hb 13 rfl, ← hx 3 rfl]; exact h
    | 0, _ | 1, _ | 5, _ | _ + 8, _ => trivial
  · refine ⟨?_, ?_, ?_, ?_, ?_, ?_, ?_, trivial⟩
    · exact xs4 rfl id fun cx => run_loadB (n := 2) rfl (by kernel_rfl) (by kernel_rfl) (cx.ou 4) (cx.bi 0 rfl) (nle rfl) rfl
    · refine sv_any rfl rfl fun ρ β W X cx => ?_
      refine DoesU.call (run_callF (args := #[.iface tt (tv), .agg #[vi n, vi j]]) rfl cx.sees rfl (by kernel_rfl) (map2 (cx.an 0) (cx.an 1))) ?_
      refine (hget_any _ _ pv n j _ (hS.ext cx.upd.to_ext) (hN.ext cx.upd.to_ext)).mono ?_
      rintro e W1 ⟨A4, c4, rfl, ho, hx⟩
      refine ⟨_, rfl, post_call [eO 82 3 (.slice A4 (vD (atF (pv n) j)).2.2.2.2.2.length c4) (vD (atF (pv n) j)).2.2.2.2.2.length (flatR (vD (atF (pv n) j)).2.2.2.2.2)] rfl rfl hx (one_new (eO_new ho)) (List.pairwise_singleton _ _) (fun σ β' X' hs hb hv hN => ?_)⟩
      have hv1 := (hv 13 rfl).1; have hv2 := (hv 13 rfl).2
      exact ⟨hv1.trans (by rw [hv2]; rfl), (by rw [hv2]; exact (List.cons.inj hN).1)⟩
    · exact sv rfl rfl rfl rfl rfl _ (fun _ _ _ h => h) (fun β β' h => by rw [h 13 (by decide)]) fun ρ β W X cx => run_move' rfl (dTn (cx.an 2)).1
    · exact sv rfl rfl rfl rfl rfl _ (fun _ _ _ h => h) (fun β β' h => by rw [h 13 (by decide)]) fun ρ β W X cx => run_extract' rfl (dTn (cx.an 3)) rfl
    · exact xs4 rfl id fun cx => run_extract' rfl (dTn (cx.an 3)) rfl
    · refine sv_any rfl rfl fun ρ β W X cx => ?_
      exact dv_alloc (cs := #[vi 0, vi 0, vi 0, vi 0, .bool false, .slice none 0 0]) rfl (by kernel_rfl) rfl rfl (fun σ β' X' hs hb hv hx => ⟨hv, hx⟩)
    · refine sv_any rfl rfl fun ρ β W X cx => ?_
      exact dv_store (n := 6) rfl (dTn (cx.an 6)).1 (dTn (cx.an 4)) (by kernel_rfl) (by kernel_rfl) (by kernel_rfl) cx (dTn (cx.an 6)).2 rfl (nle rfl) (by kernel_rfl) rfl rfl rfl (fun σ β' X' hs hb hx => by rw [hb 8, hb 13]; exact hx)
  intro σ β X W2 hD hst2 fr hfr
  obtain ⟨A13_2, hu_A13_2⟩ : ∃ z, sA (tg (tg (β 13) 0) 5) = z := ⟨_, rfl⟩
  obtain ⟨c13_2, hu_c13_2⟩ : ∃ z, sC (tg (tg (β 13) 0) 5) = z := ⟨_, rfl⟩
  obtain ⟨B8_2, hu_B8_2⟩ : ∃ z, pb (β 8) = z := ⟨_, rfl⟩
  simp only [exq 1 ((dTn (hD 2 lq)).2), exq 3 ((dTn (hD 7 lq))), hu_A13_2, hu_c13_2, hu_B8_2] at hst2
  simp only [ed 13 ((dTn (hD 2 lq)).1), ed 10 ((dTn (hD 3 lq))), ed 14 ((dTn (hD 4 lq))), ed 8 ((dTn (hD 6 lq)).1), hu_A13_2, hu_c13_2, hu_B8_2] at hfr
  clear hD hu_A13_2 hu_c13_2 hu_B8_2; subst hfr; clear σ β X
  obtain ⟨od, hN_od⟩ : ∃ z, (vD (atF (pv n) j)) = z := ⟨_, rfl⟩
  rw [hN_od] at hst2 ⊢
  have hol : od.2.2.2.2.2.length ≤ 6 := by rw [← hN_od]; exact atF_len hwf j
  refine then_normal (wp_seq (wp_seq (wp_region_P [0, 1] [.k 16 (.bool ((atF (pv n) j).isSome)), .k 17 (.bool (!((atF (pv n) j).isSome)))] [(16, 0, 2, 18)] hst2 fun W3 hst3 => ?_)))
  refine then_normal ?_
  rcases Bool.eq_false_or_eq_true ((atF (pv n) j).isSome) with hs4 | hs4
  · skip
    refine wp_cond_false (show Act.eval _ _ = .bool false from (congrArg Value.bool (by rw [hs4]; rfl))) (wp_skip (then_normal (wp_seq (wp_seq (wp_region_Z [0, 1, 3] [] [.k 18 (vi xid), .c 19 (.bool (onF xid)), .k 20 (.bool (!(onF xid)))] [0, 1, 2] [1] [(18, 0, 3, 21)] hst3 ?_ fun W5 hst5 => ?_)))))
    · refine ⟨?_, trivial⟩
      · exact xsc rfl id rfl rfl fun cx => ⟨_, hring_any xid _, (map1 (cx.an 0))⟩
    refine then_normal ?_
    rcases Bool.eq_false_or_eq_true (onF xid) with hs6 | hs6
    · skip
      refine wp_cond_false (show Act.eval _ _ = .bool false from (congrArg Value.bool (by rw [hs6]; rfl))) (wp_skip (then_normal (wp_seq (wp_region_Y [0, 0, 1, 7, 15, 31] [[], [], [], [2], [], [3]] [[], [], [], [3], [], [4]] [[], [], [], [2], [], [3]] [.k 21 (vi xid), .c 22 (.agg #[vi (-1), vi 0]), .k 23 (.pointer (some ⟨B8_2, 1, none⟩)), .n, .k 24 (.pointer (some ⟨B8_2, 2, none⟩)), .n] (fun ix σ β X => match ix with | 0 => True | 1 => True | 2 => True | 3 => X 3 = eB B8_2 41 #[vi (od.1), vi xid, vi (od.2.2.1), vi (od.2.2.2.1), .bool (od.2.2.2.2.1), .slice A13_2 (od.2.2.2.2.2.length) c13_2] | 4 => True | 5 => X 4 = eB B8_2 41 #[vi (od.1), vi xid, vi (-1), vi 0, .bool (od.2.2.2.2.1), .slice A13_2 (od.2.2.2.2.2.length) c13_2] | _ => True) [0, 1, 4] [1, 3, 5] [(21, 0, 5, 25)] hst5 ?_ ?_ ?_))))
      · exact fun ix _ _ _ _ _ _ hs hb hx h => match ix, h with
        | 3, h => by dsimp only at h ⊢; rw [← hx 3 rfl]; exact h
        | 5, h => by dsimp only at h ⊢; rw [← hx 4 rfl]; exact h
        | 0, _ | 1, _ | 2, _ | 4, _ | _ + 6, _ => trivial
      · refine ⟨?_, ?_, ?_, trivial⟩
        · exact xsc rfl id rfl rfl fun cx => ⟨_, hnone_any _, map0⟩
        · refine sv_any rfl rfl fun ρ β W X cx => ?_
          exact dv_store (n := 1) rfl (cx.an 2) (cx.an 0) (by kernel_rfl) (by kernel_rfl) (by kernel_rfl) cx (cx.init 2 _ rfl) rfl (nle rfl) (by kernel_rfl) rfl rfl rfl (fun σ β' X' hs hb hx => hx)
        · refine sv_any rfl rfl fun ρ β W X cx => ?_
          exact dv_store (n := 2) rfl (cx.an 4) (cx.an 1) (by kernel_rfl) (by kernel_rfl) (by kernel_rfl) cx (dTn (cx.an 3)) rfl (nle rfl) (by kernel_rfl) rfl rfl rfl (fun σ β' X' hs hb hx => hx)
      intro σ β X W7 hD hst7 fr hfr
      simp only [exq 4 ((dTn (hD 5 lq)))] at hst7
      clear hD; subst hfr; clear σ β X
      refine then_normal (wp_seq (wp_region_Y [0, 1, 0, 4, 0, 16, 63, 127, 255, 511] [[], [0], [], [0], [2], [1]] [[], [], [], [], [], [], [], [3]] [] [.k 25 (vp B4_1), .c 26 (vi n), .k 27 (.pointer (some ⟨B4_1, 1, none⟩)), .c 28 (vi j), .c 29 (.agg #[vi (od.1), vi xid, vi (-1), vi 0, .bool (od.2.2.2.2.1), .slice A13_2 (od.2.2.2.2.2.length) c13_2]), .c 30 (.string (tbytesF od.1 xid (-1) 0 od.2.2.2.2.1 od.2.2.2.2.2)), .k 31 (.agg #[vi n, vi j, .string (tbytesF od.1 xid (-1) 0 od.2.2.2.2.1 od.2.2.2.2.2)]), .a 32, .a 6, .k 7 (vi 0)] (fun ix σ β X => match ix with | 0 => True | 1 => True | 2 => True | 3 => True | 4 => True | 5 => True | 6 => True | 7 => σ 32 = .slice ((some ⟨(pb' (β 32)), 0, none⟩)) 1 1 ∧ X 3 = eO 99 3 (.slice ((some ⟨(pb' (β 32)), 0, none⟩)) 1 1) 1 (cellsE (n, j, tbytesF od.1 xid (-1) 0 od.2.2.2.2.1 od.2.2.2.2.2)) | 8 => σ 6 = .slice ((some ⟨(pb' (β 32)), 0, none⟩)) 1 1 | _ => True) [0, 1, 2, 3] [1, 3, 4, 5, 7, 8] [(6, 8, 2, 8), (17, 0, 8, 25)] hst7 ?_ ?_ ?_))
      · exact fun ix _ _ _ _ _ _ hs hb hx h => match ix, h with
        | 7, h => by dsimp only at h ⊢; rw [← hs 32 rfl, ← hb 32 rfl, ← hx 3 rfl]; exact h
        | 8, h => by dsimp only at h ⊢; rw [← hs 6 rfl, ← hb 32 rfl]; exact h
        | 0, _ | 1, _ | 2, _ | 3, _ | 4, _ | 5, _ | 6, _ | _ + 9, _ => trivial
      · refine ⟨?_, ?_, ?_, ?_, ?_, ?_, trivial⟩
        · exact xs4 rfl id fun cx => run_load1 rfl (by kernel_rfl) (cx.an 0) ((cx.bi 0 rfl).cell 0)
        · exact xs4 rfl id fun cx => run_load1 rfl (by kernel_rfl) (cx.an 2) ((cx.bi 0 rfl).cell 1)
        · exact xs4 rfl id fun cx => run_loadB (n := 6) rfl (by kernel_rfl) (by kernel_rfl) (cx.ou 8) (cx.bi 2 rfl) (nle rfl) rfl
        · exact xsc rfl id rfl rfl fun cx => ⟨_, tbytes_any od.1 xid (-1) 0 od.2.2.2.2.1 _ _ od.2.2.2.2.2 _ (At.of_ownN (cx.ri 1 rfl)) (by first | omega | decide | (simp; done) | (simp; omega)) (hN.ext cx.upd.to_ext), (map1 (cx.an 4))⟩
        · refine sv_any rfl rfl fun ρ β W X cx => ?_
          have fF31 : ρ (.tmp 31) = .agg #[vi n, vi j, .string (tbytesF od.1 xid (-1) 0 od.2.2.2.2.1 od.2.2.2.2.2)] := (cx.an 6)
          exact dv_litN (e := 99) (sz := 3) (xs := [vi n, vi j, .string (tbytesF od.1 xid (-1) 0 od.2.2.2.2.1 od.2.2.2.2.2)]) rfl (by simp [go_sem, fF31]) rfl (by decide) rfl rfl (fun σ β' X' hs hb hv hx => ⟨hv, hx⟩)
        · exact sv rfl rfl rfl rfl rfl _ (fun _ _ _ h => h) (fun β β' h => by rw [h 32 (by decide)]) fun ρ β W X cx => run_assign' rfl (dTn (cx.an 7)).1
      intro σ β X W8 hD hst8 fr hfr
      obtain ⟨B32_8, hu_B32_8⟩ : ∃ z, pb' (β 32) = z := ⟨_, rfl⟩
      simp only [exq 3 ((dTn (hD 7 lq)).2), hu_B32_8] at hst8
      simp only [ed 32 ((dTn (hD 7 lq)).1), ed 6 ((dTn (hD 8 lq))), hu_B32_8] at hfr
      clear hD hu_B32_8; subst hfr; clear σ β X
      refine then_normal (wp_ret ?_)
      refine bodyPost_ret (v := .tuple #[.slice ((some ⟨B32_8, 0, none⟩)) 1 1, vi 0]) (by simp [results, Tryd.results14, go_sem]) rfl ?_
      exact DelPost.of (l := [(n, j, oldB od xid (-1) 0)]) (by rw [delA, if_neg (by rw [hs4]; decide), if_neg (by rw [hs6]; decide), hN_od]) rfl rfl (hst8.own' 3 rfl) hst8.ext
    refine wp_cond_true (show Act.eval _ _ = .bool true from (congrArg Value.bool (by rw [hs6]; rfl))) (wp_seq (wp_region_P [0, 1] [.k 6 (.slice none 0 0), .k 7 (vi 1)] [(6, 0, 2, 8)] hst5 fun W9 hst9 => ?_))
    refine then_normal (wp_ret (then_ret ?_))
    refine bodyPost_ret (v := .tuple #[.slice none 0 0, vi 1]) (by simp [results, Tryd.results14, go_sem]) rfl ?_
    exact DelPost.nil (by rw [delA, if_neg (by rw [hs4]; decide), if_pos (by rw [hs6]; rfl)]) hst9.ext
  refine wp_cond_true (show Act.eval _ _ = .bool true from (congrArg Value.bool (by rw [hs4]; rfl))) (wp_seq (wp_region_P [0, 1] [.k 6 (.slice none 0 0), .k 7 (vi 21)] [(6, 0, 2, 8)] hst3 fun W10 hst10 => ?_))
  refine then_normal (wp_ret (then_ret ?_))
  refine bodyPost_ret (v := .tuple #[.slice none 0 0, vi 21]) (by simp [results, Tryd.results14, go_sem]) rfl ?_
  exact DelPost.nil (by rw [delA, if_pos (by rw [hs4]; rfl)]) hst10.ext
set_option maxRecDepth 100000 in
set_option maxHeartbeats 16000000 in
theorem hupdate_any (tt : TypeId) (tv : Value) (pv : Int → PV) (NA : Option Addr) (nc : Nat) (ns : List Int) (fresh tb n j xid : Int) (RA : Option Addr) (rc : Nat) (rs : List Val) (hot : Bool) (w : World) (hS : PgsOk w tt tv pv) (hA : At w NA (ns.map (Value.int .i64))) (hnl : ns.length ≤ 100000) (hR : At w RA (flatR rs)) (hrl : rs.length ≤ 9223372036854775807) (hN : NoneAt w) :
    Calls Tryd.prog 13 #[.iface tt (tv), .slice NA ns.length nc, .int .i64 fresh, .int .i64 tb, .agg #[.int .i64 n, .int .i64 j], .int .i64 xid, .slice RA rs.length rc, .bool hot] w (UpdPost (updA pv fresh tb ns n j xid hot rs) w) := by
  have hwf := hS.wf n
  go_enter Tryd.func13, Tryd.ntmps13
  have hst0 := St.start w
  refine wp_seq (wp_region_Y [0, 0, 0, 4, 12] [] [[0], [1]] [] [.a 12, .a 16, .k 17 (.bool false), .k 18 (.slice none 0 0), .k 19 (vi 0)] (fun ix σ β X => match ix with | 0 => σ 12 = vp (pb (β 12)) ∧ X 0 = eB (pb (β 12)) 24 #[vi n, vi j] | 1 => σ 16 = vp (pb (β 16)) ∧ X 1 = eB (pb (β 16)) 24 #[vi 0, vi 0] | _ => True) [0, 1] [0, 1] [(12, 0, 1, 13), (3, 1, 4, 7)] hst0 ?_ ?_ ?_)
  · exact fun ix _ _ _ _ _ _ hs hb hx h => match ix, h with
    | 0, h => by dsimp only at h ⊢; rw [← hs 12 rfl, ← hb 12 rfl, ← hx 0 rfl]; exact h
    | 1, h => by dsimp only at h ⊢; rw [← hs 16 rfl, ← hb 16 rfl, ← hx 1 rfl]; exact h
    | _ + 2, _ => trivial
  · refine ⟨?_, ?_, trivial⟩
    · refine sv_any rfl rfl fun ρ β W X cx => ?_
      exact dv_box (cs := #[vi n, vi j]) rfl (cx.ou 4) rfl rfl rfl (fun σ β' X' hs hb hv hx => ⟨hv, hx⟩)
    · refine sv_any rfl rfl fun ρ β W X cx => ?_
      exact dv_alloc (cs := #[vi 0, vi 0]) rfl (by kernel_rfl) rfl rfl (fun σ β' X' hs hb hv hx => ⟨hv, hx⟩)
  intro σ β X W1 hD hst1 fr hfr
  obtain ⟨B12_1, hu_B12_1⟩ : ∃ z, pb (β 12) = z := ⟨_, rfl⟩
  obtain ⟨B16_1, hu_B16_1⟩ : ∃ z, pb (β 16) = z := ⟨_, rfl⟩
  simp only [exq 0 ((dTn (hD 0 lq)).2), exq 1 ((dTn (hD 1 lq)).2), hu_B12_1, hu_B16_1] at hst1
  simp only [ed 12 ((dTn (hD 0 lq)).1), ed 16 ((dTn (hD 1 lq)).1), hu_B12_1, hu_B16_1] at hfr
  clear hD hu_B12_1 hu_B16_1; subst hfr; clear σ β X
  refine then_normal (wp_seq (wp_region_Y [0, 0, 3, 7, 15, 15, 0, 95, 255] [[], [0], [], [], [], [], [], [3]] [[], [], [2], [], [], [], [3], [4]] [[], [], [], [], [], [], [], [3]] [.k 28 (.iface tt (tv)), .c 29 (.agg #[vi n, vi j]), .a 30, .a 27, .a 31, .c 32 (.bool ((atF (pv n) j).isSome)), .a 20, .n, .k 21 (.bool ((atF (pv n) j).isSome))] (fun ix σ β X => match ix with | 0 => True | 1 => True | 2 => σ 30 = .tuple #[.agg #[vi ((vD (atF (pv n) j)).1), vi ((vD (atF (pv n) j)).2.1), vi ((vD (atF (pv n) j)).2.2.1), vi ((vD (atF (pv n) j)).2.2.2.1), .bool ((vD (atF (pv n) j)).2.2.2.2.1), .slice (sA (tg (tg (β 30) 0) 5)) ((vD (atF (pv n) j)).2.2.2.2.2.length) (sC (tg (tg (β 30) 0) 5))], .bool ((atF (pv n) j).isSome)] ∧ X 2 = eO 82 3 (.slice (sA (tg (tg (β 30) 0) 5)) ((vD (atF (pv n) j)).2.2.2.2.2.length) (sC (tg (tg (β 30) 0) 5))) ((vD (atF (pv n) j)).2.2.2.2.2.length) (flatR (vD (atF (pv n) j)).2.2.2.2.2) | 3 => σ 27 = .tuple #[.agg #[vi ((vD (atF (pv n) j)).1), vi ((vD (atF (pv n) j)).2.1), vi ((vD (atF (pv n) j)).2.2.1), vi ((vD (atF (pv n) j)).2.2.2.1), .bool ((vD (atF (pv n) j)).2.2.2.2.1), .slice (sA (tg (tg (β 30) 0) 5)) ((vD (atF (pv n) j)).2.2.2.2.2.length) (sC (tg (tg (β 30) 0) 5))], .bool ((atF (pv n) j).isSome)] | 4 => σ 31 = .agg #[vi ((vD (atF (pv n) j)).1), vi ((vD (atF (pv n) j)).2.1), vi ((vD (atF (pv n) j)).2.2.1), vi ((vD (atF (pv n) j)).2.2.2.1), .bool ((vD (atF (pv n) j)).2.2.2.2.1), .slice (sA (tg (tg (β 30) 0) 5)) ((vD (atF (pv n) j)).2.2.2.2.2.length) (sC (tg (tg (β 30) 0) 5))] | 5 => True | 6 => σ 20 = vp (pb (β 20)) ∧ X 3 = eB (pb (β 20)) 41 #[vi 0, vi 0, vi 0, vi 0, .bool false, .slice none 0 0] | 7 => X 4 = eB (pb (β 20)) 41 #[vi ((vD (atF (pv n) j)).1), vi ((vD (atF (pv n) j)).2.1), vi ((vD (atF (pv n) j)).2.2.1), vi ((vD (atF (pv n) j)).2.2.2.1), .bool ((vD (atF (pv n) j)).2.2.2.2.1), .slice (sA (tg (tg (β 30) 0) 5)) ((vD (atF (pv n) j)).2.2.2.2.2.length) (sC (tg (tg (β 30) 0) 5))] | _ => True) [0, 1, 2, 4] [1, 2, 3, 4, 5, 6, 7] [(20, 6, 3, 22), (5, 3, 1, 6), (0, 0, 3, 3), (0, 4, 2, 2)] hst1 ?_ ?_ ?_))
  · exact fun ix _ _ _ _ _ _ hs hb hx h => match ix, h with
    | 2, h => by dsimp only at h ⊢; rw [← hs 30 rfl, ← hb 30 rfl, ← hx 2 rfl]; exact h
    | 3, h => by dsimp only at h ⊢; rw [← hs 27 rfl, ← hb 30 rfl]; exact h
    | 4, h => by dsimp only at h ⊢; rw [← hs 31 rfl, ← hb 30 rfl]; exact h
    | 6, h => by dsimp only at h ⊢; rw [← hs 20 rfl, ← hb 20 rfl, ← hx 3 rfl]; exact h
    | 7, h => by dsimp only at h ⊢; rw [← hb 20 rfl, ← hb 30 rfl, ← hx 4 rfl]; exact h
    | 0, _ | 1, _ | 5, _ | _ + 8, _ => trivial
  · refine ⟨?_, ?_, ?_, ?_, ?_, ?_, ?_, trivial⟩
    · exact xs4 rfl id fun cx => run_loadB (n := 2) rfl (by kernel_rfl) (by kernel_rfl) (cx.ou 12) (cx.bi 0 rfl) (nle rfl) rfl
    · refine sv_any rfl rfl fun ρ β W X cx => ?_
      refine DoesU.call (run_callF (args := #[.iface tt (tv), .agg #[vi n, vi j]]) rfl cx.sees rfl (by kernel_rfl) (map2 (cx.an 0) (cx.an 1))) ?_
      refine (hget_any _ _ pv n j _ (hS.ext cx.upd.to_ext) (hN.ext cx.upd.to_ext)).mono ?_
      rintro e W1 ⟨A4, c4, rfl, ho, hx⟩
      refine ⟨_, rfl, post_call [eO 82 3 (.slice A4 (vD (atF (pv n) j)).2.2.2.2.2.length c4) (vD (atF (pv n) j)).2.2.2.2.2.length (flatR (vD (atF (pv n) j)).2.2.2.2.2)] rfl rfl hx (one_new (eO_new ho)) (List.pairwise_singleton _ _) (fun σ β' X' hs hb hv hN => ?_)⟩
      have hv1 := (hv 30 rfl).1; have hv2 := (hv 30 rfl).2
      exact ⟨hv1.trans (by rw [hv2]; rfl), (by rw [hv2]; exact (List.cons.inj hN).1)⟩
    · exact sv rfl rfl rfl rfl rfl _ (fun _ _ _ h => h) (fun β β' h => by rw [h 30 (by decide)]) fun ρ β W X cx => run_move' rfl (dTn (cx.an 2)).1
    · exact sv rfl rfl rfl rfl rfl _ (fun _ _ _ h => h) (fun β β' h => by rw [h 30 (by decide)]) fun ρ β W X cx => run_extract' rfl (dTn (cx.an 3)) rfl
    · exact xs4 rfl id fun cx => run_extract' rfl (dTn (cx.an 3)) rfl
    · refine sv_any rfl rfl fun ρ β W X cx => ?_
      exact dv_alloc (cs := #[vi 0, vi 0, vi 0, vi 0, .bool false, .slice none 0 0]) rfl (by kernel_rfl) rfl rfl (fun σ β' X' hs hb hv hx => ⟨hv, hx⟩)
    · refine sv_any rfl rfl fun ρ β W X cx => ?_
      exact dv_store (n := 6) rfl (dTn (cx.an 6)).1 (dTn (cx.an 4)) (by kernel_rfl) (by kernel_rfl) (by kernel_rfl) cx (dTn (cx.an 6)).2 rfl (nle rfl) (by kernel_rfl) rfl rfl rfl (fun σ β' X' hs hb hx => by rw [hb 20, hb 30]; exact hx)
  intro σ β X W2 hD hst2 fr hfr
  obtain ⟨A30_2, hu_A30_2⟩ : ∃ z, sA (tg (tg (β 30) 0) 5) = z := ⟨_, rfl⟩
  obtain ⟨c30_2, hu_c30_2⟩ : ∃ z, sC (tg (tg (β 30) 0) 5) = z := ⟨_, rfl⟩
  obtain ⟨B20_2, hu_B20_2⟩ : ∃ z, pb (β 20) = z := ⟨_, rfl⟩
  simp only [exq 2 ((dTn (hD 2 lq)).2), exq 4 ((dTn (hD 7 lq))), hu_A30_2, hu_c30_2, hu_B20_2] at hst2
  simp only [ed 30 ((dTn (hD 2 lq)).1), ed 27 ((dTn (hD 3 lq))), ed 31 ((dTn (hD 4 lq))), ed 20 ((dTn (hD 6 lq)).1), hu_A30_2, hu_c30_2, hu_B20_2] at hfr
  clear hD hu_A30_2 hu_c30_2 hu_B20_2; subst hfr; clear σ β X
  obtain ⟨od, hN_od⟩ : ∃ z, (vD (atF (pv n) j)) = z := ⟨_, rfl⟩
  rw [hN_od] at hst2 ⊢
  have hol : od.2.2.2.2.2.length ≤ 6 := by rw [← hN_od]; exact atF_len hwf j
  refine then_normal (wp_seq (wp_seq (wp_region_P [0, 1] [.k 33 (.bool ((atF (pv n) j).isSome)), .k 34 (.bool (!((atF (pv n) j).isSome)))] [(33, 0, 2, 35)] hst2 fun W3 hst3 => ?_)))
  refine then_normal ?_
  rcases Bool.eq_false_or_eq_true ((atF (pv n) j).isSome) with hs4 | hs4
  · skip
    refine wp_cond_false (show Act.eval _ _ = .bool false from (congrArg Value.bool (by rw [hs4]; rfl))) (wp_skip (then_normal (wp_seq (wp_region_Y [0, 0, 0, 7, 0, 31] [[], [], [], [], [], [4]] [[], [], [], [], [4], [5]] [[], [], [], [], [], [4]] [.k 36 (vi xid), .c 37 (.agg #[vi (-1), vi 0]), .k 38 (.slice RA rs.length rc), .k 39 (.agg #[vi xid, vi 0, vi (-1), vi 0, .bool true, .slice RA rs.length rc]), .a 22, .n] (fun ix σ β X => match ix with | 0 => True | 1 => True | 2 => True | 3 => True | 4 => σ 22 = vp (pb (β 22)) ∧ X 4 = eB (pb (β 22)) 41 #[vi 0, vi 0, vi 0, vi 0, .bool false, .slice none 0 0] | 5 => X 5 = eB (pb (β 22)) 41 #[vi xid, vi 0, vi (-1), vi 0, .bool true, .slice RA rs.length rc] | _ => True) [0, 1, 2, 3, 5] [1, 4, 5] [(22, 4, 1, 23), (13, 0, 4, 17)] hst3 ?_ ?_ ?_))))
    · exact fun ix _ _ _ _ _ _ hs hb hx h => match ix, h with
      | 4, h => by dsimp only at h ⊢; rw [← hs 22 rfl, ← hb 22 rfl, ← hx 4 rfl]; exact h
      | 5, h => by dsimp only at h ⊢; rw [← hb 22 rfl, ← hx 5 rfl]; exact h
      | 0, _ | 1, _ | 2, _ | 3, _ | _ + 6, _ => trivial
    · refine ⟨?_, ?_, ?_, trivial⟩
      · exact xsc rfl id rfl rfl fun cx => ⟨_, hnone_any _, map0⟩
      · refine sv_any rfl rfl fun ρ β W X cx => ?_
        exact dv_alloc (cs := #[vi 0, vi 0, vi 0, vi 0, .bool false, .slice none 0 0]) rfl (by kernel_rfl) rfl rfl (fun σ β' X' hs hb hv hx => ⟨hv, hx⟩)
      · refine sv_any rfl rfl fun ρ β W X cx => ?_
        exact dv_store (n := 6) rfl (dTn (cx.an 4)).1 (cx.an 3) (by kernel_rfl) (by kernel_rfl) (by kernel_rfl) cx (dTn (cx.an 4)).2 rfl (nle rfl) (by kernel_rfl) rfl rfl rfl (fun σ β' X' hs hb hx => by rw [hb 22]; exact hx)
    intro σ β X W5 hD hst5 fr hfr
    obtain ⟨B22_5, hu_B22_5⟩ : ∃ z, pb (β 22) = z := ⟨_, rfl⟩
    simp only [exq 5 ((dTn (hD 5 lq))), hu_B22_5] at hst5
    simp only [ed 22 ((dTn (hD 4 lq)).1), hu_B22_5] at hfr
    clear hD hu_B22_5; subst hfr; clear σ β X
    refine then_normal (wp_seq (wp_region_Z [0, 1, 3] [[4]] [.c 40 (.agg #[vi xid, vi 0, vi (-1), vi 0, .bool true, .slice RA rs.length rc]), .c 41 (.string (tbytesF xid 0 (-1) 0 true rs)), .k 23 (.string (tbytesF xid 0 (-1) 0 true rs))] [0, 1, 2, 3, 4] [0, 1] [(23, 2, 1, 24), (16, 0, 2, 18)] hst5 ?_ fun W6 hst6 => ?_))
    · refine ⟨?_, ?_, trivial⟩
      · exact xs4 rfl id fun cx => run_loadB (n := 6) rfl (by kernel_rfl) (by kernel_rfl) (cx.ou 22) (cx.bi 4 rfl) (nle rfl) rfl
      · exact xsc rfl id rfl rfl fun cx => ⟨_, tbytes_any xid 0 (-1) 0 true _ _ rs _ (hR.ext cx.upd.to_ext) (by first | omega | decide | (simp; done) | (simp; omega)) (hN.ext cx.upd.to_ext), (map1 (cx.an 0))⟩
    obtain ⟨s, hN_s⟩ : ∃ z, tbytesF xid 0 (-1) 0 true rs = z := ⟨_, rfl⟩
    rw [hN_s]
    have hs309 : s.size ≤ 309 := by rw [← hN_s]; exact tb_le _ _ _ _ _ _
    have hN_s' : newB xid true rs = s := hN_s
    refine then_normal (wp_seq (wp_seq (wp_region_Z [0, 1, 3, 7, 15, 31, 63, 127, 255, 511, 1023, 2047, 4095, 8191, 16383, 32767, 65535, 131071, 262143] [] [.k 42 (vi xid), .c 43 (.bool (onF xid)), .k 44 (.bool (!(onF xid))), .k 45 (.bool (!(onF xid))), .z 46 (!(!(onF xid))) (.string (s)), .y 47 (!(!(onF xid))) (.bool (s.toList == ((⟨#[]⟩ : ByteArray)).toList)), tO 48 (!(onF xid)) (s.toList == ((⟨#[]⟩ : ByteArray)).toList), .k 49 (.bool ((!(onF xid)) || (s.toList == ((⟨#[]⟩ : ByteArray)).toList))), .z 50 (!((!(onF xid)) || (s.toList == ((⟨#[]⟩ : ByteArray)).toList))) (vi tb), .z 51 (!((!(onF xid)) || (s.toList == ((⟨#[]⟩ : ByteArray)).toList))) (.bool (decide (tb < 0))), tO 52 ((!(onF xid)) || (s.toList == ((⟨#[]⟩ : ByteArray)).toList)) (decide (tb < 0)), .k 53 (.bool (((!(onF xid)) || (s.toList == ((⟨#[]⟩ : ByteArray)).toList)) || (decide (tb < 0)))), .z 54 (!(((!(onF xid)) || (s.toList == ((⟨#[]⟩ : ByteArray)).toList)) || (decide (tb < 0)))) (vi tb), .z 55 (!(((!(onF xid)) || (s.toList == ((⟨#[]⟩ : ByteArray)).toList)) || (decide (tb < 0)))) (.bool (decide (65535 < tb))), tO 56 (((!(onF xid)) || (s.toList == ((⟨#[]⟩ : ByteArray)).toList)) || (decide (tb < 0))) (decide (65535 < tb)), .k 57 (.bool ((((!(onF xid)) || (s.toList == ((⟨#[]⟩ : ByteArray)).toList)) || (decide (tb < 0))) || (decide (65535 < tb)))), .z 58 (!((((!(onF xid)) || (s.toList == ((⟨#[]⟩ : ByteArray)).toList)) || (decide (tb < 0))) || (decide (65535 < tb)))) (vi fresh), .z 59 (!((((!(onF xid)) || (s.toList == ((⟨#[]⟩ : ByteArray)).toList)) || (decide (tb < 0))) || (decide (65535 < tb)))) (.bool (decide (400 ≤ fresh))), tO 60 ((((!(onF xid)) || (s.toList == ((⟨#[]⟩ : ByteArray)).toList)) || (decide (tb < 0))) || (decide (65535 < tb))) (decide (400 ≤ fresh))] [0, 1, 2, 3, 4] [1, 5] [(42, 0, 19, 61)] hst6 ?_ fun W7 hst7 => ?_)))
    · refine ⟨?_, ?_, trivial⟩
      · exact xsc rfl id rfl rfl fun cx => ⟨_, hring_any xid _, (map1 (cx.an 0))⟩
      · exact m2 rfl (fun _ _ _ h => h) (fun cx => (cx.an 3)) fun cx hq => run_streq rfl (mbv (cx.an 4) hq) (cx.co _)
    refine then_normal ?_
    rcases Bool.eq_false_or_eq_true (((((!(onF xid)) || (s.toList == ((⟨#[]⟩ : ByteArray)).toList)) || (decide (tb < 0))) || (decide (65535 < tb))) || (decide (400 ≤ fresh))) with hs8 | hs8
    · skip
      have hs8p := hs8
      simp only [zB] at hs8p
      refine wp_cond_true (show Act.eval _ _ = .bool true from (congrArg Value.bool hs8)) (wp_seq (wp_region_Y [0, 1, 3, 7, 15] [[], [1]] [[], [5]] [[], [1]] [.k 61 (.agg #[vi 0, vi 0]), .n, .k 17 (.bool false), .k 18 (.slice none 0 0), .k 19 (vi 1)] (fun ix σ β X => match ix with | 0 => True | 1 => X 5 = eB B16_1 24 #[vi 0, vi 0] | _ => True) [0, 2, 3, 4, 5] [1] [(17, 2, 3, 20), (41, 0, 1, 42)] hst7 ?_ ?_ ?_))
      · exact fun ix _ _ _ _ _ _ hs hb hx h => match ix, h with
        | 1, h => by dsimp only at h ⊢; rw [← hx 5 rfl]; exact h
        | 0, _ | _ + 2, _ => trivial
      · refine ⟨?_, trivial⟩
        · refine sv_any rfl rfl fun ρ β W X cx => ?_
          exact dv_store (n := 2) rfl (cx.ou 16) (cx.an 0) (by kernel_rfl) (by kernel_rfl) (by kernel_rfl) cx (cx.init 1 _ rfl) rfl (nle rfl) (by kernel_rfl) rfl rfl rfl (fun σ β' X' hs hb hx => hx)
      intro σ β X W9 hD hst9 fr hfr
      simp only [exq 5 ((dTn (hD 1 lq)))] at hst9
      clear hD; subst hfr; clear σ β X
      refine then_normal (wp_ret (then_ret ?_))
      have hr10 : W9.cell? ⟨B16_1, 0, none⟩ = some (vi 0) := (hst9.blk 4 rfl).cell 0
      have hr11 : W9.cell? ⟨B16_1, 1, none⟩ = some (vi 0) := (hst9.blk 4 rfl).cell 1
      refine bodyPost_ret (v := .tuple #[.agg #[vi 0, vi 0], .bool false, .slice none 0 0, vi 1]) (by simp [results, Tryd.results13, go_sem, hr10, hr11]) rfl ?_
      exact UpdPost.nil (by rw [updA, if_neg (by rw [hs4]; decide), hN_s', updBad, if_pos hs8]) hst9.ext
    have hs8p := hs8
    simp only [zB] at hs8p
    obtain ⟨⟨⟨⟨hs8p1, hs8p2⟩, hs8p3⟩, hs8p4⟩, hs8p5⟩ := hs8p
    refine wp_cond_false (show Act.eval _ _ = .bool false from (congrArg Value.bool hs8)) (wp_skip (then_normal (wp_seq (wp_region_Y [0, 1, 3, 0, 15] [[], [0], [], [], [5]] [[], [], [], [5], [6]] [[], [], [], [], [5]] [.k 62 (vp B12_1), .c 63 (vi n), .k 64 (.agg #[vi n, vi 0]), .a 24, .n] (fun ix σ β X => match ix with | 0 => True | 1 => True | 2 => True | 3 => σ 24 = vp (pb (β 24)) ∧ X 5 = eB (pb (β 24)) 24 #[vi 0, vi 0] | 4 => X 6 = eB (pb (β 24)) 24 #[vi n, vi 0] | _ => True) [0, 1, 2, 3, 4, 6] [1, 3, 4] [(24, 3, 1, 25), (37, 0, 3, 40)] hst7 ?_ ?_ ?_))))
    · exact fun ix _ _ _ _ _ _ hs hb hx h => match ix, h with
      | 3, h => by dsimp only at h ⊢; rw [← hs 24 rfl, ← hb 24 rfl, ← hx 5 rfl]; exact h
      | 4, h => by dsimp only at h ⊢; rw [← hb 24 rfl, ← hx 6 rfl]; exact h
      | 0, _ | 1, _ | 2, _ | _ + 5, _ => trivial
    · refine ⟨?_, ?_, ?_, trivial⟩
      · exact xs4 rfl id fun cx => run_load1 rfl (by kernel_rfl) (cx.an 0) ((cx.bi 0 rfl).cell 0)
      · refine sv_any rfl rfl fun ρ β W X cx => ?_
        exact dv_alloc (cs := #[vi 0, vi 0]) rfl (by kernel_rfl) rfl rfl (fun σ β' X' hs hb hv hx => ⟨hv, hx⟩)
      · refine sv_any rfl rfl fun ρ β W X cx => ?_
        exact dv_store (n := 2) rfl (dTn (cx.an 3)).1 (cx.an 2) (by kernel_rfl) (by kernel_rfl) (by kernel_rfl) cx (dTn (cx.an 3)).2 rfl (nle rfl) (by kernel_rfl) rfl rfl rfl (fun σ β' X' hs hb hx => by rw [hb 24]; exact hx)
    intro σ β X W12 hD hst12 fr hfr
    obtain ⟨B24_12, hu_B24_12⟩ : ∃ z, pb (β 24) = z := ⟨_, rfl⟩
    simp only [exq 6 ((dTn (hD 4 lq))), hu_B24_12] at hst12
    simp only [ed 24 ((dTn (hD 3 lq)).1), hu_B24_12] at hfr
    clear hD hu_B24_12; subst hfr; clear σ β X
    refine then_normal ?_
    refine wp_cut (fun az W => ∃ q : Int, ∃ u13_ : List Value, q = updQ pv n hot s ∧ az = ⟨#[.iface tt (tv), .slice NA ns.length nc, vi fresh, vi tb, .agg #[vi n, vi j], vi xid, .slice RA rs.length rc, .bool hot, undef, undef, undef, undef, vp B12_1, undef, undef, undef, vp B16_1, .bool false, .slice none 0 0, vi 0, vp B20_2, .bool ((atF (pv n) j).isSome), vp B22_5, .string (s), vp B24_12, undef, undef, .tuple #[.agg #[vi (od.1), vi (od.2.1), vi (od.2.2.1), vi (od.2.2.2.1), .bool (od.2.2.2.2.1), .slice A30_2 (od.2.2.2.2.2.length) c30_2], .bool ((atF (pv n) j).isSome)], .iface tt (tv), .agg #[vi n, vi j], .tuple #[.agg #[vi (od.1), vi (od.2.1), vi (od.2.2.1), vi (od.2.2.2.1), .bool (od.2.2.2.2.1), .slice A30_2 (od.2.2.2.2.2.length) c30_2], .bool ((atF (pv n) j).isSome)], .agg #[vi (od.1), vi (od.2.1), vi (od.2.2.1), vi (od.2.2.2.1), .bool (od.2.2.2.2.1), .slice A30_2 (od.2.2.2.2.2.length) c30_2], .bool ((atF (pv n) j).isSome), .bool ((atF (pv n) j).isSome), .bool (!((atF (pv n) j).isSome)), undef, vi xid, .agg #[vi (-1), vi 0], .slice RA rs.length rc, .agg #[vi xid, vi 0, vi (-1), vi 0, .bool true, .slice RA rs.length rc], .agg #[vi xid, vi 0, vi (-1), vi 0, .bool true, .slice RA rs.length rc], .string (s), vi xid, .bool (onF xid), .bool (!(onF xid)), .bool (!(onF xid)), mb (!(!(onF xid))) (.string (s)), mb (!(!(onF xid))) (.bool (s.toList == ((⟨#[]⟩ : ByteArray)).toList)), .bool ((!(onF xid)) || (s.toList == ((⟨#[]⟩ : ByteArray)).toList)), .bool ((!(onF xid)) || (s.toList == ((⟨#[]⟩ : ByteArray)).toList)), mb (!((!(onF xid)) || (s.toList == ((⟨#[]⟩ : ByteArray)).toList))) (vi tb), mb (!((!(onF xid)) || (s.toList == ((⟨#[]⟩ : ByteArray)).toList))) (.bool (decide (tb < 0))), .bool (((!(onF xid)) || (s.toList == ((⟨#[]⟩ : ByteArray)).toList)) || (decide (tb < 0))), .bool (((!(onF xid)) || (s.toList == ((⟨#[]⟩ : ByteArray)).toList)) || (decide (tb < 0))), mb (!(((!(onF xid)) || (s.toList == ((⟨#[]⟩ : ByteArray)).toList)) || (decide (tb < 0)))) (vi tb), mb (!(((!(onF xid)) || (s.toList == ((⟨#[]⟩ : ByteArray)).toList)) || (decide (tb < 0)))) (.bool (decide (65535 < tb))), .bool ((((!(onF xid)) || (s.toList == ((⟨#[]⟩ : ByteArray)).toList)) || (decide (tb < 0))) || (decide (65535 < tb))), .bool ((((!(onF xid)) || (s.toList == ((⟨#[]⟩ : ByteArray)).toList)) || (decide (tb < 0))) || (decide (65535 < tb))), mb (!((((!(onF xid)) || (s.toList == ((⟨#[]⟩ : ByteArray)).toList)) || (decide (tb < 0))) || (decide (65535 < tb)))) (vi fresh), mb (!((((!(onF xid)) || (s.toList == ((⟨#[]⟩ : ByteArray)).toList)) || (decide (tb < 0))) || (decide (65535 < tb)))) (.bool (decide (400 ≤ fresh))), .bool (((((!(onF xid)) || (s.toList == ((⟨#[]⟩ : ByteArray)).toList)) || (decide (tb < 0))) || (decide (65535 < tb))) || (decide (400 ≤ fresh))), undef, vp B12_1, vi n, .agg #[vi n, vi 0], (gu u13_ 0), (gu u13_ 1), (gu u13_ 2), (gu u13_ 3), (gu u13_ 4), (gu u13_ 5), (gu u13_ 6), undef, undef, undef, undef, undef, undef, undef, undef, undef, undef, undef, undef, undef, undef, undef, undef, undef, undef, undef, undef, undef, undef, undef, undef, undef, undef, undef, undef, undef, undef, undef, undef, undef, undef, undef, undef, undef, undef, undef, undef, undef, undef, undef], []⟩ ∧ St w [] [eB B12_1 24 #[vi n, vi j], eB B16_1 24 #[vi 0, vi 0], eO 82 3 (.slice A30_2 (od.2.2.2.2.2.length) c30_2) od.2.2.2.2.2.length (flatR od.2.2.2.2.2), eB B20_2 41 #[vi (od.1), vi (od.2.1), vi (od.2.2.1), vi (od.2.2.2.1), .bool (od.2.2.2.2.1), .slice A30_2 (od.2.2.2.2.2.length) c30_2], eB B22_5 41 #[vi xid, vi 0, vi (-1), vi 0, .bool true, .slice RA rs.length rc], eB B24_12 24 #[vi n, vi q]] W) ?_ ?_
    · skip
      refine wp_seq (wp_region_P [0] [.k 65 (.bool hot)] [(65, 0, 1, 66)] hst12 fun W14 hst14 => ?_)
      refine then_normal ?_
      rcases Bool.eq_false_or_eq_true (hot) with hs15 | hs15
      · skip
        refine wp_cond_true (show Act.eval _ _ = .bool true from (congrArg Value.bool hs15)) (wp_region_Y [0, 0, 2, 0, 15, 31, 63] [[], [], [0], [], [], [], [5]] [[], [], [], [], [], [], [6]] [[], [], [], [], [], [], [5]] [.k 66 (.iface tt (tv)), .k 67 (vp B12_1), .c 68 (vi n), .k 69 (.string (s)), .c 70 (vi ((roomI (pv n) s))), .k 71 (.pointer (some ⟨B24_12, 1, none⟩)), .n] (fun ix σ β X => match ix with | 0 => True | 1 => True | 2 => True | 3 => True | 4 => True | 5 => True | 6 => X 6 = eB B24_12 24 #[vi n, vi ((roomI (pv n) s))] | _ => True) [0, 1, 2, 3, 4, 6] [2, 4, 6] [(66, 0, 6, 72)] hst14 ?_ ?_ ?_)
        · exact fun ix _ _ _ _ _ _ hs hb hx h => match ix, h with
          | 6, h => by dsimp only at h ⊢; rw [← hx 6 rfl]; exact h
          | 0, _ | 1, _ | 2, _ | 3, _ | 4, _ | 5, _ | _ + 7, _ => trivial
        · refine ⟨?_, ?_, ?_, trivial⟩
          · exact xs4 rfl id fun cx => run_load1 rfl (by kernel_rfl) (cx.an 1) ((cx.bi 0 rfl).cell 0)
          · exact xsc rfl id rfl rfl fun cx => ⟨_, hroomi_any _ _ pv n s _ (hS.ext cx.upd.to_ext) (by omega), (map3 (cx.an 0) (cx.an 2) (cx.an 3))⟩
          · refine sv_any rfl rfl fun ρ β W X cx => ?_
            exact dv_store (n := 1) rfl (cx.an 5) (cx.an 4) (by kernel_rfl) (by kernel_rfl) (by kernel_rfl) cx (cx.init 5 _ rfl) rfl (nle rfl) (by kernel_rfl) rfl rfl rfl (fun σ β' X' hs hb hx => hx)
        intro σ β X W16 hD hst16 fr hfr
        simp only [exq 6 ((dTn (hD 6 lq)))] at hst16
        clear hD; subst hfr; clear σ β X
        refine then_normal ?_
        have hp17 := hst16.pick [0, 1, 2, 3, 4, 5] (by decide) rfl
        exact ⟨(roomI (pv n) s), [.bool hot, .iface tt (tv), vp B12_1, vi n, .string (s), vi ((roomI (pv n) s)), .pointer (some ⟨B24_12, 1, none⟩)], by rw [updQ, if_pos (by simp [hs15])], rfl, hp17⟩
      refine wp_cond_false (show Act.eval _ _ = .bool false from (congrArg Value.bool hs15)) (wp_skip (then_normal ?_))
      have hp18 := hst14.pick [0, 1, 2, 3, 4, 5] (by decide) rfl
      exact ⟨0, [.bool hot, undef, undef, undef, undef, undef, undef], by rw [updQ, if_neg (by simp [hs15])], rfl, hp18⟩
    rintro a13 W13 ⟨q, u13_, hq, rfl, hst13⟩
    refine wp_seq (wp_region_Y [0, 1, 0, 4, 0, 31, 63, 127] [[], [5], [], [5]] [[], [], [], [], [], [], [6]] [] [.k 72 (vp B24_12), .c 73 (vi n), .k 74 (.pointer (some ⟨B24_12, 1, none⟩)), .c 75 (vi q), .k 76 (.string (s)), .k 77 (.agg #[vi n, vi q, .string (s)]), .a 78, .a 25] (fun ix σ β X => match ix with | 0 => True | 1 => True | 2 => True | 3 => True | 4 => True | 5 => True | 6 => σ 78 = .slice ((some ⟨(pb' (β 78)), 0, none⟩)) 1 1 ∧ X 6 = eO 99 3 (.slice ((some ⟨(pb' (β 78)), 0, none⟩)) 1 1) 1 (cellsE (n, q, s)) | 7 => σ 25 = .slice ((some ⟨(pb' (β 78)), 0, none⟩)) 1 1 | _ => True) [0, 1, 2, 3, 4, 5, 6] [1, 3, 6, 7] [(25, 7, 1, 26), (46, 0, 7, 53)] hst13 ?_ ?_ ?_)
    · exact fun ix _ _ _ _ _ _ hs hb hx h => match ix, h with
      | 6, h => by dsimp only at h ⊢; rw [← hs 78 rfl, ← hb 78 rfl, ← hx 6 rfl]; exact h
      | 7, h => by dsimp only at h ⊢; rw [← hs 25 rfl, ← hb 78 rfl]; exact h
      | 0, _ | 1, _ | 2, _ | 3, _ | 4, _ | 5, _ | _ + 8, _ => trivial
    · refine ⟨?_, ?_, ?_, ?_, trivial⟩
      · exact xs4 rfl id fun cx => run_load1 rfl (by kernel_rfl) (cx.an 0) ((cx.bi 5 rfl).cell 0)
      · exact xs4 rfl id fun cx => run_load1 rfl (by kernel_rfl) (cx.an 2) ((cx.bi 5 rfl).cell 1)
      · refine sv_any rfl rfl fun ρ β W X cx => ?_
        have fF77 : ρ (.tmp 77) = .agg #[vi n, vi q, .string (s)] := (cx.an 5)
        exact dv_litN (e := 99) (sz := 3) (xs := [vi n, vi q, .string (s)]) rfl (by simp [go_sem, fF77]) rfl (by decide) rfl rfl (fun σ β' X' hs hb hv hx => ⟨hv, hx⟩)
      · exact sv rfl rfl rfl rfl rfl _ (fun _ _ _ h => h) (fun β β' h => by rw [h 78 (by decide)]) fun ρ β W X cx => run_assign' rfl (dTn (cx.an 6)).1
    intro σ β X W19 hD hst19 fr hfr
    obtain ⟨B78_19, hu_B78_19⟩ : ∃ z, pb' (β 78) = z := ⟨_, rfl⟩
    simp only [exq 6 ((dTn (hD 6 lq)).2), hu_B78_19] at hst19
    simp only [ed 78 ((dTn (hD 6 lq)).1), ed 25 ((dTn (hD 7 lq))), hu_B78_19] at hfr
    clear hD hu_B78_19; subst hfr; clear σ β X
    refine then_normal (wp_seq (wp_region_Z [0, 1, 3, 7] [[], [5]] [.k 79 (.pointer (some ⟨B24_12, 1, none⟩)), .c 80 (vi q), .k 81 (.bool (decide (0 < q))), .k 7 (.bool (decide (0 < q)))] [0, 1, 2, 3, 4, 5, 6] [1] [(7, 3, 1, 8), (71, 0, 3, 74)] hst19 ?_ fun W20 hst20 => ?_))
    · refine ⟨?_, trivial⟩
      · exact xs4 rfl id fun cx => run_load1 rfl (by kernel_rfl) (cx.an 0) ((cx.bi 5 rfl).cell 1)
    refine then_normal (wp_seq (wp_seq (wp_region_P [0, 1] [.k 82 (.bool (decide (0 < q))), .k 83 (.bool (!(decide (0 < q))))] [(82, 0, 2, 84)] hst20 fun W21 hst21 => ?_)))
    refine then_normal ?_
    rcases Bool.eq_false_or_eq_true (decide (0 < q)) with hs22 | hs22
    · skip
      have hs22p : 0 < q := by simpa using hs22
      refine wp_cond_false (show Act.eval _ _ = .bool false from (congrArg Value.bool (by rw [hs22]; rfl))) (wp_skip (then_normal (wp_seq (wp_region_Y [0, 0, 1, 5, 15, 31] [[], [5], [], [3], [], [7]] [[], [], [], [7], [], [8]] [[], [], [], [3], [], [7]] [.k 99 (vi xid), .c 100 (.agg #[vi n, vi q]), .k 101 (.pointer (some ⟨B20_2, 1, none⟩)), .n, .k 102 (.pointer (some ⟨B20_2, 2, none⟩)), .n] (fun ix σ β X => match ix with | 0 => True | 1 => True | 2 => True | 3 => X 7 = eB B20_2 41 #[vi (od.1), vi xid, vi (od.2.2.1), vi (od.2.2.2.1), .bool (od.2.2.2.2.1), .slice A30_2 (od.2.2.2.2.2.length) c30_2] | 4 => True | 5 => X 8 = eB B20_2 41 #[vi (od.1), vi xid, vi n, vi q, .bool (od.2.2.2.2.1), .slice A30_2 (od.2.2.2.2.2.length) c30_2] | _ => True) [0, 1, 2, 4, 5, 6, 8] [1, 3, 5] [(99, 0, 5, 103)] hst21 ?_ ?_ ?_))))
      · exact fun ix _ _ _ _ _ _ hs hb hx h => match ix, h with
        | 3, h => by dsimp only at h ⊢; rw [← hx 7 rfl]; exact h
        | 5, h => by dsimp only at h ⊢; rw [← hx 8 rfl]; exact h
        | 0, _ | 1, _ | 2, _ | 4, _ | _ + 6, _ => trivial
      · refine ⟨?_, ?_, ?_, trivial⟩
        · exact xs4 rfl id fun cx => run_loadB (n := 2) rfl (by kernel_rfl) (by kernel_rfl) (cx.ou 24) (cx.bi 5 rfl) (nle rfl) rfl
        · refine sv_any rfl rfl fun ρ β W X cx => ?_
          exact dv_store (n := 1) rfl (cx.an 2) (cx.an 0) (by kernel_rfl) (by kernel_rfl) (by kernel_rfl) cx (cx.init 3 _ rfl) rfl (nle rfl) (by kernel_rfl) rfl rfl rfl (fun σ β' X' hs hb hx => hx)
        · refine sv_any rfl rfl fun ρ β W X cx => ?_
          exact dv_store (n := 2) rfl (cx.an 4) (cx.an 1) (by kernel_rfl) (by kernel_rfl) (by kernel_rfl) cx (dTn (cx.an 3)) rfl (nle rfl) (by kernel_rfl) rfl rfl rfl (fun σ β' X' hs hb hx => hx)
      intro σ β X W23 hD hst23 fr hfr
      simp only [exq 8 ((dTn (hD 5 lq)))] at hst23
      clear hD; subst hfr; clear σ β X
      refine then_normal (wp_seq (wp_region_Y [0, 0, 0, 0, 8, 0, 32, 0, 128, 504, 1016, 2044, 4093, 8191, 16383, 32767] [[4], [], [], [], [0], [], [0], [6], [2], [], [], [7, 5], [1]] [[], [], [], [], [], [], [], [], [], [], [7], [8], [9]] [[], [], [], [], [], [], [], [], [], [], [], [5], [1]] [.c 103 (.agg #[vi n, vi q]), .c 104 (.bool true), .k 105 (.slice ((some ⟨B78_19, 0, none⟩)) 1 1), .k 106 (vp B12_1), .c 107 (vi n), .k 108 (.pointer (some ⟨B12_1, 1, none⟩)), .c 109 (vi j), .c 110 (.agg #[vi (od.1), vi xid, vi n, vi q, .bool (od.2.2.2.2.1), .slice A30_2 (od.2.2.2.2.2.length) c30_2]), .c 111 (.string (tbytesF od.1 xid n q od.2.2.2.2.1 od.2.2.2.2.2)), .k 112 (.agg #[vi n, vi j, .string (tbytesF od.1 xid n q od.2.2.2.2.1 od.2.2.2.2.2)]), .a 113, .a 114, .n, .k 17 (.bool true), .a 18, .k 19 (vi 0)] (fun ix σ β X => match ix with | 0 => True | 1 => True | 2 => True | 3 => True | 4 => True | 5 => True | 6 => True | 7 => True | 8 => True | 9 => True | 10 => σ 113 = .slice ((some ⟨(pb' (β 113)), 0, none⟩)) 1 1 ∧ X 7 = eO 99 3 (.slice ((some ⟨(pb' (β 113)), 0, none⟩)) 1 1) 1 (cellsE (n, j, tbytesF od.1 xid n q od.2.2.2.2.1 od.2.2.2.2.2)) | 11 => σ 114 = .slice (sA (β 114)) 2 (sC (β 114)) ∧ X 8 = eO 99 3 (.slice (sA (β 114)) 2 (sC (β 114))) 2 ([(n, q, s), (n, j, tbytesF od.1 xid n q od.2.2.2.2.1 od.2.2.2.2.2)].flatMap cellsE) | 12 => X 9 = eB B16_1 24 #[vi n, vi q] | 13 => True | 14 => σ 18 = .slice (sA (β 114)) 2 (sC (β 114)) | _ => True) [0, 2, 3, 4, 6, 7, 8, 9] [0, 1, 4, 6, 7, 8, 10, 11, 12, 14] [(17, 13, 3, 20), (83, 0, 12, 95)] hst23 ?_ ?_ ?_))
      · exact fun ix _ _ _ _ _ _ hs hb hx h => match ix, h with
        | 10, h => by dsimp only at h ⊢; rw [← hs 113 rfl, ← hb 113 rfl, ← hx 7 rfl]; exact h
        | 11, h => by dsimp only at h ⊢; rw [← hs 114 rfl, ← hb 114 rfl, ← hx 8 rfl]; exact h
        | 12, h => by dsimp only at h ⊢; rw [← hx 9 rfl]; exact h
        | 14, h => by dsimp only at h ⊢; rw [← hs 18 rfl, ← hb 114 rfl]; exact h
        | 0, _ | 1, _ | 2, _ | 3, _ | 4, _ | 5, _ | 6, _ | 7, _ | 8, _ | 9, _ | 13, _ | _ + 15, _ => trivial
      · refine ⟨?_, ?_, ?_, ?_, ?_, ?_, ?_, ?_, ?_, ?_, trivial⟩
        · exact xs4 rfl id fun cx => run_loadB (n := 2) rfl (by kernel_rfl) (by kernel_rfl) (cx.ou 24) (cx.bi 4 rfl) (nle rfl) rfl
        · exact xs4 rfl id fun cx => run_move' rfl (Eq.trans (cx.ou 7) (congrArg Value.bool hs22))
        · exact xs4 rfl id fun cx => run_load1 rfl (by kernel_rfl) (cx.an 3) ((cx.bi 0 rfl).cell 0)
        · exact xs4 rfl id fun cx => run_load1 rfl (by kernel_rfl) (cx.an 5) ((cx.bi 0 rfl).cell 1)
        · exact xs4 rfl id fun cx => run_loadB (n := 6) rfl (by kernel_rfl) (by kernel_rfl) (cx.ou 20) (cx.bi 6 rfl) (nle rfl) rfl
        · exact xsc rfl id rfl rfl fun cx => ⟨_, tbytes_any od.1 xid n q od.2.2.2.2.1 _ _ od.2.2.2.2.2 _ (At.of_ownN (cx.ri 2 rfl)) (by first | omega | decide | (simp; done) | (simp; omega)) (hN.ext cx.upd.to_ext), (map1 (cx.an 7))⟩
        · refine sv_any rfl rfl fun ρ β W X cx => ?_
          have fF112 : ρ (.tmp 112) = .agg #[vi n, vi j, .string (tbytesF od.1 xid n q od.2.2.2.2.1 od.2.2.2.2.2)] := (cx.an 9)
          exact dv_litN (e := 99) (sz := 3) (xs := [vi n, vi j, .string (tbytesF od.1 xid n q od.2.2.2.2.1 od.2.2.2.2.2)]) rfl (by simp [go_sem, fF112]) rfl (by decide) rfl rfl (fun σ β' X' hs hb hv hx => ⟨hv, hx⟩)
        · refine sv_any rfl rfl fun ρ β W X cx => ?_
          obtain ⟨i0, hi0, hz0, hz1, hz2⟩ := info_parts Tryd.infoEdit
          refine dv_appendN (n := 1) (m := 1) (nm := 2) (sz := 3) (xs := cellsE (n, q, s)) (news := cellsE (n, j, tbytesF od.1 xid n q od.2.2.2.2.1 od.2.2.2.2.2)) (xs' := [(n, q, s), (n, j, tbytesF od.1 xid n q od.2.2.2.2.1 od.2.2.2.2.2)].flatMap cellsE) rfl (ty := 36) rfl (by kernel_rfl) hi0 hz0 hz1 hz2 rfl (by decide) (cx.an 2) cx (cx.init 5 _ rfl) rfl (dTn (cx.an 10)).1 (by rfl) (At.of_ownN (cx.row (dTn (cx.an 10)).2 rfl)) (by simp [cellsE, Value.oneCell']) (by simp only [maxLen]; omega) (by omega) rfl rfl rfl (by omega) (rfl) (fun σ β' X' hs hb hv hx => ?_)
          exact ⟨hv, hx⟩
        · refine sv_any rfl rfl fun ρ β W X cx => ?_
          exact dv_store (n := 2) rfl (cx.ou 16) (cx.an 0) (by kernel_rfl) (by kernel_rfl) (by kernel_rfl) cx (cx.init 1 _ rfl) rfl (nle rfl) (by kernel_rfl) rfl rfl rfl (fun σ β' X' hs hb hx => hx)
        · exact sv rfl rfl rfl rfl rfl _ (fun _ _ _ h => h) (fun β β' h => by rw [h 114 (by decide)]) fun ρ β W X cx => run_assign' rfl (dTn (cx.an 11)).1
      intro σ β X W24 hD hst24 fr hfr
      obtain ⟨B113_24, hu_B113_24⟩ : ∃ z, pb' (β 113) = z := ⟨_, rfl⟩
      obtain ⟨A114_24, hu_A114_24⟩ : ∃ z, sA (β 114) = z := ⟨_, rfl⟩
      obtain ⟨c114_24, hu_c114_24⟩ : ∃ z, sC (β 114) = z := ⟨_, rfl⟩
      simp only [exq 7 ((dTn (hD 10 lq)).2), exq 8 ((dTn (hD 11 lq)).2), exq 9 ((dTn (hD 12 lq))), hu_B113_24, hu_A114_24, hu_c114_24] at hst24
      simp only [ed 113 ((dTn (hD 10 lq)).1), ed 114 ((dTn (hD 11 lq)).1), ed 18 ((dTn (hD 14 lq))), hu_B113_24, hu_A114_24, hu_c114_24] at hfr
      clear hD hu_B113_24 hu_A114_24 hu_c114_24; subst hfr; clear σ β X
      refine then_normal (wp_ret ?_)
      have hr25 : W24.cell? ⟨B16_1, 0, none⟩ = some (vi n) := (hst24.blk 7 rfl).cell 0
      have hr26 : W24.cell? ⟨B16_1, 1, none⟩ = some (vi q) := (hst24.blk 7 rfl).cell 1
      refine bodyPost_ret (v := .tuple #[.agg #[vi n, vi q], .bool true, .slice A114_24 2 c114_24, vi 0]) (by simp [results, Tryd.results13, go_sem, hr25, hr26]) rfl ?_
      exact UpdPost.of (l := [(n, q, s), (n, j, oldB od xid n q)]) (by rw [updA, if_neg (by rw [hs4]; decide), hN_s', updBad, if_neg (by rw [hs8]; decide), updR, hN_s', ← hq, if_pos (by omega), hN_od]) rfl rfl (hst24.own' 6 rfl) hst24.ext
    have hs22p : ¬ (0 < q) := by simpa using hs22
    refine wp_cond_true (show Act.eval _ _ = .bool true from (congrArg Value.bool (by rw [hs22]; rfl))) (wp_seq (wp_region_P [0] [.k 26 (vi 0)] [(26, 0, 1, 27)] hst21 fun W27 hst27 => ?_))
    refine then_normal (wp_seq (wp_region_Y [0, 1] [[], [4]] [[], [7]] [[], [4]] [.k 84 (.pointer (some ⟨B22_5, 4, none⟩)), .n] (fun ix σ β X => match ix with | 0 => True | 1 => X 7 = eB B22_5 41 #[vi xid, vi 0, vi (-1), vi 0, .bool false, .slice RA rs.length rc] | _ => True) [0, 1, 2, 3, 5, 6, 7] [1] [(84, 0, 1, 85)] hst27 ?_ ?_ ?_))
    · exact fun ix _ _ _ _ _ _ hs hb hx h => match ix, h with
      | 1, h => by dsimp only at h ⊢; rw [← hx 7 rfl]; exact h
      | 0, _ | _ + 2, _ => trivial
    · refine ⟨?_, trivial⟩
      · refine sv_any rfl rfl fun ρ β W X cx => ?_
        exact dv_store (n := 1) rfl (cx.an 0) (cx.co _) (by kernel_rfl) (by kernel_rfl) (by kernel_rfl) cx (cx.init 4 _ rfl) rfl (nle rfl) (by kernel_rfl) rfl rfl rfl (fun σ β' X' hs hb hx => hx)
    intro σ β X W28 hD hst28 fr hfr
    simp only [exq 7 ((dTn (hD 1 lq)))] at hst28
    clear hD; subst hfr; clear σ β X
    refine then_normal (wp_seq (wp_region_Y [0, 0, 0, 0, 0, 31, 63, 127, 127, 127, 255, 1535, 4095] [[], [], [], [], [6], [], [], [], [], [], [4]] [[], [], [], [], [], [7], [], [], [], [], [8]] [[], [], [], [], [], [], [], [], [], [], [4]] [.k 86 (.iface tt (tv)), .k 87 (.slice NA ns.length nc), .k 88 (vi fresh), .k 89 (vi tb), .c 90 (.agg #[vi xid, vi 0, vi (-1), vi 0, .bool false, .slice RA rs.length rc]), .a 91, .a 85, .c 92 (.agg #[vi ((insA pv fresh tb ns (tbytesF xid 0 (-1) 0 false rs)).1.1), vi ((insA pv fresh tb ns (tbytesF xid 0 (-1) 0 false rs)).1.2)]), .a 93, .c 94 (vi ((insA pv fresh tb ns (tbytesF xid 0 (-1) 0 false rs)).2.2)), .n, .a 25, .k 26 (vi ((insA pv fresh tb ns (tbytesF xid 0 (-1) 0 false rs)).2.2))] (fun ix σ β X => match ix with | 0 => True | 1 => True | 2 => True | 3 => True | 4 => True | 5 => σ 91 = .tuple #[.agg #[vi ((insA pv fresh tb ns (tbytesF xid 0 (-1) 0 false rs)).1.1), vi ((insA pv fresh tb ns (tbytesF xid 0 (-1) 0 false rs)).1.2)], .slice (sA (tg (β 91) 1)) ((insA pv fresh tb ns (tbytesF xid 0 (-1) 0 false rs)).2.1.length) (sC (tg (β 91) 1)), vi ((insA pv fresh tb ns (tbytesF xid 0 (-1) 0 false rs)).2.2)] ∧ X 7 = eO 99 3 (.slice (sA (tg (β 91) 1)) ((insA pv fresh tb ns (tbytesF xid 0 (-1) 0 false rs)).2.1.length) (sC (tg (β 91) 1))) ((insA pv fresh tb ns (tbytesF xid 0 (-1) 0 false rs)).2.1.length) ((insA pv fresh tb ns (tbytesF xid 0 (-1) 0 false rs)).2.1.flatMap cellsE) | 6 => σ 85 = .tuple #[.agg #[vi ((insA pv fresh tb ns (tbytesF xid 0 (-1) 0 false rs)).1.1), vi ((insA pv fresh tb ns (tbytesF xid 0 (-1) 0 false rs)).1.2)], .slice (sA (tg (β 91) 1)) ((insA pv fresh tb ns (tbytesF xid 0 (-1) 0 false rs)).2.1.length) (sC (tg (β 91) 1)), vi ((insA pv fresh tb ns (tbytesF xid 0 (-1) 0 false rs)).2.2)] | 7 => True | 8 => σ 93 = .slice (sA (tg (β 91) 1)) ((insA pv fresh tb ns (tbytesF xid 0 (-1) 0 false rs)).2.1.length) (sC (tg (β 91) 1)) | 9 => True | 10 => X 8 = eB B24_12 24 #[vi ((insA pv fresh tb ns (tbytesF xid 0 (-1) 0 false rs)).1.1), vi ((insA pv fresh tb ns (tbytesF xid 0 (-1) 0 false rs)).1.2)] | 11 => σ 25 = .slice (sA (tg (β 91) 1)) ((insA pv fresh tb ns (tbytesF xid 0 (-1) 0 false rs)).2.1.length) (sC (tg (β 91) 1)) | _ => True) [0, 1, 2, 3, 5, 6, 7, 8] [4, 5, 6, 7, 8, 9, 10, 11] [(25, 11, 2, 27), (58, 6, 1, 59), (0, 0, 6, 6), (0, 7, 3, 3)] hst28 ?_ ?_ ?_))
    · exact fun ix _ _ _ _ _ _ hs hb hx h => match ix, h with
      | 5, h => by dsimp only at h ⊢; rw [← hs 91 rfl, ← hb 91 rfl, ← hx 7 rfl]; exact h
      | 6, h => by dsimp only at h ⊢; rw [← hs 85 rfl, ← hb 91 rfl]; exact h
      | 8, h => by dsimp only at h ⊢; rw [← hs 93 rfl, ← hb 91 rfl]; exact h
      | 10, h => by dsimp only at h ⊢; rw [← hx 8 rfl]; exact h
      | 11, h => by dsimp only at h ⊢; rw [← hs 25 rfl, ← hb 91 rfl]; exact h
      | 0, _ | 1, _ | 2, _ | 3, _ | 4, _ | 7, _ | 9, _ | _ + 12, _ => trivial
    · refine ⟨?_, ?_, ?_, ?_, ?_, ?_, ?_, ?_, trivial⟩
      · exact xs4 rfl id fun cx => run_loadB (n := 6) rfl (by kernel_rfl) (by kernel_rfl) (cx.ou 22) (cx.bi 6 rfl) (nle rfl) rfl
      · refine sv_any rfl rfl fun ρ β W X cx => ?_
        refine DoesU.call (run_callF (args := #[.iface tt (tv), .slice NA ns.length nc, vi fresh, vi tb, .agg #[vi xid, vi 0, vi (-1), vi 0, .bool false, .slice RA rs.length rc]]) rfl cx.sees rfl (by kernel_rfl) (map5 (cx.an 0) (cx.an 1) (cx.an 2) (cx.an 3) (cx.an 4))) ?_
        refine (hinsert_any _ _ pv _ _ ns fresh tb xid 0 (-1) 0 false _ _ rs _ (hS.ext cx.upd.to_ext) (hA.ext cx.upd.to_ext) (by first | (simp; done) | omega) (hR.ext cx.upd.to_ext) (by first | omega | (simp; done)) (hN.ext cx.upd.to_ext)).mono ?_
        rintro e W1 ⟨A4, c4, rfl, ho_, hx⟩
        refine ⟨_, rfl, post_call [eO 99 3 (.slice A4 ((insA pv fresh tb ns (tbytesF xid 0 (-1) 0 false rs)).2.1.length) c4) ((insA pv fresh tb ns (tbytesF xid 0 (-1) 0 false rs)).2.1.length) ((insA pv fresh tb ns (tbytesF xid 0 (-1) 0 false rs)).2.1.flatMap cellsE)] rfl rfl hx (one_new (eO_new ho_)) (List.pairwise_singleton _ _) (fun σ β' X' hs hb hv hN => ?_)⟩
        have hv1 := (hv 91 rfl).1; have hv2 := (hv 91 rfl).2
        exact ⟨hv1.trans (by rw [hv2]; rfl), (by rw [hv2]; exact (List.cons.inj hN).1)⟩
      · exact sv rfl rfl rfl rfl rfl _ (fun _ _ _ h => h) (fun β β' h => by rw [h 91 (by decide)]) fun ρ β W X cx => run_move' rfl (dTn (cx.an 5)).1
      · exact xs4 rfl id fun cx => run_extract' rfl (dTn (cx.an 6)) rfl
      · exact sv rfl rfl rfl rfl rfl _ (fun _ _ _ h => h) (fun β β' h => by rw [h 91 (by decide)]) fun ρ β W X cx => run_extract' rfl (dTn (cx.an 6)) rfl
      · exact xs4 rfl id fun cx => run_extract' rfl (dTn (cx.an 6)) rfl
      · refine sv_any rfl rfl fun ρ β W X cx => ?_
        exact dv_store (n := 2) rfl (cx.ou 24) (cx.an 7) (by kernel_rfl) (by kernel_rfl) (by kernel_rfl) cx (cx.init 4 _ rfl) rfl (nle rfl) (by kernel_rfl) rfl rfl rfl (fun σ β' X' hs hb hx => hx)
      · exact sv rfl rfl rfl rfl rfl _ (fun _ _ _ h => h) (fun β β' h => by rw [h 91 (by decide)]) fun ρ β W X cx => run_assign' rfl (dTn (cx.an 8))
    intro σ β X W29 hD hst29 fr hfr
    obtain ⟨A91_29, hu_A91_29⟩ : ∃ z, sA (tg (β 91) 1) = z := ⟨_, rfl⟩
    obtain ⟨c91_29, hu_c91_29⟩ : ∃ z, sC (tg (β 91) 1) = z := ⟨_, rfl⟩
    simp only [exq 7 ((dTn (hD 5 lq)).2), exq 8 ((dTn (hD 10 lq))), hu_A91_29, hu_c91_29] at hst29
    simp only [ed 91 ((dTn (hD 5 lq)).1), ed 85 ((dTn (hD 6 lq))), ed 93 ((dTn (hD 8 lq))), ed 25 ((dTn (hD 11 lq))), hu_A91_29, hu_c91_29] at hfr
    clear hD hu_A91_29 hu_c91_29; subst hfr; clear σ β X
    obtain ⟨RI, hN_RI⟩ : ∃ z, (insA pv fresh tb ns (tbytesF xid 0 (-1) 0 false rs)) = z := ⟨_, rfl⟩
    rw [hN_RI] at hst29 ⊢
    have hN_r' : insA pv fresh tb ns (newB xid false rs) = RI := hN_RI
    have hRl : RI.2.1.length ≤ 3 := by rw [← hN_RI]; exact insA_len _ _ _ _ _
    refine then_normal (wp_seq (wp_region_P [0, 1] [.k 95 (vi (RI.2.2)), .k 96 (.bool (RI.2.2 != 0))] [(95, 0, 2, 97)] hst29 fun W30 hst30 => ?_))
    refine then_normal ?_
    rcases Bool.eq_false_or_eq_true (RI.2.2 != 0) with hs31 | hs31
    · skip
      have hs31p : RI.2.2 ≠ 0 := by simpa using hs31
      refine wp_cond_true (show Act.eval _ _ = .bool true from (congrArg Value.bool hs31)) (wp_seq (wp_region_Y [0, 0, 1, 5, 13, 31] [[], [], [1]] [[], [], [8]] [[], [], [1]] [.k 97 (.agg #[vi 0, vi 0]), .k 98 (vi (RI.2.2)), .n, .k 17 (.bool false), .k 18 (.slice none 0 0), .k 19 (vi (RI.2.2))] (fun ix σ β X => match ix with | 0 => True | 1 => True | 2 => X 8 = eB B16_1 24 #[vi 0, vi 0] | _ => True) [0, 2, 3, 4, 5, 6, 7, 8] [2] [(17, 3, 3, 20), (77, 0, 2, 79)] hst30 ?_ ?_ ?_))
      · exact fun ix _ _ _ _ _ _ hs hb hx h => match ix, h with
        | 2, h => by dsimp only at h ⊢; rw [← hx 8 rfl]; exact h
        | 0, _ | 1, _ | _ + 3, _ => trivial
      · refine ⟨?_, trivial⟩
        · refine sv_any rfl rfl fun ρ β W X cx => ?_
          exact dv_store (n := 2) rfl (cx.ou 16) (cx.an 0) (by kernel_rfl) (by kernel_rfl) (by kernel_rfl) cx (cx.init 1 _ rfl) rfl (nle rfl) (by kernel_rfl) rfl rfl rfl (fun σ β' X' hs hb hx => hx)
      intro σ β X W32 hD hst32 fr hfr
      simp only [exq 8 ((dTn (hD 2 lq)))] at hst32
      clear hD; subst hfr; clear σ β X
      refine then_normal (wp_ret (then_ret ?_))
      have hr33 : W32.cell? ⟨B16_1, 0, none⟩ = some (vi 0) := (hst32.blk 7 rfl).cell 0
      have hr34 : W32.cell? ⟨B16_1, 1, none⟩ = some (vi 0) := (hst32.blk 7 rfl).cell 1
      refine bodyPost_ret (v := .tuple #[.agg #[vi 0, vi 0], .bool false, .slice none 0 0, vi (RI.2.2)]) (by simp [results, Tryd.results13, go_sem, hr33, hr34]) rfl ?_
      exact UpdPost.nil (by rw [updA, if_neg (by rw [hs4]; decide), hN_s', updBad, if_neg (by rw [hs8]; decide), updR, hN_s', ← hq, if_neg (by omega), hN_r', if_pos (by omega)]) hst32.ext
    have hs31p : RI.2.2 = 0 := by simpa using hs31
    refine wp_cond_false (show Act.eval _ _ = .bool false from (congrArg Value.bool hs31)) (wp_skip (then_normal (wp_seq (wp_region_Y [0, 0, 1, 5, 15, 31] [[], [7], [], [3], [], [8]] [[], [], [], [8], [], [9]] [[], [], [], [3], [], [8]] [.k 99 (vi xid), .c 100 (.agg #[vi (RI.1.1), vi (RI.1.2)]), .k 101 (.pointer (some ⟨B20_2, 1, none⟩)), .n, .k 102 (.pointer (some ⟨B20_2, 2, none⟩)), .n] (fun ix σ β X => match ix with | 0 => True | 1 => True | 2 => True | 3 => X 8 = eB B20_2 41 #[vi (od.1), vi xid, vi (od.2.2.1), vi (od.2.2.2.1), .bool (od.2.2.2.2.1), .slice A30_2 (od.2.2.2.2.2.length) c30_2] | 4 => True | 5 => X 9 = eB B20_2 41 #[vi (od.1), vi xid, vi (RI.1.1), vi (RI.1.2), .bool (od.2.2.2.2.1), .slice A30_2 (od.2.2.2.2.2.length) c30_2] | _ => True) [0, 1, 2, 4, 5, 6, 7, 9] [1, 3, 5] [(99, 0, 5, 103)] hst30 ?_ ?_ ?_))))
    · exact fun ix _ _ _ _ _ _ hs hb hx h => match ix, h with
      | 3, h => by dsimp only at h ⊢; rw [← hx 8 rfl]; exact h
      | 5, h => by dsimp only at h ⊢; rw [← hx 9 rfl]; exact h
      | 0, _ | 1, _ | 2, _ | 4, _ | _ + 6, _ => trivial
    · refine ⟨?_, ?_, ?_, trivial⟩
      · exact xs4 rfl id fun cx => run_loadB (n := 2) rfl (by kernel_rfl) (by kernel_rfl) (cx.ou 24) (cx.bi 7 rfl) (nle rfl) rfl
      · refine sv_any rfl rfl fun ρ β W X cx => ?_
        exact dv_store (n := 1) rfl (cx.an 2) (cx.an 0) (by kernel_rfl) (by kernel_rfl) (by kernel_rfl) cx (cx.init 3 _ rfl) rfl (nle rfl) (by kernel_rfl) rfl rfl rfl (fun σ β' X' hs hb hx => hx)
      · refine sv_any rfl rfl fun ρ β W X cx => ?_
        exact dv_store (n := 2) rfl (cx.an 4) (cx.an 1) (by kernel_rfl) (by kernel_rfl) (by kernel_rfl) cx (dTn (cx.an 3)) rfl (nle rfl) (by kernel_rfl) rfl rfl rfl (fun σ β' X' hs hb hx => hx)
    intro σ β X W35 hD hst35 fr hfr
    simp only [exq 9 ((dTn (hD 5 lq)))] at hst35
    clear hD; subst hfr; clear σ β X
    refine then_normal (wp_seq (wp_region_Y [0, 0, 0, 0, 8, 0, 32, 0, 128, 504, 1016, 2044, 4093, 8191, 16383, 32767] [[6], [], [], [], [0], [], [0], [7], [2], [], [], [8, 5], [1]] [[], [], [], [], [], [], [], [], [], [], [8], [9], [10]] [[], [], [], [], [], [], [], [], [], [], [], [5], [1]] [.c 103 (.agg #[vi (RI.1.1), vi (RI.1.2)]), .c 104 (.bool false), .k 105 (.slice A91_29 (RI.2.1.length) c91_29), .k 106 (vp B12_1), .c 107 (vi n), .k 108 (.pointer (some ⟨B12_1, 1, none⟩)), .c 109 (vi j), .c 110 (.agg #[vi (od.1), vi xid, vi (RI.1.1), vi (RI.1.2), .bool (od.2.2.2.2.1), .slice A30_2 (od.2.2.2.2.2.length) c30_2]), .c 111 (.string (tbytesF od.1 xid RI.1.1 RI.1.2 od.2.2.2.2.1 od.2.2.2.2.2)), .k 112 (.agg #[vi n, vi j, .string (tbytesF od.1 xid RI.1.1 RI.1.2 od.2.2.2.2.1 od.2.2.2.2.2)]), .a 113, .a 114, .n, .k 17 (.bool false), .a 18, .k 19 (vi 0)] (fun ix σ β X => match ix with | 0 => True | 1 => True | 2 => True | 3 => True | 4 => True | 5 => True | 6 => True | 7 => True | 8 => True | 9 => True | 10 => σ 113 = .slice ((some ⟨(pb' (β 113)), 0, none⟩)) 1 1 ∧ X 8 = eO 99 3 (.slice ((some ⟨(pb' (β 113)), 0, none⟩)) 1 1) 1 (cellsE (n, j, tbytesF od.1 xid RI.1.1 RI.1.2 od.2.2.2.2.1 od.2.2.2.2.2)) | 11 => σ 114 = .slice (sA (β 114)) (RI.2.1.length + 1) (sC (β 114)) ∧ X 9 = eO 99 3 (.slice (sA (β 114)) (RI.2.1.length + 1) (sC (β 114))) (RI.2.1.length + 1) ((RI.2.1 ++ [(n, j, tbytesF od.1 xid RI.1.1 RI.1.2 od.2.2.2.2.1 od.2.2.2.2.2)]).flatMap cellsE) | 12 => X 10 = eB B16_1 24 #[vi (RI.1.1), vi (RI.1.2)] | 13 => True | 14 => σ 18 = .slice (sA (β 114)) (RI.2.1.length + 1) (sC (β 114)) | _ => True) [0, 2, 3, 4, 6, 7, 8, 9, 10] [0, 1, 4, 6, 7, 8, 10, 11, 12, 14] [(17, 13, 3, 20), (83, 0, 12, 95)] hst35 ?_ ?_ ?_))
    · exact fun ix _ _ _ _ _ _ hs hb hx h => match ix, h with
      | 10, h => by dsimp only at h ⊢; rw [← hs 113 rfl, ← hb 113 rfl, ← hx 8 rfl]; exact h
      | 11, h => by dsimp only at h ⊢; rw [← hs 114 rfl, ← hb 114 rfl, ← hx 9 rfl]; exact h
      | 12, h => by dsimp only at h ⊢; rw [← hx 10 rfl]; exact h
      | 14, h => by dsimp only at h ⊢; rw [← hs 18 rfl, ← hb 114 rfl]; exact h
      | 0, _ | 1, _ | 2, _ | 3, _ | 4, _ | 5, _ | 6, _ | 7, _ | 8, _ | 9, _ | 13, _ | _ + 15, _ => trivial
    · refine ⟨?_, ?_, ?_, ?_, ?_, ?_, ?_, ?_, ?_, ?_, trivial⟩
      · exact xs4 rfl id fun cx => run_loadB (n := 2) rfl (by kernel_rfl) (by kernel_rfl) (cx.ou 24) (cx.bi 6 rfl) (nle rfl) rfl
      · exact xs4 rfl id fun cx => run_move' rfl (Eq.trans (cx.ou 7) (congrArg Value.bool hs22))
      · exact xs4 rfl id fun cx => run_load1 rfl (by kernel_rfl) (cx.an 3) ((cx.bi 0 rfl).cell 0)
      · exact xs4 rfl id fun cx => run_load1 rfl (by kernel_rfl) (cx.an 5) ((cx.bi 0 rfl).cell 1)
      · exact xs4 rfl id fun cx => run_loadB (n := 6) rfl (by kernel_rfl) (by kernel_rfl) (cx.ou 20) (cx.bi 7 rfl) (nle rfl) rfl
      · exact xsc rfl id rfl rfl fun cx => ⟨_, tbytes_any od.1 xid RI.1.1 RI.1.2 od.2.2.2.2.1 _ _ od.2.2.2.2.2 _ (At.of_ownN (cx.ri 2 rfl)) (by first | omega | decide | (simp; done) | (simp; omega)) (hN.ext cx.upd.to_ext), (map1 (cx.an 7))⟩
      · refine sv_any rfl rfl fun ρ β W X cx => ?_
        have fF112 : ρ (.tmp 112) = .agg #[vi n, vi j, .string (tbytesF od.1 xid RI.1.1 RI.1.2 od.2.2.2.2.1 od.2.2.2.2.2)] := (cx.an 9)
        exact dv_litN (e := 99) (sz := 3) (xs := [vi n, vi j, .string (tbytesF od.1 xid RI.1.1 RI.1.2 od.2.2.2.2.1 od.2.2.2.2.2)]) rfl (by simp [go_sem, fF112]) rfl (by decide) rfl rfl (fun σ β' X' hs hb hv hx => ⟨hv, hx⟩)
      · refine sv_any rfl rfl fun ρ β W X cx => ?_
        obtain ⟨i0, hi0, hz0, hz1, hz2⟩ := info_parts Tryd.infoEdit
        refine dv_appendN (n := RI.2.1.length) (m := 1) (nm := RI.2.1.length + 1) (sz := 3) (xs := RI.2.1.flatMap cellsE) (news := cellsE (n, j, tbytesF od.1 xid RI.1.1 RI.1.2 od.2.2.2.2.1 od.2.2.2.2.2)) (xs' := (RI.2.1 ++ [(n, j, tbytesF od.1 xid RI.1.1 RI.1.2 od.2.2.2.2.1 od.2.2.2.2.2)]).flatMap cellsE) rfl (ty := 36) rfl (by kernel_rfl) hi0 hz0 hz1 hz2 rfl (by decide) (cx.an 2) cx (cx.init 5 _ rfl) rfl (dTn (cx.an 10)).1 (by rfl) (At.of_ownN (cx.row (dTn (cx.an 10)).2 rfl)) (by simp [cellsE, Value.oneCell']) (by simp only [maxLen]; omega) (by omega) rfl rfl rfl (by omega) (eds_snoc _ _) (fun σ β' X' hs hb hv hx => ?_)
        exact ⟨hv, hx⟩
      · refine sv_any rfl rfl fun ρ β W X cx => ?_
        exact dv_store (n := 2) rfl (cx.ou 16) (cx.an 0) (by kernel_rfl) (by kernel_rfl) (by kernel_rfl) cx (cx.init 1 _ rfl) rfl (nle rfl) (by kernel_rfl) rfl rfl rfl (fun σ β' X' hs hb hx => hx)
      · exact sv rfl rfl rfl rfl rfl _ (fun _ _ _ h => h) (fun β β' h => by rw [h 114 (by decide)]) fun ρ β W X cx => run_assign' rfl (dTn (cx.an 11)).1
    intro σ β X W36 hD hst36 fr hfr
    obtain ⟨B113_36, hu_B113_36⟩ : ∃ z, pb' (β 113) = z := ⟨_, rfl⟩
    obtain ⟨A114_36, hu_A114_36⟩ : ∃ z, sA (β 114) = z := ⟨_, rfl⟩
    obtain ⟨c114_36, hu_c114_36⟩ : ∃ z, sC (β 114) = z := ⟨_, rfl⟩
    simp only [exq 8 ((dTn (hD 10 lq)).2), exq 9 ((dTn (hD 11 lq)).2), exq 10 ((dTn (hD 12 lq))), hu_B113_36, hu_A114_36, hu_c114_36] at hst36
    simp only [ed 113 ((dTn (hD 10 lq)).1), ed 114 ((dTn (hD 11 lq)).1), ed 18 ((dTn (hD 14 lq))), hu_B113_36, hu_A114_36, hu_c114_36] at hfr
    clear hD hu_B113_36 hu_A114_36 hu_c114_36; subst hfr; clear σ β X
    refine then_normal (wp_ret ?_)
    have hr37 : W36.cell? ⟨B16_1, 0, none⟩ = some (vi (RI.1.1)) := (hst36.blk 8 rfl).cell 0
    have hr38 : W36.cell? ⟨B16_1, 1, none⟩ = some (vi (RI.1.2)) := (hst36.blk 8 rfl).cell 1
    refine bodyPost_ret (v := .tuple #[.agg #[vi (RI.1.1), vi (RI.1.2)], .bool false, .slice A114_36 (RI.2.1.length + 1) c114_36, vi 0]) (by simp [results, Tryd.results13, go_sem, hr37, hr38]) rfl ?_
    exact UpdPost.of (l := RI.2.1 ++ [(n, j, oldB od xid RI.1.1 RI.1.2)]) (by rw [updA, if_neg (by rw [hs4]; decide), hN_s', updBad, if_neg (by rw [hs8]; decide), updR, hN_s', ← hq, if_neg (by omega), hN_r', if_neg (by omega), hN_od]) (by rw [List.length_append]; rfl) rfl (hst36.own' 7 rfl) hst36.ext
  refine wp_cond_true (show Act.eval _ _ = .bool true from (congrArg Value.bool (by rw [hs4]; rfl))) (wp_seq (wp_region_Y [0, 1, 3, 7, 15] [[], [1]] [[], [4]] [[], [1]] [.k 35 (.agg #[vi 0, vi 0]), .n, .k 17 (.bool false), .k 18 (.slice none 0 0), .k 19 (vi 21)] (fun ix σ β X => match ix with | 0 => True | 1 => X 4 = eB B16_1 24 #[vi 0, vi 0] | _ => True) [0, 2, 3, 4] [1] [(17, 2, 3, 20), (15, 0, 1, 16)] hst3 ?_ ?_ ?_))
  · exact fun ix _ _ _ _ _ _ hs hb hx h => match ix, h with
    | 1, h => by dsimp only at h ⊢; rw [← hx 4 rfl]; exact h
    | 0, _ | _ + 2, _ => trivial
  · refine ⟨?_, trivial⟩
    · refine sv_any rfl rfl fun ρ β W X cx => ?_
      exact dv_store (n := 2) rfl (cx.ou 16) (cx.an 0) (by kernel_rfl) (by kernel_rfl) (by kernel_rfl) cx (cx.init 1 _ rfl) rfl (nle rfl) (by kernel_rfl) rfl rfl rfl (fun σ β' X' hs hb hx => hx)
  intro σ β X W39 hD hst39 fr hfr
  simp only [exq 4 ((dTn (hD 1 lq)))] at hst39
  clear hD; subst hfr; clear σ β X
  refine then_normal (wp_ret (then_ret ?_))
  have hr40 : W39.cell? ⟨B16_1, 0, none⟩ = some (vi 0) := (hst39.blk 3 rfl).cell 0
  have hr41 : W39.cell? ⟨B16_1, 1, none⟩ = some (vi 0) := (hst39.blk 3 rfl).cell 1
  refine bodyPost_ret (v := .tuple #[.agg #[vi 0, vi 0], .bool false, .slice none 0 0, vi 21]) (by simp [results, Tryd.results13, go_sem, hr40, hr41]) rfl ?_
  exact UpdPost.nil (by rw [updA, if_pos (by rw [hs4]; rfl)]) hst39.ext
end
end Go.Proofs.YtjnplglnnamfdaaDoor
namespace Go.Proofs.YtjnplglnnamfdaaDoor
section
open Go.RowKit
set_option linter.unusedVariables false
set_option linter.unusedSimpArgs false
theorem sizeT_rep (m : Nat) : sizeT (List.replicate m ByteArray.empty) = 2 * m := by
  induction m with
  | zero => rfl
  | succ m ih =>
    rw [List.replicate_succ]
    have e : sizeT (ByteArray.empty :: List.replicate m ByteArray.empty) = 2 + 0 + sizeT (List.replicate m ByteArray.empty) := by simp [sizeT]
    rw [e, ih]; omega
theorem sizeT_with (ss : List ByteArray) (K : Nat) (s : ByteArray) : sizeT (withL ss K s) ≤ sizeT (plainL ss) + 2 * (K + 1) + s.size := by
  rw [withL]
  have hl : K < (padTo (plainL ss) (K + 1)).length := by rw [padTo, List.length_append, List.length_replicate]; omega
  have h1 := sizeT_set (padTo (plainL ss) (K + 1)) K s hl
  have h2 : sizeT (padTo (plainL ss) (K + 1)) = sizeT (plainL ss) + 2 * (K + 1 - (plainL ss).length) := by rw [padTo, sizeT_append, sizeT_rep]
  omega
theorem putErr_small {k l j : Int} {ss : List ByteArray} {s : ByteArray} (hr : rightB k l ss = true) (hj : 0 ≤ j ∧ j < 24) (hs : s.size ≤ 400) (hz : sizeT (plainL ss) + 2 * (j.toNat + 1) + s.size ≤ 498) : putErr k l ss j s = 0 := by
  have h1 := sizeT_with ss j.toNat s
  have h2 := sizeT_plain (withL ss j.toNat s)
  rw [putErr, hr, if_neg (by decide), if_neg (by omega), if_neg ?_]
  rw [sizeL]
  omega
theorem putS2_size (n : Int) : (putS n 2).size = 2 := putS_size n 2 (by omega)
theorem put_fresh {H : List PgI} {lsn f tb : Int} {v : VerD} (hH : okH H) (hl : 0 ≤ lsn ∧ lsn ≤ 2147483647) (hf : 0 ≤ f ∧ f < H.length) (hv : okD v) (htb : 0 ≤ tb ∧ tb < 65536) :
    ∃ H', doL lsn H [(f, -1, ((⟨#[1]⟩ : ByteArray), none)), (f, 0, (putS tb 2, none)), (f, 1, (txD v, some v))] = some H' ∧ okH H' ∧ H'.length = H.length ∧ hdF (pvL H' f) = true ∧ ofF (pvL H' f) = tb ∧ atF (pvL H' f) 1 = some v ∧
      (∀ m, m ≠ f → pvL H' m = pvL H m) ∧ ∀ k, k ≠ 1 → atF (pvL H' f) k = none := by
  have hr1 := right_kind hl
  have hs2 := putS2_size tb
  have hsv : (txD v).size ≤ 309 := (show Desc (txD v) (some v) from ⟨hv, rfl⟩).le
  have hd1 : Desc (putS tb 2) none := by show (putS tb 2).size < 8; omega
  have hp1 : okP (1, lsn, []) := ⟨hr1, fun i hi => by cases hi⟩
  have hz0 : sizeT (plainL (fstI [])) = 0 := rfl
  have he1 : putErr 1 lsn (fstI []) 0 (putS tb 2) = 0 := putErr_small hr1 (by omega) (by omega) (by rw [hz0, hs2]; decide)
  have hp2 : okP (1, lsn, putI [] 0 (putS tb 2, none)) := hp1.put (j := 0) (i := (putS tb 2, none)) hl hd1 he1
  have hz2 : sizeT (plainL (fstI (putI [] 0 (putS tb 2, none)))) ≤ 4 := by
    have h1 := sizeT_plain (fstI (putI [] 0 (putS tb 2, none)))
    have h2 : sizeT (fstI (putI [] 0 (putS tb 2, none))) ≤ sizeT (withL (fstI []) 0 (putS tb 2)) := by rw [putI_fst]; exact sizeT_plain _
    have h3 := sizeT_with (fstI []) 0 (putS tb 2)
    omega
  have he2 : putErr 1 lsn (fstI (putI [] 0 (putS tb 2, none))) 1 (txD v) = 0 := putErr_small hp2.1 (by omega) (by omega) (by show sizeT (plainL (fstI (putI [] 0 (putS tb 2, none)))) + 2 * (1 + 1) + (txD v).size ≤ 498; omega)
  have hp3 : okP (1, lsn, putI (putI [] 0 (putS tb 2, none)) 1 (txD v, some v)) := hp2.put (j := 1) (i := (txD v, some v)) hl ⟨hv, rfl⟩ he2
  have hc1 : clean ([] : List Itm) := fun x hx => by cases hx
  have hci : (putS tb 2, (none : Option VerD)).1.size = 0 → (putS tb 2, (none : Option VerD)) = it0 := fun h => by rw [hs2] at h; cases h
  have hg1 := fun j => putI_get (K := 0) (i := (putS tb 2, (none : Option VerD))) hc1 hci j
  have hg2 := fun j => putI_get (K := 1) (i := (txD v, some v)) hp2.clean (Desc.clean (x := (txD v, some v)) ⟨hv, rfl⟩) j
  have h00 : (putI (putI [] 0 (putS tb 2, none)) 1 (txD v, some v)).getD 0 it0 = (putS tb 2, none) := by rw [hg2, if_neg (by decide), hg1, if_pos rfl]
  have hl1 : (H.set f.toNat (1, lsn, [])).length = H.length := List.length_set ..
  have hl2 : ((H.set f.toNat (1, lsn, [])).set f.toNat (1, lsn, putI [] 0 (putS tb 2, none))).length = H.length := by rw [List.length_set, hl1]
  have s1 : doL lsn H [(f, -1, ((⟨#[1]⟩ : ByteArray), none))] = some (H.set f.toNat (1, lsn, [])) := doL_one (e := (f, -1, ((⟨#[1]⟩ : ByteArray), none))) hf (by rw [do1, if_pos rfl, if_pos rfl])
  have s2 : doL lsn (H.set f.toNat (1, lsn, [])) [(f, 0, (putS tb 2, none))] = some ((H.set f.toNat (1, lsn, [])).set f.toNat (1, lsn, putI [] 0 (putS tb 2, none))) :=
    doL_one (e := (f, 0, (putS tb 2, none))) (by rw [hl1]; exact hf) (by rw [getD_set' hf, do1, if_neg (show ¬ (0 : Int) = -1 by decide), if_pos he1]; rfl)
  have s3 : doL lsn ((H.set f.toNat (1, lsn, [])).set f.toNat (1, lsn, putI [] 0 (putS tb 2, none))) [(f, 1, (txD v, some v))] = some (((H.set f.toNat (1, lsn, [])).set f.toNat (1, lsn, putI [] 0 (putS tb 2, none))).set f.toNat (1, lsn, putI (putI [] 0 (putS tb 2, none)) 1 (txD v, some v))) :=
    doL_one (e := (f, 1, (txD v, some v))) (by rw [hl2]; exact hf) (by rw [getD_set' (by rw [hl1]; exact hf), do1, if_neg (show ¬ (1 : Int) = -1 by decide), if_pos he2]; rfl)
  have hpv := pvL_at (H := (H.set f.toNat (1, lsn, [])).set f.toNat (1, lsn, putI [] 0 (putS tb 2, none))) (n := f) (p := (1, lsn, putI (putI [] 0 (putS tb 2, none)) 1 (txD v, some v))) (by rw [hl2]; exact hf)
  obtain ⟨H', hH'⟩ : ∃ z, ((H.set f.toNat (1, lsn, [])).set f.toNat (1, lsn, putI [] 0 (putS tb 2, none))).set f.toNat (1, lsn, putI (putI [] 0 (putS tb 2, none)) 1 (txD v, some v)) = z := ⟨_, rfl⟩
  rw [hH'] at hpv s3
  have hh : hdF (pvL H' f) = true := by rw [hpv, hdF_eq]; dsimp only; rw [h00]; dsimp only; rw [hs2]; rfl
  refine ⟨H', ?_, ?_, ?_, hh, ?_, ?_, fun m hm => ?_, fun k hk => ?_⟩
  · have := doL_app (fs := [(f, 0, (putS tb 2, none)), (f, 1, (txD v, some v))]) s1
    rw [show ([(f, -1, ((⟨#[1]⟩ : ByteArray), none)), (f, 0, (putS tb 2, none)), (f, 1, (txD v, some v))] : List EdI) = [(f, -1, ((⟨#[1]⟩ : ByteArray), none))] ++ [(f, 0, (putS tb 2, none)), (f, 1, (txD v, some v))] from rfl, this]
    have h2 := doL_app (fs := [(f, 1, (txD v, some v))]) s2
    rw [show ([(f, 0, (putS tb 2, none)), (f, 1, (txD v, some v))] : List EdI) = [(f, 0, (putS tb 2, none))] ++ [(f, 1, (txD v, some v))] from rfl, h2, s3]
  · rw [← hH']; exact ((hH.set hp1).set hp2).set hp3
  · rw [← hH', List.length_set, hl2]
  · rw [ofF_eq, if_pos hh, hpv]
    dsimp only
    rw [h00]
    dsimp only
    rw [numS_at (a := []) (b := bl (putS tb 2)) (c := []) (p := 0) (k := 2) (by simp) rfl (putS_bl _ 2 (by omega))]
    exact putS_num2 tb htb.1 htb.2
  · rw [atF_eq, if_pos ⟨hh, by decide⟩, hpv]
    dsimp only
    rw [show (1 : Int).toNat = 1 from rfl, hg2, if_pos rfl]
  · rw [← hH', pvL_ne hf.1 hm, pvL_ne hf.1 hm, pvL_ne hf.1 hm]
  · rw [atF_eq, hpv]
    dsimp only
    split
    · rename_i h1
      rw [hg2, if_neg (by omega), hg1]
      split
      · rfl
      · rfl
    · rfl
/-- an edit's cells -/
def edD (e : EdI) : EdD := (e.1, e.2.1, e.2.2.1)
theorem edD_cells (es : List EdI) : (es.map edD).flatMap cellsE = es.flatMap cellsI := by rw [List.flatMap_map]; rfl
theorem okD_new {xid : Int} (hot : Bool) {rs : List Val} (hx : 3 ≤ xid ∧ xid < 128) (h1 : rrightF rs = true) (h2 : NsOk rs) (h3 : plainR rs = rs) : okD (xid, 0, -1, 0, hot, rs) := by
  refine ⟨?_, h2, h3⟩
  show trightF xid 0 (-1) 0 rs = true
  have e : trightF xid 0 (-1) 0 rs = ((xid == 2 || onF xid) && true && true && rrightF rs) := rfl
  have e2 : onF xid = true := by rw [onF, decide_eq_true hx.1, decide_eq_true hx.2]; rfl
  rw [e, h1, e2, Bool.or_true]
  rfl
theorem okD_old {v : VerD} {xid a b : Int} (h : okD v) (hx : 3 ≤ xid ∧ xid < 128) (hab : (a = -1 ∧ b = 0) ∨ (0 ≤ a ∧ a < 400 ∧ 0 ≤ b ∧ b < 24)) : okD (v.1, xid, a, b, v.2.2.2.2.1, v.2.2.2.2.2) := by
  obtain ⟨h1, h2, h3⟩ := h
  refine ⟨?_, h2, h3⟩
  show trightF v.1 xid a b v.2.2.2.2.2 = true
  simp only [trightF, onZ, onF, tnextF, Bool.and_eq_true, Bool.or_eq_true, beq_iff_eq, decide_eq_true_eq] at h1 ⊢
  refine ⟨⟨⟨h1.1.1.1, .inr hx⟩, ?_⟩, h1.2⟩
  omega
theorem newB_tx (xid : Int) (hot : Bool) (rs : List Val) : newB xid hot rs = txD (xid, 0, -1, 0, hot, rs) := rfl
theorem ne_emp {v : VerD} (h : okD v) : ((txD v).toList == (⟨#[]⟩ : ByteArray).toList) = false := by
  have h1 := txD_size h
  rw [beq_eq_false_iff_ne]
  intro h2
  have h3 := ba_inj_z h2
  rw [h3] at h1
  have h4 : (⟨#[]⟩ : ByteArray).size = 0 := rfl
  omega
theorem insP_some {pv : Int → PV} {tb : Int} {s : ByteArray} : ∀ {ns : List Int} {q : Int × Int}, insP pv tb s ns = some q → hdF (pv q.1) = true ∧ ofF (pv q.1) = tb ∧ 0 < roomI (pv q.1) s ∧ q.2 = roomI (pv q.1) s ∧ q.1 ∈ ns
  | [], q, h => by cases h
  | n :: l, q, h => by
    rw [insP] at h
    split at h
    · rename_i h1
      simp only [Bool.and_eq_true, beq_iff_eq, decide_eq_true_eq] at h1
      obtain rfl := Option.some.inj h
      exact ⟨h1.1.1, h1.1.2, h1.2, rfl, by simp⟩
    · obtain ⟨h1, h2, h3, h4, h5⟩ := insP_some h
      exact ⟨h1, h2, h3, h4, by simp [h5]⟩
theorem insBad_no {v : VerD} {fresh tb : Int} (hv : okD v) (htb : 0 ≤ tb ∧ tb < 65536) (hf : fresh < 400) : insBad (txD v) fresh tb = false := by
  rw [insBad, ne_emp hv]
  simp only [Bool.false_or, Bool.or_eq_false_iff, decide_eq_false_iff_not]
  omega
/-- what Insert's edits do -/
theorem ins_law {H : List PgI} {lsn fresh tb : Int} {ns : List Int} {v : VerD} (hH : okH H) (hl : 0 ≤ lsn ∧ lsn ≤ 2147483647) (hv : okD v) (htb : 0 ≤ tb ∧ tb < 65536) (hf : fresh < 400 ∧ fresh < H.length) :
    ((insA (pvL H) fresh tb ns (txD v)).2.2 = 23 ∧ (insA (pvL H) fresh tb ns (txD v)).2.1 = [] ∧ fresh < 0) ∨ ((insA (pvL H) fresh tb ns (txD v)).2.2 = 0 ∧ ∃ es H', es.map edD = (insA (pvL H) fresh tb ns (txD v)).2.1 ∧ (∀ e ∈ es, Desc e.2.2.1 e.2.2.2) ∧ doL lsn H es = some H' ∧ okH H' ∧ H'.length = H.length ∧
      atF (pvL H' (insA (pvL H) fresh tb ns (txD v)).1.1) (insA (pvL H) fresh tb ns (txD v)).1.2 = some v ∧ (0 ≤ (insA (pvL H) fresh tb ns (txD v)).1.1 ∧ (insA (pvL H) fresh tb ns (txD v)).1.1 < H.length) ∧ (1 ≤ (insA (pvL H) fresh tb ns (txD v)).1.2 ∧ (insA (pvL H) fresh tb ns (txD v)).1.2 < 24) ∧
      (∀ m k, m ≠ fresh → m ≠ (insA (pvL H) fresh tb ns (txD v)).1.1 ∨ k ≠ (insA (pvL H) fresh tb ns (txD v)).1.2 → atF (pvL H' m) k = atF (pvL H m) k) ∧ ((insA (pvL H) fresh tb ns (txD v)).1.1 ≠ fresh → atF (pvL H (insA (pvL H) fresh tb ns (txD v)).1.1) (insA (pvL H) fresh tb ns (txD v)).1.2 = none)) := by
  have hR : insA (pvL H) fresh tb ns (txD v) = insR (pvL H) fresh tb ns (txD v) := by rw [insA, if_neg (by rw [insBad_no hv htb hf.1]; decide)]
  cases hq : insP (pvL H) tb (txD v) ns with
  | none =>
    by_cases h0 : fresh < 0
    · have hR2 : insA (pvL H) fresh tb ns (txD v) = ((0, 0), [], 23) := by
        rw [hR, insR, hq]
        show (if fresh < 0 then _ else _) = _
        rw [if_pos h0]
      rw [hR2]
      exact .inl ⟨rfl, rfl, h0⟩
    · have hR2 : insA (pvL H) fresh tb ns (txD v) = ((fresh, 1), bgL fresh tb ++ [(fresh, 1, txD v)], 0) := by
        rw [hR, insR, hq]
        show (if fresh < 0 then _ else _) = _
        rw [if_neg h0]
      rw [hR2]
      obtain ⟨H', g1, g2, g3, g4, g5, g6, g7, g8⟩ := put_fresh (f := fresh) hH hl ⟨by omega, hf.2⟩ hv htb
      refine .inr ⟨rfl, _, H', rfl, fun e he => ?_, g1, g2, g3, g6, ⟨by show 0 ≤ fresh; omega, hf.2⟩, ⟨by show (1 : Int) ≤ 1; decide, by show (1 : Int) < 24; decide⟩, fun m k hm _ => by rw [g7 m hm], fun h => absurd rfl h⟩
      simp only [List.mem_cons, List.not_mem_nil, or_false] at he
      rcases he with rfl | rfl | rfl
      · show (1 : Nat) < 8; decide
      · show (putS tb 2).size < 8; rw [putS2_size]; decide
      · exact ⟨hv, rfl⟩
  | some q =>
    have hR2 : insA (pvL H) fresh tb ns (txD v) = (q, [(q.1, q.2, txD v)], 0) := by rw [hR, insR, hq]
    rw [hR2]
    obtain ⟨h1, h2, h3, h4, h5⟩ := insP_some hq
    obtain ⟨H', g1, g2, g3, g4, g5, g6, g7⟩ := put_new (lsn := lsn) hH hl hv h3 h1
    obtain ⟨r1, r2, r3, r4⟩ := roomI_pos h3
    have hn := pvL_ok r1
    obtain ⟨q1, q2⟩ := q
    dsimp only at h1 h2 h3 h4 h5 g1 g2 g3 g4 g5 g6 g7 r1 r2 r3 r4 hn ⊢
    subst h4
    refine .inr ⟨rfl, [(q1, roomI (pvL H q1) (txD v), (txD v, some v))], H', rfl, fun e he => ?_, g1, g2, g3, g5, hn, ⟨by omega, r3⟩, fun m k _ hmk => g7 m k hmk, fun _ => g6⟩
    rw [List.mem_singleton] at he
    subst he
    exact ⟨hv, rfl⟩
theorem at_in {H : List PgI} {n j : Int} {v : VerD} (h : atF (pvL H n) j = some v) : (0 ≤ n ∧ n < H.length) ∧ hdF (pvL H n) = true ∧ 1 ≤ j := by
  rw [atF_eq] at h
  split at h
  · rename_i h1
    have h2 := h1.1
    rw [hdF_eq, Bool.and_eq_true] at h2
    exact ⟨pvL_ok h2.1, h1.1, h1.2⟩
  · cases h
theorem at_ok {H : List PgI} (hH : okH H) {n j : Int} {v : VerD} (h : atF (pvL H n) j = some v) : okD v := by
  have h1 := at_in h
  have hd : Desc ((pvL H n).its.getD j.toNat it0).1 ((pvL H n).its.getD j.toNat it0).2 := by
    rw [pvL_in h1.1]
    rcases getD_mem_or (H.getD n.toNat pgi0).2.2 it0 j.toNat with h2 | h2
    · exact (hH.get (by omega)).2 _ h2
    · dsimp only
      rw [h2]; show (0 : Nat) < 8; decide
  rw [atF_eq, if_pos ⟨h1.2.1, h1.2.2⟩] at h
  rw [h] at hd
  exact hd.1
/-- what Delete's edit does -/
theorem del_law {H : List PgI} {lsn n j xid : Int} {v : VerD} (hH : okH H) (hl : 0 ≤ lsn ∧ lsn ≤ 2147483647) (ha : atF (pvL H n) j = some v) (hx : 3 ≤ xid ∧ xid < 128) :
    (delA (pvL H) n j xid).2 = 0 ∧ ∃ es H', es.map edD = (delA (pvL H) n j xid).1 ∧ (∀ e ∈ es, Desc e.2.2.1 e.2.2.2) ∧ doL lsn H es = some H' ∧ okH H' ∧ H'.length = H.length ∧ atF (pvL H' n) j = some (v.1, xid, -1, 0, v.2.2.2.2.1, v.2.2.2.2.2) ∧ (∀ m k, m ≠ n ∨ k ≠ j → atF (pvL H' m) k = atF (pvL H m) k) ∧ ∀ m, hdF (pvL H' m) = hdF (pvL H m) ∧ ofF (pvL H' m) = ofF (pvL H m) := by
  have hon : onF xid = true := by rw [onF, decide_eq_true hx.1, decide_eq_true hx.2]; rfl
  have hR : delA (pvL H) n j xid = ([(n, j, oldB v xid (-1) 0)], 0) := by rw [delA, ha, if_neg (by simp), if_neg (by rw [hon]; decide)]; rfl
  have hv' := okD_old (xid := xid) (a := -1) (b := 0) (at_ok hH ha) hx (.inl ⟨rfl, rfl⟩)
  obtain ⟨H', g1, g2, g3, g4, g5, g6⟩ := put_old (lsn := lsn) hH hl ha hv' rfl
  rw [hR]
  refine ⟨rfl, [(n, j, (txD (v.1, xid, -1, 0, v.2.2.2.2.1, v.2.2.2.2.2), some (v.1, xid, -1, 0, v.2.2.2.2.1, v.2.2.2.2.2)))], H', rfl, fun e he => ?_, g1, g2, g3, g5, g6, g4⟩
  rw [List.mem_singleton] at he
  subst he
  exact ⟨hv', rfl⟩
/-- the old version is marked behind a new one that lies elsewhere -/
theorem upd_two {H : List PgI} {lsn n j xid q1 q2 : Int} {v v2 : VerD} {es : List EdI} {H1 : List PgI} (hl : 0 ≤ lsn ∧ lsn ≤ 2147483647) (hx : 3 ≤ xid ∧ xid < 128) (ha : atF (pvL H n) j = some v) (hH : okH H) (hlen : H.length ≤ 400)
    (h1 : doL lsn H es = some H1) (hed : ∀ e ∈ es, Desc e.2.2.1 e.2.2.2) (hH1 : okH H1) (hl1 : H1.length = H.length) (hat : atF (pvL H1 q1) q2 = some v2) (hq1 : 0 ≤ q1 ∧ q1 < H.length) (hq2 : 1 ≤ q2 ∧ q2 < 24) (hne : n ≠ q1 ∨ j ≠ q2) (hold : atF (pvL H1 n) j = some v) :
    ∃ H', doL lsn H (es ++ [(n, j, (oldB v xid q1 q2, some (v.1, xid, q1, q2, v.2.2.2.2.1, v.2.2.2.2.2)))]) = some H' ∧ (∀ e ∈ es ++ [((n, j, (oldB v xid q1 q2, some (v.1, xid, q1, q2, v.2.2.2.2.1, v.2.2.2.2.2))) : EdI)], Desc e.2.2.1 e.2.2.2) ∧ okH H' ∧ H'.length = H.length ∧ atF (pvL H' n) j = some (v.1, xid, q1, q2, v.2.2.2.2.1, v.2.2.2.2.2) ∧ atF (pvL H' q1) q2 = some v2 := by
  have hv' := okD_old (xid := xid) (a := q1) (b := q2) (at_ok hH ha) hx (.inr ⟨hq1.1, by omega, by omega, hq2.2⟩)
  obtain ⟨H', g1, g2, g3, g4, g5, g6⟩ := put_old (lsn := lsn) hH1 hl hold hv' rfl
  refine ⟨H', by rw [doL_app h1]; exact g1, fun e he => ?_, g2, by rw [g3, hl1], g5, by rw [g6 q1 q2 (hne.imp (fun h e => h e.symm) (fun h e => h e.symm))]; exact hat⟩
  rcases List.mem_append.1 he with h2 | h2
  · exact hed e h2
  · rw [List.mem_singleton] at h2
    subst h2
    exact ⟨hv', rfl⟩
/-- what Update's edits do, no fresh page -/
theorem upd_law {H : List PgI} {lsn tb n j xid : Int} {ns : List Int} {hot : Bool} {rs : List Val} {v : VerD} (hH : okH H) (hl : 0 ≤ lsn ∧ lsn ≤ 2147483647) (hlen : H.length ≤ 400) (ha : atF (pvL H n) j = some v) (hx : 3 ≤ xid ∧ xid < 128) (htb : 0 ≤ tb ∧ tb < 65536) (h1 : rrightF rs = true) (h2 : NsOk rs) (h3 : plainR rs = rs) :
    (updA (pvL H) (-1) tb ns n j xid hot rs).2.2.2 = 23 ∨ ((updA (pvL H) (-1) tb ns n j xid hot rs).2.2.2 = 0 ∧ ∃ es H', es.map edD = (updA (pvL H) (-1) tb ns n j xid hot rs).2.2.1 ∧ (∀ e ∈ es, Desc e.2.2.1 e.2.2.2) ∧ doL lsn H es = some H' ∧ okH H' ∧ H'.length = H.length ∧
      atF (pvL H' n) j = some (v.1, xid, (updA (pvL H) (-1) tb ns n j xid hot rs).1.1, (updA (pvL H) (-1) tb ns n j xid hot rs).1.2, v.2.2.2.2.1, v.2.2.2.2.2) ∧
      atF (pvL H' (updA (pvL H) (-1) tb ns n j xid hot rs).1.1) (updA (pvL H) (-1) tb ns n j xid hot rs).1.2 = some (xid, 0, -1, 0, (updA (pvL H) (-1) tb ns n j xid hot rs).2.1, rs) ∧
      ((updA (pvL H) (-1) tb ns n j xid hot rs).2.1 = true → (updA (pvL H) (-1) tb ns n j xid hot rs).1.1 = n ∧ hot = true)) := by
  have hon : onF xid = true := by rw [onF, decide_eq_true hx.1, decide_eq_true hx.2]; rfl
  have hvT := okD_new true hx h1 h2 h3
  have hvF := okD_new false hx h1 h2 h3
  have hin := at_in ha
  have hbad : updBad xid (newB xid true rs) (-1) tb = false := by
    rw [updBad, hon, newB_tx, ne_emp hvT]
    simp only [Bool.not_true, Bool.false_or, Bool.or_eq_false_iff, decide_eq_false_iff_not]
    omega
  have hR : updA (pvL H) (-1) tb ns n j xid hot rs = updR (pvL H) (-1) tb ns n j xid hot rs := by rw [updA, ha, if_neg (by simp), if_neg (by rw [hbad]; decide)]
  by_cases hq : 0 < updQ (pvL H) n hot (newB xid true rs)
  · have hh : hot = true := by
      cases hot with
      | true => rfl
      | false => rw [updQ, if_neg (by decide)] at hq; omega
    subst hh
    have hq' : 0 < roomI (pvL H n) (txD (xid, 0, -1, 0, true, rs)) := by rw [updQ, if_pos rfl, newB_tx] at hq; exact hq
    have hR2 : updA (pvL H) (-1) tb ns n j xid true rs = ((n, roomI (pvL H n) (txD (xid, 0, -1, 0, true, rs))), true, [(n, roomI (pvL H n) (txD (xid, 0, -1, 0, true, rs)), txD (xid, 0, -1, 0, true, rs)), (n, j, oldB v xid n (roomI (pvL H n) (txD (xid, 0, -1, 0, true, rs))))], 0) := by
      rw [hR, updR, if_pos hq, ha]; rfl
    rw [hR2]
    obtain ⟨H1, g1, g2, g3, g4, g5, g6, g7⟩ := put_new (lsn := lsn) hH hl hvT hq' hin.2.1
    obtain ⟨r1, r2, r3, r4⟩ := roomI_pos hq'
    have hjq : j ≠ roomI (pvL H n) (txD (xid, 0, -1, 0, true, rs)) := fun e => by rw [e, g6] at ha; cases ha
    obtain ⟨H', k1, k2, k3, k4, k5, k6⟩ := upd_two (xid := xid) hl hx ha hH hlen g1 (fun e he => by rw [List.mem_singleton] at he; subst he; exact ⟨hvT, rfl⟩) g2 g3 g5 hin.1 ⟨by omega, r3⟩ (.inr hjq) (by rw [g7 n j (.inr hjq)]; exact ha)
    exact .inr ⟨rfl, _, H', rfl, k2, k1, k3, k4, k5, k6, fun _ => ⟨rfl, rfl⟩⟩
  · rcases ins_law (lsn := lsn) (fresh := -1) (tb := tb) (ns := ns) hH hl hvF htb ⟨by decide, by omega⟩ with ⟨g1, _, _⟩ | ⟨g0, es, H1, g1, g2, g3, g4, g5, g6, g7, g8, g9, g10⟩
    · left
      rw [hR, updR, if_neg hq, newB_tx, if_pos (by rw [g1]; decide)]
      exact g1
    · obtain ⟨RI, hRI⟩ : ∃ z, insA (pvL H) (-1) tb ns (txD (xid, 0, -1, 0, false, rs)) = z := ⟨_, rfl⟩
      rw [hRI] at g0 g1 g6 g7 g8 g9 g10
      have hR2 : updA (pvL H) (-1) tb ns n j xid hot rs = (RI.1, false, RI.2.1 ++ [(n, j, oldB v xid RI.1.1 RI.1.2)], 0) := by
        rw [hR, updR, if_neg hq, newB_tx, hRI, if_neg (by rw [g0]; decide), ha]; rfl
      rw [hR2]
      have hne : n ≠ RI.1.1 ∨ j ≠ RI.1.2 := by
        rcases Decidable.em (n = RI.1.1) with e1 | e1
        · refine .inr fun e2 => ?_
          have := g10 (by omega)
          rw [← e1, ← e2, ha] at this
          cases this
        · exact .inl e1
      obtain ⟨H', k1, k2, k3, k4, k5, k6⟩ := upd_two (xid := xid) hl hx ha hH hlen g3 g2 g4 g5 g6 g7 g8 hne (by rw [g9 n j (by omega) hne]; exact ha)
      exact .inr ⟨rfl, _, H', by rw [List.map_append, g1]; rfl, k2, k1, k3, k4, k5, k6, fun h => by cases h⟩
end
end Go.Proofs.YtjnplglnnamfdaaDoor
namespace Go.Proofs.YtjnplglnnamfdaaDoor
section
open Go.RowKit Go.Maps
set_option linter.unusedVariables false
set_option linter.unusedSimpArgs false
/-- block b holds a map from int to bool of at most n entries that answers m -/
def MapB (P : Program) (k e b n : Nat) (m : Int → Bool) (W : World) : Prop :=
  ∃ D : DataW Unit, W.ownsMap P k (plainElem P e) b n D ∧ IsMap D ∧ ∀ x : Int, (Lit.int .i64 x).wf = true → D.atKey (.int .i64 x) (.lit (.bool false)) = .lit (.bool (m x))
def eMb (P : Program) (k e b n : Nat) (m : Int → Bool) : Ent := ⟨[b], MapB P k e b n m⟩
theorem eMb_loc (P : Program) (k e b n : Nat) (m : Int → Bool) : (eMb P k e b n m).loc := fun W W' h hb => by
  obtain ⟨D, ⟨es, clock, h1, h2⟩, h3⟩ := hb
  exact ⟨D, ⟨es, clock, (h b (by simp [eMb])).trans h1, h2⟩, h3⟩
theorem MapB.lt {P : Program} {k e b n : Nat} {m : Int → Bool} {W : World} (h : MapB P k e b n m W) : b < W.heap.size := by
  obtain ⟨D, hD, _⟩ := h
  exact hD.lt
theorem i64_wf {x : Int} (h : -9223372036854775808 ≤ x ∧ x ≤ 9223372036854775807) : (Lit.int .i64 x).wf = true := by
  show (decide (IntKind.i64.min ≤ x) && decide (x ≤ IntKind.i64.max)) = true
  have h1 : IntKind.i64.min = -9223372036854775808 := by decide
  have h2 : IntKind.i64.max = 9223372036854775807 := by decide
  rw [h1, h2, decide_eq_true h.1, decide_eq_true h.2]; rfl
section
variable {P : Program} {o : Oper} {ρ : Operand → Value} {W : World} {k e b n : Nat} {m : Int → Bool}
theorem MapB.look {t : TypeId} {x : Int} (h : MapB P k e b n m W) (hk : P.underlying k = some (.int .i64)) (he : P.underlying e = some .bool) (ht : P.underlying t = some (.map k e)) (hz : ∀ w, (zeroValue e).run P w = .ok (.bool false) w) (hx : (Lit.int .i64 x).wf = true) :
    (Instr.lookup t (.map (some b)) (.int .i64 x) false).run P W = .ok (.bool (m x)) W := by
  obtain ⟨D, hD, _, hm⟩ := h
  obtain ⟨v, ps, hrun, hv⟩ := hD.lookup (int_keyed hk) ht (hz W) (plainElem_bool he false) (keyOf_int_mk hk hx)
  rw [hm x hx] at hv
  have : v = .bool (m x) := by
    unfold plainElem at hv
    rw [he] at hv
    cases v <;> simp at hv
    rw [hv.1]
  rw [this] at hrun
  exact hrun
theorem run_lookMb {t : TypeId} {y z : Operand} {x : Int} (h : o.op = .lookup t y z false) (hy : ρ y = .map (some b)) (hz : ρ z = .int .i64 x) (hb : MapB P k e b n m W) (hk : P.underlying k = some (.int .i64) := by kernel_rfl) (he : P.underlying e = some .bool := by kernel_rfl) (ht : P.underlying t = some (.map k e) := by kernel_rfl) (h0 : ∀ w, (zeroValue e).run P w = .ok (.bool false) w) (hx : -9223372036854775808 ≤ x ∧ x ≤ 9223372036854775807) :
    (execOp ρ o).run P W = .ok (.value (.bool (m x))) W := by
  have hrun := hb.look hk he ht h0 (i64_wf hx)
  unfold execOp
  rw [h]
  simp [hy, hz, hrun]
theorem MapB.set {t : TypeId} {x : Int} {v : Bool} (h : MapB P k e b n m W) (hk : P.underlying k = some (.int .i64)) (he : P.underlying e = some .bool) (ht : P.underlying t = some (.map k e)) (hn : n < 1000000) (hx : (Lit.int .i64 x).wf = true) :
    ∃ W', (Instr.mapUpdate t (.map (some b)) (.int .i64 x) (.bool v)).run P W = .ok () W' ∧ MapB P k e b (n + 1) (fun y => if y = x then v else m y) W' ∧ Upd [b] W W' := by
  obtain ⟨D, hD, hI, hm⟩ := h
  obtain ⟨W', hrun, hown, hg⟩ := hD.update (int_keyed hk) ht (by simp only [maxLen]; omega) (keyOf_int_mk hk hx) (plainElem_bool he v)
  refine ⟨W', hrun, ⟨_, hown, hown.isMap, fun y hy => ?_⟩, ⟨hg.os, hg.tape, hg.output, hg.size, fun i hi hn => hg.block i hi (fun e' => hn (by cases e'; simp))⟩⟩
  by_cases e' : y = x
  · subst e'
    show _ = DataW.lit (Lit.bool (if y = y then v else m y))
    rw [if_pos rfl]
    exact atKey_put_same hI (by trivial) _ _
  · show _ = DataW.lit (Lit.bool (if y = x then v else m y))
    rw [if_neg e', atKey_put_other (by simpa using e')]
    exact hm y hy
theorem run_setMb {t : TypeId} {y z u : Operand} {x : Int} {v : Bool} (h : o.op = .mapUpdate t y z u ∨ o.op = .insert t y z u) (hy : ρ y = .map (some b)) (hz : ρ z = .int .i64 x) (hu : ρ u = .bool v) (hb : MapB P k e b n m W) (hn : n < 1000000) (hx : -9223372036854775808 ≤ x ∧ x ≤ 9223372036854775807)
    (hk : P.underlying k = some (.int .i64) := by kernel_rfl) (he : P.underlying e = some .bool := by kernel_rfl) (ht : P.underlying t = some (.map k e) := by kernel_rfl) :
    ∃ W', (execOp ρ o).run P W = .ok .skip W' ∧ MapB P k e b (n + 1) (fun y => if y = x then v else m y) W' ∧ Upd [b] W W' := by
  obtain ⟨W', hrun, h1, h2⟩ := hb.set (v := v) hk he ht hn (i64_wf hx)
  refine ⟨W', ?_, h1, h2⟩
  unfold execOp
  rcases h with h | h <;> rw [h] <;> simp [hy, hz, hu, hrun]
theorem MapB.made : MapB P k e W.heap.size 0 (fun _ => false) (W.alloc (.map #[] 0)) := ⟨.map [], World.ownsMap_made W P k (plainElem P e), ⟨_, rfl⟩, fun x hx => rfl⟩
end
def pbm : Value → Nat
  | .map (some b) => b
  | _ => 0
section
variable {P : Program} {ops : Array Oper} {L : List Nat} {a0 : Act} {w0 : World} {bor : List Nat} {X0 : List Ent} {us cr kl : List (List Nat)}
  {D : Nat → (Tmp → Value) → (Tmp → Value) → (Nat → Ent) → Prop} {i : Nat} {o : Oper} {ρ : Operand → Value} {β : Tmp → Value} {W : World} {X : Nat → Ent}
theorem CtxV.mb {q k e b n : Nat} {m : Int → Bool} (cx : CtxV ops L a0 w0 bor X0 us D i ρ β W X) (hX : X q = eMb P k e b n m) (hu : (atV us i).contains q = true) : MapB P k e b n m W := by
  have h := (cx.ok q hu).holds
  rw [hX] at h; exact h
theorem dv_makeMb {t d k e q : Nat} (h : o.op = .makeMap t none) (hd : o.dst = some d) (hc : atV cr i = [q]) (hk : atV kl i = [])
    (hD : ∀ (σ β' : Tmp → Value) (X' : Nat → Ent), (∀ t, t ≠ d → σ t = ρ (.tmp t)) → (∀ t, t ≠ d → β' t = β t) → σ d = .map (some (pbm (β' d))) → X' q = eMb P k e (pbm (β' d)) 0 (fun _ => false) → D i σ β' X') : DoesU P o ρ W (PostV cr kl D i o.dst ρ β W X) := by
  refine DoesU.value (v := .map (some W.heap.size)) (w' := W.alloc (.map #[] 0)) (by unfold execOp; rw [h]; rfl) ?_
  refine post_call [eMb P k e W.heap.size 0 (fun _ => false)] hk (by rw [hc]; rfl) ((Ext.refl W).alloc _) (one_new ⟨MapB.made, eMb_loc _ _ _ _ _ _, fun k' hk' => ?_⟩) (List.pairwise_singleton _ _) (fun σ β' X' hs hb hv hN => ?_)
  · have : k' = W.heap.size := by simpa [eMb] using hk'
    subst this
    exact ⟨Nat.le_refl _, by simp⟩
  · have hv1 := (hv d hd).1; have hv2 := (hv d hd).2
    rw [hc] at hN
    refine hD σ β' X' (fun t ht => hs t (by rw [hd]; simpa using ht.symm)) (fun t ht => hb t (by rw [hd]; simpa using ht.symm)) ?_ ?_
    · rw [hv1, hv2]; rfl
    · rw [hv2]; exact (List.cons.inj hN).1
theorem dv_setMb {t k e b n q q' : Nat} {m : Int → Bool} {y z u : Operand} {x : Int} {v : Bool} (h : o.op = .mapUpdate t y z u ∨ o.op = .insert t y z u) (hy : ρ y = .map (some b)) (hz : ρ z = .int .i64 x) (hu : ρ u = .bool v)
    (cx : CtxV ops L a0 w0 bor X0 us D i ρ β W X) (hX : X q = eMb P k e b n m) (hq : (atV us i).contains q = true) (hn : n < 1000000) (hx : -9223372036854775808 ≤ x ∧ x ≤ 9223372036854775807) (hd : o.dst = none) (hc : atV cr i = [q']) (hkl : atV kl i = [q])
    (hD : ∀ (σ β' : Tmp → Value) (X' : Nat → Ent), (∀ t, σ t = ρ (.tmp t)) → (∀ t, β' t = β t) → X' q' = eMb P k e b (n + 1) (fun y => if y = x then v else m y) → D i σ β' X')
    (hk : P.underlying k = some (.int .i64) := by kernel_rfl) (he : P.underlying e = some .bool := by kernel_rfl) (ht : P.underlying t = some (.map k e) := by kernel_rfl) : DoesU P o ρ W (PostV cr kl D i o.dst ρ β W X) := by
  obtain ⟨W', hrun, h1, h2⟩ := run_setMb (v := v) h hy hz hu (cx.mb hX hq) hn hx hk he ht
  refine DoesU.skip hrun ⟨[eMb P k e b (n + 1) (fun y => if y = x then v else m y)], by rw [hc]; rfl, ⟨?_, fun e' he' => ?_, List.pairwise_singleton _ _⟩, fun σ β' X' hs hv hb' hbv hx' hN => hD σ β' X' (fun t => hs t (by rw [hd]; simp)) (fun t => hb' t (by rw [hd]; simp)) ?_⟩
  · rw [hkl]
    simp only [List.flatMap_cons, List.flatMap_nil, List.append_nil, hX]
    exact h2
  · rw [List.mem_singleton] at he'
    subst he'
    refine ⟨h1, eMb_loc _ _ _ _ _ _, fun k' hk' => ?_⟩
    have hkb : k' = b := by simpa [eMb] using hk'
    subst hkb
    refine ⟨.inl ?_, h1.lt⟩
    rw [hkl]
    simp [hX, eMb]
  · rw [hc] at hN
    exact (List.cons.inj hN).1
end
end
end Go.Proofs.YtjnplglnnamfdaaDoor
namespace Go.Proofs.YtjnplglnnamfdaaDoor
section
open Go.RowKit
set_option linter.unusedVariables false
set_option linter.unusedSimpArgs false
section
variable {P : Program} {o : Oper} {ρ : Operand → Value} {W : World}
theorem run_indexS {t : TypeId} {x y : Operand} {s : ByteArray} {k : IntKind} {j : Int} {m : Nat} (h : o.op = .index t x y) (ht : P.underlying t = some .string) (hx : ρ x = .string s) (hy : ρ y = .int k j) (hj : j = (m : Int)) (hm : m < s.size) :
    (execOp ρ o).run P W = .ok (.value (.int .u8 (byteI (bl s) m))) W := by
  have e : s = strL (bl s) := strL_bl s
  rw [e] at hx
  exact run_indexStr h ht hx hy hj (by rw [bl_len]; exact hm)
end
/-- the slot that a redirect leads to, or -1 -/
def rdF (v : PV) (j : Int) : Int := if hdF v = true ∧ 1 ≤ j ∧ j < v.its.length ∧ (v.its.getD j.toNat it0).1.size = 2 ∧ byteI (bl (v.its.getD j.toNat it0).1) 0 = 0 then byteI (bl (v.its.getD j.toNat it0).1) 1 else -1
def inS : List Int → Int → Bool
  | [] => fun _ => false
  | s :: l => fun y => if y = s then true else inS l y
theorem inS_mem {l : List Int} {x : Int} : inS l x = true ↔ x ∈ l := by
  induction l with
  | nil => simp [inS]
  | cons a l ih =>
    rw [inS]
    by_cases h : x = a
    · simp [h]
    · show (if x = a then true else inS l x) = true ↔ _
      rw [if_neg h, ih, List.mem_cons]
      simp [h]
def chStop (hot : Bool) (m : Nat) (o : Option VerD) : Bool := !(o.isSome) || ((hot || decide (0 < (m : Int))) && !((vD o).2.2.2.2.1))
def chR (v : PV) (n : Int) (hot : Bool) : Nat → List Int → Int → Int → List (Nat × VerD)
  | 0, _, _, _ => []
  | f + 1, seen, pg, sl => if ((pg == n) && !(inS seen sl)) = true then (if chStop hot seen.length (atF v sl) = true then [] else (sl.toNat, vD (atF v sl)) :: chR v n hot f (sl :: seen) (vD (atF v sl)).2.2.1 (vD (atF v sl)).2.2.2.1) else []
def chF (v : PV) (n j : Int) : List (Nat × VerD) := chR v n (decide (0 ≤ rdF v j)) 24 [] n (if 0 ≤ rdF v j then rdF v j else j)
theorem chR_no {v : PV} {n : Int} {hot : Bool} {f : Nat} {seen : List Int} {pg sl : Int} (h : ((pg == n) && !(inS seen sl)) = false) : chR v n hot f seen pg sl = [] := by
  cases f with
  | zero => rfl
  | succ f => rw [chR, if_neg (by rw [h]; decide)]
theorem chR_stop {v : PV} {n : Int} {hot : Bool} {f : Nat} {seen : List Int} {pg sl : Int} (h : chStop hot seen.length (atF v sl) = true) : chR v n hot f seen pg sl = [] := by
  cases f with
  | zero => rfl
  | succ f => rw [chR]; split <;> simp [h]
theorem chR_go {v : PV} {n : Int} {hot : Bool} {f : Nat} {seen : List Int} {pg sl : Int} (hf : 0 < f) (h1 : ((pg == n) && !(inS seen sl)) = true) (h : chStop hot seen.length (atF v sl) = false) :
    chR v n hot f seen pg sl = (sl.toNat, vD (atF v sl)) :: chR v n hot (f - 1) (sl :: seen) (vD (atF v sl)).2.2.1 (vD (atF v sl)).2.2.2.1 := by
  obtain ⟨f, rfl⟩ : ∃ g, f = g + 1 := ⟨f - 1, by omega⟩
  rw [chR, if_pos h1, if_neg (by rw [h]; decide)]
  rfl
theorem nodup_len : ∀ (n : Nat) (l : List Int), l.Nodup → (∀ x ∈ l, 1 ≤ x ∧ x < (n : Int) + 1) → l.length ≤ n
  | 0, l, _, h => by
    cases l with
    | nil => exact Nat.le_refl _
    | cons a l => have := h a (by simp); omega
  | n + 1, l, hn, h => by
    have h1 : (l.erase ((n : Int) + 1)).length ≤ n := nodup_len n _ (hn.erase _) fun x hx => by
      have h2 := (List.Nodup.mem_erase_iff hn).1 hx
      have h3 := h x h2.2
      have h4 := h2.1
      omega
    have h2 := List.length_erase (a := (n : Int) + 1) (l := l)
    split at h2 <;> omega
theorem atF_some {v : PV} (h : v.wf) {j : Int} (hs : (atF v j).isSome = true) : 1 ≤ j ∧ j < 24 := by
  rw [atF] at hs
  split at hs
  · have := h.1; omega
  · cases hs
theorem atF_next {v : PV} (h : v.wf) (j : Int) : -1 ≤ (vD (atF v j)).2.2.1 ∧ (vD (atF v j)).2.2.1 < 400 ∧ 0 ≤ (vD (atF v j)).2.2.2.1 ∧ (vD (atF v j)).2.2.2.1 < 24 := by
  obtain ⟨s, hs⟩ := atF_desc h j
  have := hs.bd
  exact ⟨this.2.2.2.2.1, this.2.2.2.2.2.1, this.2.2.2.2.2.2.1, this.2.2.2.2.2.2.2.1⟩
theorem rdF_bd (v : PV) (j : Int) : -1 ≤ rdF v j ∧ rdF v j < 256 := by
  rw [rdF]
  split
  · have := byte_lt (bl (v.its.getD j.toNat it0).1) 1
    exact ⟨by have := this.1; rw [byteI]; omega, by have := this.2; exact this⟩
  · omega
def LPost (t : TypeId) (l : List (Nat × VerD)) (n : Int) (w : World) (e : Ending) (w' : World) : Prop := ∃ A c, ∃ ks : List FK, ks.map Prod.fst = l ∧ e = .returned (.slice A l.length c) ∧ w'.ownsRow w.heap.size t 8 (.slice A l.length c) l.length (ks.flatMap (cellsF n)) ∧ Ext w w'
set_option maxRecDepth 100000 in
set_option maxHeartbeats 4000000 in
theorem hredirect_any (tt : TypeId) (tv : Value) (pv : Int → PV) (n j : Int) (w : World) (hS : PgsOk w tt tv pv) :
    Calls Tryd.prog 50 #[.iface tt (tv), .agg #[.int .i64 n, .int .i64 j]] w (Ret (.int .i64 (rdF (pv n) j)) w) := by
  obtain ⟨f0, rv, hM, hC, hG⟩ := hS.ex
  have hwf := hS.wf n
  have hwl := hwf.1
  have hb0 := byte_lt (bl ((pv n).its.getD j.toNat it0).1) 0
  have hb1 := byte_lt (bl ((pv n).its.getD j.toNat it0).1) 1
  have hb0' : 0 ≤ byteI (bl ((pv n).its.getD (j).toNat it0).1) 0 ∧ byteI (bl ((pv n).its.getD (j).toNat it0).1) 0 < 256 := hb0
  have hb1' : 0 ≤ byteI (bl ((pv n).its.getD (j).toNat it0).1) 1 ∧ byteI (bl ((pv n).its.getD (j).toNat it0).1) 1 < 256 := hb1
  go_enter Tryd.func50, Tryd.ntmps50
  have hst0 := St.start w
  refine wp_seq (wp_region_Y [0, 0] [] [[0]] [] [.a 3, .k 4 (vi 0)] (fun ix σ β X => match ix with | 0 => σ 3 = vp (pb (β 3)) ∧ X 0 = eB (pb (β 3)) 24 #[vi n, vi j] | _ => True) [0] [0] [(3, 0, 2, 5)] hst0 ?_ ?_ ?_)
  · exact fun ix _ _ _ _ _ _ hs hb hx h => match ix, h with
    | 0, h => by dsimp only at h ⊢; rw [← hs 3 rfl, ← hb 3 rfl, ← hx 0 rfl]; exact h
    | _ + 1, _ => trivial
  · refine ⟨?_, trivial⟩
    · refine sv_any rfl rfl fun ρ β W X cx => ?_
      exact dv_box (cs := #[vi n, vi j]) rfl (cx.ou 1) rfl rfl rfl (fun σ β' X' hs hb hv hx => ⟨hv, hx⟩)
  intro σ β X W1 hD hst1 fr hfr
  obtain ⟨B3_1, hu_B3_1⟩ : ∃ z, pb (β 3) = z := ⟨_, rfl⟩
  simp only [exq 0 ((dTn (hD 0 lq)).2), hu_B3_1] at hst1
  simp only [ed 3 ((dTn (hD 0 lq)).1), hu_B3_1] at hfr
  clear hD hu_B3_1; subst hfr; clear σ β X
  refine then_normal (wp_seq (wp_seq (wp_region_Z [0, 0, 2, 7, 15, 31, 31, 63, 255] [[], [], [0]] [.k 10 (.iface tt (tv)), .k 11 (vp B3_1), .c 12 (vi n), .c 13 (.tuple #[vi ((ofF (pv n))), .bool ((hdF (pv n)))]), .k 9 (.tuple #[vi ((ofF (pv n))), .bool ((hdF (pv n)))]), .k 14 (vi ((ofF (pv n)))), .k 15 (.bool ((hdF (pv n)))), .k 5 (vi ((ofF (pv n)))), .k 6 (.bool ((hdF (pv n))))] [0] [2, 3] [(5, 7, 2, 7), (2, 4, 1, 3), (0, 0, 4, 4), (0, 5, 2, 2)] hst1 ?_ fun W2 hst2 => ?_)))
  · refine ⟨?_, ?_, trivial⟩
    · exact xs4 rfl id fun cx => run_load1 rfl (by kernel_rfl) (cx.an 1) ((cx.bi 0 rfl).cell 0)
    · exact xsc rfl id rfl rfl fun cx => ⟨_, of_any _ _ pv n _ (hS.ext cx.upd.to_ext), (map2 (cx.an 0) (cx.an 2))⟩
  refine then_normal (wp_seq (wp_region_Z [0, 1, 3, 7, 15, 31, 63] [[], [], [], [], [0]] [.k 16 (.bool ((hdF (pv n)))), .k 17 (.bool (!((hdF (pv n))))), .k 18 (.bool (!((hdF (pv n))))), .z 19 (!(!((hdF (pv n))))) (.pointer (some ⟨B3_1, 1, none⟩)), .y 20 (!(!((hdF (pv n))))) (vi j), .z 21 (!(!((hdF (pv n))))) (.bool (decide (j < 1))), tO 22 (!((hdF (pv n)))) (decide (j < 1))] [0] [4] [(16, 0, 7, 23)] hst2 ?_ fun W3 hst3 => ?_))
  · refine ⟨?_, trivial⟩
    · exact m2 rfl (fun _ _ _ h => h) (fun cx => (cx.an 2)) fun cx hq => run_load1 rfl (by kernel_rfl) (mbv (cx.an 3) hq) ((cx.bi 0 rfl).cell 1)
  refine then_normal ?_
  rcases Bool.eq_false_or_eq_true ((!((hdF (pv n)))) || (decide (j < 1))) with hs4 | hs4
  · skip
    have hs4p := hs4
    simp only [zB] at hs4p
    refine wp_cond_true (show Act.eval _ _ = .bool true from (congrArg Value.bool hs4)) (wp_seq (wp_region_P [0] [.k 4 (vi (-1))] [(4, 0, 1, 5)] hst3 fun W5 hst5 => ?_))
    refine then_normal (wp_ret (then_ret ?_))
    refine bodyPost_ret (v := vi (-1)) (results_tmp Tryd.results50 rfl) rfl ?_
    have hrd : rdF (pv n) j = -1 := by rw [rdF, if_neg (by rintro ⟨a_, b_, c_, d_, e_⟩; simp_all; try omega)]
    rw [hrd]
    exact Ret.of rfl hst5.ext
  have hs4p := hs4
  simp only [zB] at hs4p
  obtain ⟨hs4p1, hs4p2⟩ := hs4p
  refine wp_cond_false (show Act.eval _ _ = .bool false from (congrArg Value.bool hs4)) (wp_skip (then_normal (wp_seq (wp_region_Y [0, 0, 2, 7, 15, 31, 31, 0, 191, 511] [[], [], [0], [], [], [], [], [], [2]] [[], [], [], [1], [], [], [], [2], [3]] [[], [], [], [], [], [], [], [], [2]] [.k 24 (.iface tt (tv)), .k 25 (vp B3_1), .c 26 (vi n), .a 27, .a 23, .a 28, .c 29 (.bool ((pv n).ok)), .a 7, .n, .k 8 (.bool ((pv n).ok))] (fun ix σ β X => match ix with | 0 => True | 1 => True | 2 => True | 3 => σ 27 = .tuple #[.agg #[vi ((pv n).k), vi ((pv n).l), .slice (sA (tg (tg (β 27) 0) 2)) ((pv n).its.length) (sC (tg (tg (β 27) 0) 2))], .bool ((pv n).ok)] ∧ X 1 = eO 9 1 (.slice (sA (tg (tg (β 27) 0) 2)) ((pv n).its.length) (sC (tg (tg (β 27) 0) 2))) ((pv n).its.length) (strs (pv n).its) | 4 => σ 23 = .tuple #[.agg #[vi ((pv n).k), vi ((pv n).l), .slice (sA (tg (tg (β 27) 0) 2)) ((pv n).its.length) (sC (tg (tg (β 27) 0) 2))], .bool ((pv n).ok)] | 5 => σ 28 = .agg #[vi ((pv n).k), vi ((pv n).l), .slice (sA (tg (tg (β 27) 0) 2)) ((pv n).its.length) (sC (tg (tg (β 27) 0) 2))] | 6 => True | 7 => σ 7 = vp (pb (β 7)) ∧ X 2 = eB (pb (β 7)) 86 #[vi 0, vi 0, .slice none 0 0] | 8 => X 3 = eB (pb (β 7)) 86 #[vi ((pv n).k), vi ((pv n).l), .slice (sA (tg (tg (β 27) 0) 2)) ((pv n).its.length) (sC (tg (tg (β 27) 0) 2))] | _ => True) [0, 1, 3] [2, 3, 4, 5, 6, 7, 8] [(7, 7, 3, 9), (14, 4, 1, 15), (0, 0, 4, 4), (0, 5, 2, 2)] hst3 ?_ ?_ ?_))))
  · exact fun ix _ _ _ _ _ _ hs hb hx h => match ix, h with
    | 3, h => by dsimp only at h ⊢; rw [← hs 27 rfl, ← hb 27 rfl, ← hx 1 rfl]; exact h
    | 4, h => by dsimp only at h ⊢; rw [← hs 23 rfl, ← hb 27 rfl]; exact h
    | 5, h => by dsimp only at h ⊢; rw [← hs 28 rfl, ← hb 27 rfl]; exact h
    | 7, h => by dsimp only at h ⊢; rw [← hs 7 rfl, ← hb 7 rfl, ← hx 2 rfl]; exact h
    | 8, h => by dsimp only at h ⊢; rw [← hb 7 rfl, ← hb 27 rfl, ← hx 3 rfl]; exact h
    | 0, _ | 1, _ | 2, _ | 6, _ | _ + 9, _ => trivial
  · refine ⟨?_, ?_, ?_, ?_, ?_, ?_, ?_, trivial⟩
    · exact xs4 rfl id fun cx => run_load1 rfl (by kernel_rfl) (cx.an 1) ((cx.bi 0 rfl).cell 0)
    · refine sv_any rfl rfl fun ρ β W X cx => ?_
      refine DoesU.call (run_invoke (args := #[vi n]) (args' := #[rv, vi n]) rfl rfl (cx.an 0) hM hC (map1 (cx.an 2)) rfl) ?_
      refine (hG _ n cx.upd.to_ext).mono ?_
      rintro e W1 ⟨A4, c4, rfl, ho, hx⟩
      refine ⟨_, rfl, post_call [eO 9 1 (.slice A4 (pv n).its.length c4) (pv n).its.length (strs (pv n).its)] rfl rfl hx (one_new (eO_new ho)) (List.pairwise_singleton _ _) (fun σ β' X' hs hb hv hN => ?_)⟩
      have hv1 := (hv 27 rfl).1; have hv2 := (hv 27 rfl).2
      exact ⟨hv1.trans (by rw [hv2]; rfl), (by rw [hv2]; exact (List.cons.inj hN).1)⟩
    · exact sv rfl rfl rfl rfl rfl _ (fun _ _ _ h => h) (fun β β' h => by rw [h 27 (by decide)]) fun ρ β W X cx => run_move' rfl (dTn (cx.an 3)).1
    · exact sv rfl rfl rfl rfl rfl _ (fun _ _ _ h => h) (fun β β' h => by rw [h 27 (by decide)]) fun ρ β W X cx => run_extract' rfl (dTn (cx.an 4)) rfl
    · exact xs4 rfl id fun cx => run_extract' rfl (dTn (cx.an 4)) rfl
    · refine sv_any rfl rfl fun ρ β W X cx => ?_
      exact dv_alloc (cs := #[vi 0, vi 0, .slice none 0 0]) rfl (by kernel_rfl) rfl rfl (fun σ β' X' hs hb hv hx => ⟨hv, hx⟩)
    · refine sv_any rfl rfl fun ρ β W X cx => ?_
      exact dv_store (n := 3) rfl (dTn (cx.an 7)).1 (dTn (cx.an 5)) (by kernel_rfl) (by kernel_rfl) (by kernel_rfl) cx (dTn (cx.an 7)).2 rfl (nle rfl) (by kernel_rfl) rfl rfl rfl (fun σ β' X' hs hb hx => by rw [hb 7, hb 27]; exact hx)
  intro σ β X W6 hD hst6 fr hfr
  obtain ⟨A27_6, hu_A27_6⟩ : ∃ z, sA (tg (tg (β 27) 0) 2) = z := ⟨_, rfl⟩
  obtain ⟨c27_6, hu_c27_6⟩ : ∃ z, sC (tg (tg (β 27) 0) 2) = z := ⟨_, rfl⟩
  obtain ⟨B7_6, hu_B7_6⟩ : ∃ z, pb (β 7) = z := ⟨_, rfl⟩
  simp only [exq 1 ((dTn (hD 3 lq)).2), exq 3 ((dTn (hD 8 lq))), hu_A27_6, hu_c27_6, hu_B7_6] at hst6
  simp only [ed 27 ((dTn (hD 3 lq)).1), ed 23 ((dTn (hD 4 lq))), ed 28 ((dTn (hD 5 lq))), ed 7 ((dTn (hD 7 lq)).1), hu_A27_6, hu_c27_6, hu_B7_6] at hfr
  clear hD hu_A27_6 hu_c27_6 hu_B7_6; subst hfr; clear σ β X
  refine then_normal (wp_seq (wp_seq (wp_region_Z [0, 1, 0, 4, 12, 31, 63, 127, 255, 127, 639, 2047, 4095, 8191, 16383, 32767, 65535, 131071, 262143, 131071, 655359, 2097151, 4194303, 8388607, 16777215, 33554431] [[], [0], [], [2], [], [], [], [], [2], [], [0], [1], [1], [], [], [], [], [], [2], [], [0], [1], [1]] [.k 30 (.pointer (some ⟨B3_1, 1, none⟩)), .c 31 (vi j), .k 32 (.pointer (some ⟨B7_6, 2, none⟩)), .c 33 (.slice A27_6 ((pv n).its.length) c27_6), .k 34 (vi (((pv n).its.length : Int))), .k 35 (.bool (decide (((pv n).its.length : Int) ≤ j))), .k 36 (.bool (decide (((pv n).its.length : Int) ≤ j))), .z 37 (!(decide (((pv n).its.length : Int) ≤ j))) (.pointer (some ⟨B7_6, 2, none⟩)), .y 38 (!(decide (((pv n).its.length : Int) ≤ j))) (.slice A27_6 ((pv n).its.length) c27_6), .z 39 (!(decide (((pv n).its.length : Int) ≤ j))) (.pointer (some ⟨B3_1, 1, none⟩)), .y 40 (!(decide (((pv n).its.length : Int) ≤ j))) (vi j), .y 41 (!(decide (((pv n).its.length : Int) ≤ j))) (.pointer (some ((ad A27_6).add ((j).toNat)))), .y 42 (!(decide (((pv n).its.length : Int) ≤ j))) (.string (((pv n).its.getD (j).toNat it0).1)), .z 43 (!(decide (((pv n).its.length : Int) ≤ j))) (vi (((((pv n).its.getD (j).toNat it0).1).size : Int))), .z 44 (!(decide (((pv n).its.length : Int) ≤ j))) (.bool (((((pv n).its.getD (j).toNat it0).1).size : Int) != 2)), tO 45 (decide (((pv n).its.length : Int) ≤ j)) (((((pv n).its.getD (j).toNat it0).1).size : Int) != 2), .k 46 (.bool ((decide (((pv n).its.length : Int) ≤ j)) || (((((pv n).its.getD (j).toNat it0).1).size : Int) != 2))), .z 47 (!((decide (((pv n).its.length : Int) ≤ j)) || (((((pv n).its.getD (j).toNat it0).1).size : Int) != 2))) (.pointer (some ⟨B7_6, 2, none⟩)), .y 48 (!((decide (((pv n).its.length : Int) ≤ j)) || (((((pv n).its.getD (j).toNat it0).1).size : Int) != 2))) (.slice A27_6 ((pv n).its.length) c27_6), .z 49 (!((decide (((pv n).its.length : Int) ≤ j)) || (((((pv n).its.getD (j).toNat it0).1).size : Int) != 2))) (.pointer (some ⟨B3_1, 1, none⟩)), .y 50 (!((decide (((pv n).its.length : Int) ≤ j)) || (((((pv n).its.getD (j).toNat it0).1).size : Int) != 2))) (vi j), .y 51 (!((decide (((pv n).its.length : Int) ≤ j)) || (((((pv n).its.getD (j).toNat it0).1).size : Int) != 2))) (.pointer (some ((ad A27_6).add ((j).toNat)))), .y 52 (!((decide (((pv n).its.length : Int) ≤ j)) || (((((pv n).its.getD (j).toNat it0).1).size : Int) != 2))) (.string (((pv n).its.getD (j).toNat it0).1)), .y 53 (!((decide (((pv n).its.length : Int) ≤ j)) || (((((pv n).its.getD (j).toNat it0).1).size : Int) != 2))) (.int .u8 (byteI (bl (((pv n).its.getD (j).toNat it0).1)) 0)), .z 54 (!((decide (((pv n).its.length : Int) ≤ j)) || (((((pv n).its.getD (j).toNat it0).1).size : Int) != 2))) (.bool ((byteI (bl (((pv n).its.getD (j).toNat it0).1)) 0) != 0)), tO 55 ((decide (((pv n).its.length : Int) ≤ j)) || (((((pv n).its.getD (j).toNat it0).1).size : Int) != 2)) ((byteI (bl (((pv n).its.getD (j).toNat it0).1)) 0) != 0)] [0, 1, 2] [1, 3, 8, 10, 11, 12, 18, 20, 21, 22, 23] [(30, 0, 26, 56)] hst6 ?_ fun W7 hst7 => ?_)))
  · refine ⟨?_, ?_, ?_, ?_, ?_, ?_, ?_, ?_, ?_, ?_, ?_, trivial⟩
    · exact xs4 rfl id fun cx => run_load1 rfl (by kernel_rfl) (cx.an 0) ((cx.bi 0 rfl).cell 1)
    · exact xs4 rfl id fun cx => run_load1 rfl (by kernel_rfl) (cx.an 2) ((cx.bi 2 rfl).cell 2)
    · exact m2 rfl (fun _ _ _ h => h) (fun cx => (cx.an 6)) fun cx hq => run_load1 rfl (by kernel_rfl) (mbv (cx.an 7) hq) ((cx.bi 2 rfl).cell 2)
    · exact m2 rfl (fun _ _ _ h => h) (fun cx => (cx.an 6)) fun cx hq => run_load1 rfl (by kernel_rfl) (mbv (cx.an 9) hq) ((cx.bi 0 rfl).cell 1)
    · exact m2 rfl (fun _ _ _ h => h) (fun cx => (cx.an 6)) fun cx hq => run_indexSl (e := 9) (m := (j).toNat) rfl (by kernel_rfl) (by kernel_rfl) (mbv (cx.an 8) hq) (mbv (cx.an 10) hq) (by have hq_ := hq; simp only [zB] at hq_; omega) (by have hq_ := hq; simp only [zB] at hq_; omega) (At.of_own (cx.ri 1 rfl)) (strs_len _)
    · exact m2 rfl (fun _ _ _ h => h) (fun cx => (cx.an 6)) fun cx hq => run_load1 rfl (by kernel_rfl) (mbv (cx.an 11) hq) (At.cellAd (At.of_own (cx.ri 1 rfl)) (getD_strs (by have hq_ := hq; simp only [zB] at hq_; omega)))
    · exact m2 rfl (fun _ _ _ h => h) (fun cx => (cx.an 16)) fun cx hq => run_load1 rfl (by kernel_rfl) (mbv (cx.an 17) hq) ((cx.bi 2 rfl).cell 2)
    · exact m2 rfl (fun _ _ _ h => h) (fun cx => (cx.an 16)) fun cx hq => run_load1 rfl (by kernel_rfl) (mbv (cx.an 19) hq) ((cx.bi 0 rfl).cell 1)
    · exact m2 rfl (fun _ _ _ h => h) (fun cx => (cx.an 16)) fun cx hq => run_indexSl (e := 9) (m := (j).toNat) rfl (by kernel_rfl) (by kernel_rfl) (mbv (cx.an 18) hq) (mbv (cx.an 20) hq) (by have hq_ := hq; simp only [zB] at hq_; omega) (by have hq_ := hq; simp only [zB] at hq_; omega) (At.of_own (cx.ri 1 rfl)) (strs_len _)
    · exact m2 rfl (fun _ _ _ h => h) (fun cx => (cx.an 16)) fun cx hq => run_load1 rfl (by kernel_rfl) (mbv (cx.an 21) hq) (At.cellAd (At.of_own (cx.ri 1 rfl)) (getD_strs (by have hq_ := hq; simp only [zB] at hq_; omega)))
    · exact m2 rfl (fun _ _ _ h => h) (fun cx => (cx.an 16)) fun cx hq => run_indexS (m := 0) rfl (by kernel_rfl) (mbv (cx.an 22) hq) (cx.co _) (by have hq_ := hq; simp only [zB] at hq_; omega) (by have hq_ := hq; simp only [zB] at hq_; omega)
  refine then_normal ?_
  rcases Bool.eq_false_or_eq_true (((decide (((pv n).its.length : Int) ≤ j)) || (((((pv n).its.getD (j).toNat it0).1).size : Int) != 2)) || ((byteI (bl (((pv n).its.getD (j).toNat it0).1)) 0) != 0)) with hs8 | hs8
  · skip
    have hs8p := hs8
    simp only [zB] at hs8p
    refine wp_cond_true (show Act.eval _ _ = .bool true from (congrArg Value.bool hs8)) (wp_seq (wp_region_P [0] [.k 4 (vi (-1))] [(4, 0, 1, 5)] hst7 fun W9 hst9 => ?_))
    refine then_normal (wp_ret (then_ret ?_))
    refine bodyPost_ret (v := vi (-1)) (results_tmp Tryd.results50 rfl) rfl ?_
    have hrd : rdF (pv n) j = -1 := by rw [rdF, if_neg (by rintro ⟨a_, b_, c_, d_, e_⟩; simp_all; try omega)]
    rw [hrd]
    exact Ret.of rfl hst9.ext
  have hs8p := hs8
  simp only [zB] at hs8p
  obtain ⟨⟨hs8p1, hs8p2⟩, hs8p3⟩ := hs8p
  refine wp_cond_false (show Act.eval _ _ = .bool false from (congrArg Value.bool hs8)) (wp_skip (then_normal (wp_seq (wp_region_Z [0, 1, 0, 4, 15, 31, 63, 127, 255] [[], [2], [], [0], [1], [1]] [.k 56 (.pointer (some ⟨B7_6, 2, none⟩)), .c 57 (.slice A27_6 ((pv n).its.length) c27_6), .k 58 (.pointer (some ⟨B3_1, 1, none⟩)), .c 59 (vi j), .c 60 (.pointer (some ((ad A27_6).add ((j).toNat)))), .c 61 (.string (((pv n).its.getD (j).toNat it0).1)), .c 62 (.int .u8 (byteI (bl (((pv n).its.getD (j).toNat it0).1)) 1)), tW 63 .i64 (byteI (bl (((pv n).its.getD (j).toNat it0).1)) 1) (byteI (bl (((pv n).its.getD (j).toNat it0).1)) 1) (IntWalk.i64_in _ (by omega)), .k 4 (vi (byteI (bl (((pv n).its.getD (j).toNat it0).1)) 1))] [0, 1, 2] [1, 3, 4, 5, 6] [(4, 8, 1, 5), (51, 0, 8, 59)] hst7 ?_ fun W10 hst10 => ?_))))
  · refine ⟨?_, ?_, ?_, ?_, ?_, trivial⟩
    · exact xs4 rfl id fun cx => run_load1 rfl (by kernel_rfl) (cx.an 0) ((cx.bi 2 rfl).cell 2)
    · exact xs4 rfl id fun cx => run_load1 rfl (by kernel_rfl) (cx.an 2) ((cx.bi 0 rfl).cell 1)
    · exact xs4 rfl id fun cx => run_indexSl (e := 9) (m := (j).toNat) rfl (by kernel_rfl) (by kernel_rfl) (cx.an 1) (cx.an 3) (by omega) (by omega) (At.of_own (cx.ri 1 rfl)) (strs_len _)
    · exact xs4 rfl id fun cx => run_load1 rfl (by kernel_rfl) (cx.an 4) (At.cellAd (At.of_own (cx.ri 1 rfl)) (getD_strs (by omega)))
    · exact xs4 rfl id fun cx => run_indexS (m := 1) rfl (by kernel_rfl) (cx.an 5) (cx.co _) (by omega) (by omega)
  refine then_normal (wp_ret ?_)
  refine bodyPost_ret (v := vi (byteI (bl (((pv n).its.getD (j).toNat it0).1)) 1)) (results_tmp Tryd.results50 rfl) rfl ?_
  have hrd : rdF (pv n) j = byteI (bl ((pv n).its.getD (j).toNat it0).1) 1 := by rw [rdF, if_pos (by refine ⟨by simp_all, by omega, by omega, by omega, by omega⟩)]
  rw [hrd]
  exact Ret.of rfl hst10.ext
set_option maxRecDepth 100000 in
set_option maxHeartbeats 8000000 in
theorem hchain_any (tt : TypeId) (tv : Value) (pv : Int → PV) (n j : Int) (w : World) (hS : PgsOk w tt tv pv) (hN : NoneAt w) (hj : -9223372036854775808 ≤ j ∧ j ≤ 9223372036854775807) :
    Calls Tryd.prog 25 #[.iface tt (tv), .agg #[.int .i64 n, .int .i64 j]] w (LPost 78 (chF (pv n) n j) n w) := by
  have hwf := hS.wf n
  go_enter Tryd.func25, Tryd.ntmps25
  have hst0 := St.start w
  refine wp_seq (wp_region_Y [0, 0] [] [[0]] [] [.a 3, .k 4 (.slice none 0 0)] (fun ix σ β X => match ix with | 0 => σ 3 = vp (pb (β 3)) ∧ X 0 = eB (pb (β 3)) 24 #[vi n, vi j] | _ => True) [0] [0] [(3, 0, 2, 5)] hst0 ?_ ?_ ?_)
  · exact fun ix _ _ _ _ _ _ hs hb hx h => match ix, h with
    | 0, h => by dsimp only at h ⊢; rw [← hs 3 rfl, ← hb 3 rfl, ← hx 0 rfl]; exact h
    | _ + 1, _ => trivial
  · refine ⟨?_, trivial⟩
    · refine sv_any rfl rfl fun ρ β W X cx => ?_
      exact dv_box (cs := #[vi n, vi j]) rfl (cx.ou 1) rfl rfl rfl (fun σ β' X' hs hb hv hx => ⟨hv, hx⟩)
  intro σ β X W1 hD hst1 fr hfr
  obtain ⟨B3_1, hu_B3_1⟩ : ∃ z, pb (β 3) = z := ⟨_, rfl⟩
  simp only [exq 0 ((dTn (hD 0 lq)).2), hu_B3_1] at hst1
  simp only [ed 3 ((dTn (hD 0 lq)).1), hu_B3_1] at hfr
  clear hD hu_B3_1; subst hfr; clear σ β X
  refine then_normal (wp_seq (wp_region_Y [0, 1] [] [[1]] [] [.a 11, .a 5] (fun ix σ β X => match ix with | 0 => σ 11 = .map (some (pbm (β 11))) ∧ X 1 = eMb Tryd.prog 3 4 (pbm (β 11)) 0 (fun _ => false) | 1 => σ 5 = .map (some (pbm (β 11))) | _ => True) [0, 1] [0, 1] [(5, 1, 1, 6), (5, 0, 1, 6)] hst1 ?_ ?_ ?_))
  · exact fun ix _ _ _ _ _ _ hs hb hx h => match ix, h with
    | 0, h => by dsimp only at h ⊢; rw [← hs 11 rfl, ← hb 11 rfl, ← hx 1 rfl]; exact h
    | 1, h => by dsimp only at h ⊢; rw [← hs 5 rfl, ← hb 11 rfl]; exact h
    | _ + 2, _ => trivial
  · refine ⟨?_, ?_, trivial⟩
    · refine sv_any rfl rfl fun ρ β W X cx => ?_
      exact dv_makeMb rfl rfl rfl rfl (fun σ β' X' hs hb hv hx => ⟨hv, hx⟩)
    · exact sv rfl rfl rfl rfl rfl _ (fun _ _ _ h => h) (fun β β' h => by rw [h 11 (by decide)]) fun ρ β W X cx => run_assign' rfl (dTn (cx.an 0)).1
  intro σ β X W2 hD hst2 fr hfr
  obtain ⟨M11_2, hu_M11_2⟩ : ∃ z, pbm (β 11) = z := ⟨_, rfl⟩
  simp only [exq 1 ((dTn (hD 0 lq)).2), hu_M11_2] at hst2
  simp only [ed 11 ((dTn (hD 0 lq)).1), ed 5 ((dTn (hD 1 lq))), hu_M11_2] at hfr
  clear hD hu_M11_2; subst hfr; clear σ β X
  refine then_normal (wp_seq (wp_region_Y [0, 0, 3, 7] [[0], [], [2]] [[], [2], [3]] [[], [], [2]] [.c 12 (.agg #[vi n, vi j]), .a 6, .n, .k 7 (.bool false)] (fun ix σ β X => match ix with | 0 => True | 1 => σ 6 = vp (pb (β 6)) ∧ X 2 = eB (pb (β 6)) 24 #[vi 0, vi 0] | 2 => X 3 = eB (pb (β 6)) 24 #[vi n, vi j] | _ => True) [0, 1, 3] [0, 1, 2] [(6, 1, 3, 8), (4, 0, 1, 5)] hst2 ?_ ?_ ?_))
  · exact fun ix _ _ _ _ _ _ hs hb hx h => match ix, h with
    | 1, h => by dsimp only at h ⊢; rw [← hs 6 rfl, ← hb 6 rfl, ← hx 2 rfl]; exact h
    | 2, h => by dsimp only at h ⊢; rw [← hb 6 rfl, ← hx 3 rfl]; exact h
    | 0, _ | _ + 3, _ => trivial
  · refine ⟨?_, ?_, ?_, trivial⟩
    · exact xs4 rfl id fun cx => run_loadB (n := 2) rfl (by kernel_rfl) (by kernel_rfl) (cx.ou 3) (cx.bi 0 rfl) (nle rfl) rfl
    · refine sv_any rfl rfl fun ρ β W X cx => ?_
      exact dv_alloc (cs := #[vi 0, vi 0]) rfl (by kernel_rfl) rfl rfl (fun σ β' X' hs hb hv hx => ⟨hv, hx⟩)
    · refine sv_any rfl rfl fun ρ β W X cx => ?_
      exact dv_store (n := 2) rfl (dTn (cx.an 1)).1 (cx.an 0) (by kernel_rfl) (by kernel_rfl) (by kernel_rfl) cx (dTn (cx.an 1)).2 rfl (nle rfl) (by kernel_rfl) rfl rfl rfl (fun σ β' X' hs hb hx => by rw [hb 6]; exact hx)
  intro σ β X W3 hD hst3 fr hfr
  obtain ⟨B6_3, hu_B6_3⟩ : ∃ z, pb (β 6) = z := ⟨_, rfl⟩
  simp only [exq 3 ((dTn (hD 2 lq))), hu_B6_3] at hst3
  simp only [ed 6 ((dTn (hD 1 lq)).1), hu_B6_3] at hfr
  clear hD hu_B6_3; subst hfr; clear σ β X
  refine then_normal ?_
  refine wp_cut (fun az W => ∃ sl0 : Int, ∃ hot : Bool, ∃ u4_ : List Value, sl0 = (if 0 ≤ rdF (pv n) j then rdF (pv n) j else j) ∧ hot = decide (0 ≤ rdF (pv n) j) ∧ az = ⟨#[.iface tt (tv), .agg #[vi n, vi j], undef, vp B3_1, .slice none 0 0, .map (some M11_2), vp B6_3, .bool hot, (gu u4_ 0), undef, undef, .map (some M11_2), .agg #[vi n, vi j], (gu u4_ 1), (gu u4_ 2), (gu u4_ 3), (gu u4_ 4), (gu u4_ 5), (gu u4_ 6), (gu u4_ 7), undef, undef, undef, undef, undef, undef, undef, undef, undef, undef, undef, undef, undef, undef, undef, undef, undef, undef, undef, undef, undef, undef, undef, undef, undef, undef, undef, undef, undef, undef, undef, undef, undef, undef, undef, undef, undef, undef, undef, undef, undef, undef, undef, undef, undef], []⟩ ∧ St w [] [eB B3_1 24 #[vi n, vi j], eMb Tryd.prog 3 4 M11_2 0 (fun _ => false), eB B6_3 24 #[vi n, vi sl0]] W) ?_ ?_
  · skip
    refine wp_seq (wp_region_Z [0, 0, 3, 7] [[], [0]] [.k 13 (.iface tt (tv)), .c 14 (.agg #[vi n, vi j]), .c 15 (vi ((rdF (pv n) j))), .k 8 (vi ((rdF (pv n) j)))] [0, 1, 2] [1, 2] [(8, 3, 1, 9), (4, 0, 3, 7)] hst3 ?_ fun W5 hst5 => ?_)
    · refine ⟨?_, ?_, trivial⟩
      · exact xs4 rfl id fun cx => run_loadB (n := 2) rfl (by kernel_rfl) (by kernel_rfl) (cx.ou 3) (cx.bi 0 rfl) (nle rfl) rfl
      · exact xsc rfl id rfl rfl fun cx => ⟨_, hredirect_any _ _ pv n j _ (hS.ext cx.upd.to_ext), (map2 (cx.an 0) (cx.an 1))⟩
    refine then_normal (wp_seq (wp_region_P [0, 1] [.k 16 (vi ((rdF (pv n) j))), .k 17 (.bool (decide (0 ≤ (rdF (pv n) j))))] [(16, 0, 2, 18)] hst5 fun W6 hst6 => ?_))
    refine then_normal ?_
    rcases Bool.eq_false_or_eq_true (decide (0 ≤ (rdF (pv n) j))) with hs7 | hs7
    · skip
      have hs7p : 0 ≤ (rdF (pv n) j) := by simpa using hs7
      refine wp_cond_true (show Act.eval _ _ = .bool true from (congrArg Value.bool hs7)) (wp_region_Y [0, 1, 3, 7] [[], [], [2]] [[], [], [3]] [[], [], [2]] [.k 18 (vi ((rdF (pv n) j))), .k 19 (.pointer (some ⟨B6_3, 1, none⟩)), .n, .k 7 (.bool true)] (fun ix σ β X => match ix with | 0 => True | 1 => True | 2 => X 3 = eB B6_3 24 #[vi n, vi ((rdF (pv n) j))] | _ => True) [0, 1, 3] [2] [(7, 3, 1, 8), (10, 0, 2, 12)] hst6 ?_ ?_ ?_)
      · exact fun ix _ _ _ _ _ _ hs hb hx h => match ix, h with
        | 2, h => by dsimp only at h ⊢; rw [← hx 3 rfl]; exact h
        | 0, _ | 1, _ | _ + 3, _ => trivial
      · refine ⟨?_, trivial⟩
        · refine sv_any rfl rfl fun ρ β W X cx => ?_
          exact dv_store (n := 1) rfl (cx.an 1) (cx.an 0) (by kernel_rfl) (by kernel_rfl) (by kernel_rfl) cx (cx.init 2 _ rfl) rfl (nle rfl) (by kernel_rfl) rfl rfl rfl (fun σ β' X' hs hb hx => hx)
      intro σ β X W8 hD hst8 fr hfr
      simp only [exq 3 ((dTn (hD 2 lq)))] at hst8
      clear hD; subst hfr; clear σ β X
      refine then_normal ?_
      have hp9 := hst8.pick [0, 1, 2] (by decide) rfl
      exact ⟨(rdF (pv n) j), true, [vi ((rdF (pv n) j)), .iface tt (tv), .agg #[vi n, vi j], vi ((rdF (pv n) j)), vi ((rdF (pv n) j)), .bool (decide (0 ≤ (rdF (pv n) j))), vi ((rdF (pv n) j)), .pointer (some ⟨B6_3, 1, none⟩)], by rw [if_pos (by omega)], (decide_eq_true (by omega)).symm, rfl, hp9⟩
    have hs7p : ¬ (0 ≤ (rdF (pv n) j)) := by simpa using hs7
    refine wp_cond_false (show Act.eval _ _ = .bool false from (congrArg Value.bool hs7)) (wp_skip (then_normal ?_))
    have hp10 := hst6.pick [0, 1, 2] (by decide) rfl
    exact ⟨j, false, [vi ((rdF (pv n) j)), .iface tt (tv), .agg #[vi n, vi j], vi ((rdF (pv n) j)), vi ((rdF (pv n) j)), .bool (decide (0 ≤ (rdF (pv n) j))), undef, undef], by rw [if_neg (by omega)], (decide_eq_false (by omega)).symm, rfl, hp10⟩
  rintro a4 W4 ⟨sl0, hot, u4_, hsl0, hh0, rfl, hst4⟩
  obtain ⟨T, hT⟩ : ∃ T, chF (pv n) n j = T := ⟨_, rfl⟩
  rw [hT]
  rw [chF, ← hsl0, ← hh0] at hT
  have hrb := rdF_bd (pv n) j
  refine wp_seq (wp_block ?_)
  have hn11 := nilrowN hst4 78 8
  have hslr : -9223372036854775808 ≤ sl0 ∧ sl0 ≤ 9223372036854775807 := by rw [hsl0]; split <;> omega
  refine wp_loopN (fun mz az W => ∃ seen : List Int, ∃ m : Nat, ∃ pg : Int, ∃ sl : Int, ∃ FA : Option Addr, ∃ FC : Nat, ∃ ks : List FK, ∃ u12_ : List Value, seen.length = m ∧ ks.length = m ∧ seen.Nodup ∧ (∀ x ∈ seen, 1 ≤ x ∧ x < ((23 : Nat) : Int) + 1) ∧ ks.map Prod.fst ++ chR (pv n) n hot (24 - m) seen pg sl = T ∧ (-9223372036854775808 ≤ sl ∧ sl ≤ 9223372036854775807) ∧ mz = 24 - m ∧ az = ⟨#[.iface tt (tv), .agg #[vi n, vi j], undef, vp B3_1, .slice FA m FC, .map (some M11_2), vp B6_3, .bool hot, (gu u4_ 0), (gu u12_ 0), (gu u12_ 1), .map (some M11_2), .agg #[vi n, vi j], (gu u4_ 1), (gu u4_ 2), (gu u4_ 3), (gu u4_ 4), (gu u4_ 5), (gu u4_ 6), (gu u4_ 7), (gu u12_ 2), (gu u12_ 3), (gu u12_ 4), (gu u12_ 5), (gu u12_ 6), (gu u12_ 7), (gu u12_ 8), (gu u12_ 9), (gu u12_ 10), (gu u12_ 11), (gu u12_ 12), (gu u12_ 13), (gu u12_ 14), (gu u12_ 15), (gu u12_ 16), (gu u12_ 17), (gu u12_ 18), (gu u12_ 19), (gu u12_ 20), (gu u12_ 21), (gu u12_ 22), (gu u12_ 23), (gu u12_ 24), (gu u12_ 25), (gu u12_ 26), (gu u12_ 27), (gu u12_ 28), (gu u12_ 29), (gu u12_ 30), (gu u12_ 31), (gu u12_ 32), (gu u12_ 33), (gu u12_ 34), (gu u12_ 35), (gu u12_ 36), (gu u12_ 37), (gu u12_ 38), (gu u12_ 39), (gu u12_ 40), (gu u12_ 41), (gu u12_ 42), (gu u12_ 43), (gu u12_ 44), (gu u12_ 45), undef], []⟩ ∧ St w [] [eB B3_1 24 #[vi n, vi j], eB B6_3 24 #[vi pg, vi sl], eMb Tryd.prog 3 4 M11_2 m (inS seen), eO 78 8 (.slice FA m FC) m (ks.flatMap (cellsF n))] W) (24 - 0) ?_ ?_
  · -- the loop begins
    have hp13 := hn11.pick [0, 2, 1, 3] (by decide) rfl
    exact ⟨[], 0, n, sl0, none, 0, [], [undef, undef, undef, undef, undef, undef, undef, undef, undef, undef, undef, undef, undef, undef, undef, undef, undef, undef, undef, undef, undef, undef, undef, undef, undef, undef, undef, undef, undef, undef, undef, undef, undef, undef, undef, undef, undef, undef, undef, undef, undef, undef, undef, undef, undef, undef], rfl, rfl, List.nodup_nil, (fun x hx => by cases hx), hT, hslr, rfl, rfl, hp13⟩
  rintro n12 a12 W12 ⟨seen, m, pg, sl, FA, FC, ks, u12_, hsm, hkm, hsn, hsr, hch, hsl, rfl, rfl, hst12⟩
  have hm23 : m ≤ 23 := by rw [← hsm]; exact nodup_len 23 seen hsn hsr
  refine wp_seq (wp_seq (wp_region_Z [0, 1, 0, 4, 15, 31, 63, 63, 191, 511, 1023, 2047] [[], [1], [], [0], [], [], [], [], [1], [2]] [.k 20 (vp B6_3), .c 21 (vi pg), .k 22 (vp B3_1), .c 23 (vi n), .k 24 (.bool (pg == n)), .k 25 (.bool (pg == n)), .z 26 (pg == n) (.map (some M11_2)), .z 27 (pg == n) (.pointer (some ⟨B6_3, 1, none⟩)), .y 28 (pg == n) (vi sl), .y 29 (pg == n) (.bool ((inS seen) sl)), .z 30 (pg == n) (.bool (!((inS seen) sl))), tA 31 (pg == n) (!((inS seen) sl))] [0, 1, 2, 3] [1, 3, 8, 9] [(20, 0, 12, 32)] hst12 ?_ fun W14 hst14 => ?_))
  · refine ⟨?_, ?_, ?_, ?_, trivial⟩
    · exact xs4 rfl id fun cx => run_load1 rfl (by kernel_rfl) (cx.an 0) ((cx.bi 1 rfl).cell 0)
    · exact xs4 rfl id fun cx => run_load1 rfl (by kernel_rfl) (cx.an 2) ((cx.bi 0 rfl).cell 0)
    · exact m2 rfl (fun _ _ _ h => h) (fun cx => (cx.an 5)) fun cx hq => run_load1 rfl (by kernel_rfl) (mbv (cx.an 7) hq) ((cx.bi 1 rfl).cell 1)
    · exact m2 rfl (fun _ _ _ h => h) (fun cx => (cx.an 5)) fun cx hq => run_lookMb rfl (mbv (cx.an 6) hq) (mbv (cx.an 8) hq) (CtxV.mb cx (cx.init 2 _ rfl) rfl) (h0 := fun w => by rfl) (hx := by omega)
  refine then_normal ?_
  rcases Bool.eq_false_or_eq_true ((pg == n) && (!((inS seen) sl))) with hs15 | hs15
  · skip
    have hs15p := hs15
    simp only [zB] at hs15p
    obtain ⟨hs15p1, hs15p2⟩ := hs15p
    refine wp_cond_true (show Act.eval _ _ = .bool true from (congrArg Value.bool hs15)) (wp_skip (then_normal (wp_block (wp_seq ?_))))
    obtain rfl : n = pg := by omega
    refine wp_region_Y [0, 0, 3, 7, 15, 15, 0, 95, 255] [[], [1], [], [], [], [], [], [5]] [[], [], [4], [], [], [], [5], [6]] [[], [], [], [], [], [], [], [5]] [.k 33 (.iface tt (tv)), .c 34 (.agg #[vi n, vi sl]), .a 35, .a 32, .a 36, .c 37 (.bool ((atF (pv n) sl).isSome)), .a 9, .n, .k 10 (.bool ((atF (pv n) sl).isSome))] (fun ix σ β X => match ix with | 0 => True | 1 => True | 2 => σ 35 = .tuple #[.agg #[vi ((vD (atF (pv n) sl)).1), vi ((vD (atF (pv n) sl)).2.1), vi ((vD (atF (pv n) sl)).2.2.1), vi ((vD (atF (pv n) sl)).2.2.2.1), .bool ((vD (atF (pv n) sl)).2.2.2.2.1), .slice (sA (tg (tg (β 35) 0) 5)) ((vD (atF (pv n) sl)).2.2.2.2.2.length) (sC (tg (tg (β 35) 0) 5))], .bool ((atF (pv n) sl).isSome)] ∧ X 4 = eO 82 3 (.slice (sA (tg (tg (β 35) 0) 5)) ((vD (atF (pv n) sl)).2.2.2.2.2.length) (sC (tg (tg (β 35) 0) 5))) ((vD (atF (pv n) sl)).2.2.2.2.2.length) (flatR (vD (atF (pv n) sl)).2.2.2.2.2) | 3 => σ 32 = .tuple #[.agg #[vi ((vD (atF (pv n) sl)).1), vi ((vD (atF (pv n) sl)).2.1), vi ((vD (atF (pv n) sl)).2.2.1), vi ((vD (atF (pv n) sl)).2.2.2.1), .bool ((vD (atF (pv n) sl)).2.2.2.2.1), .slice (sA (tg (tg (β 35) 0) 5)) ((vD (atF (pv n) sl)).2.2.2.2.2.length) (sC (tg (tg (β 35) 0) 5))], .bool ((atF (pv n) sl).isSome)] | 4 => σ 36 = .agg #[vi ((vD (atF (pv n) sl)).1), vi ((vD (atF (pv n) sl)).2.1), vi ((vD (atF (pv n) sl)).2.2.1), vi ((vD (atF (pv n) sl)).2.2.2.1), .bool ((vD (atF (pv n) sl)).2.2.2.2.1), .slice (sA (tg (tg (β 35) 0) 5)) ((vD (atF (pv n) sl)).2.2.2.2.2.length) (sC (tg (tg (β 35) 0) 5))] | 5 => True | 6 => σ 9 = vp (pb (β 9)) ∧ X 5 = eB (pb (β 9)) 41 #[vi 0, vi 0, vi 0, vi 0, .bool false, .slice none 0 0] | 7 => X 6 = eB (pb (β 9)) 41 #[vi ((vD (atF (pv n) sl)).1), vi ((vD (atF (pv n) sl)).2.1), vi ((vD (atF (pv n) sl)).2.2.1), vi ((vD (atF (pv n) sl)).2.2.2.1), .bool ((vD (atF (pv n) sl)).2.2.2.2.1), .slice (sA (tg (tg (β 35) 0) 5)) ((vD (atF (pv n) sl)).2.2.2.2.2.length) (sC (tg (tg (β 35) 0) 5))] | _ => True) [0, 1, 2, 3, 4, 6] [1, 2, 3, 4, 5, 6, 7] [(9, 6, 3, 11), (21, 3, 1, 22), (0, 0, 3, 3), (0, 4, 2, 2)] hst14 ?_ ?_ ?_
    · exact fun ix _ _ _ _ _ _ hs hb hx h => match ix, h with
      | 2, h => by dsimp only at h ⊢; rw [← hs 35 rfl, ← hb 35 rfl, ← hx 4 rfl]; exact h
      | 3, h => by dsimp only at h ⊢; rw [← hs 32 rfl, ← hb 35 rfl]; exact h
      | 4, h => by dsimp only at h ⊢; rw [← hs 36 rfl, ← hb 35 rfl]; exact h
      | 6, h => by dsimp only at h ⊢; rw [← hs 9 rfl, ← hb 9 rfl, ← hx 5 rfl]; exact h
      | 7, h => by dsimp only at h ⊢; rw [← hb 9 rfl, ← hb 35 rfl, ← hx 6 rfl]; exact h
      | 0, _ | 1, _ | 5, _ | _ + 8, _ => trivial
    · refine ⟨?_, ?_, ?_, ?_, ?_, ?_, ?_, trivial⟩
      · exact xs4 rfl id fun cx => run_loadB (n := 2) rfl (by kernel_rfl) (by kernel_rfl) (cx.ou 6) (cx.bi 1 rfl) (nle rfl) rfl
      · refine sv_any rfl rfl fun ρ β W X cx => ?_
        refine DoesU.call (run_callF (args := #[.iface tt (tv), .agg #[vi n, vi sl]]) rfl cx.sees rfl (by kernel_rfl) (map2 (cx.an 0) (cx.an 1))) ?_
        refine (hget_any _ _ pv n sl _ (hS.ext cx.upd.to_ext) (hN.ext cx.upd.to_ext)).mono ?_
        rintro e W1 ⟨A4, c4, rfl, ho, hx⟩
        refine ⟨_, rfl, post_call [eO 82 3 (.slice A4 (vD (atF (pv n) sl)).2.2.2.2.2.length c4) (vD (atF (pv n) sl)).2.2.2.2.2.length (flatR (vD (atF (pv n) sl)).2.2.2.2.2)] rfl rfl hx (one_new (eO_new ho)) (List.pairwise_singleton _ _) (fun σ β' X' hs hb hv hN => ?_)⟩
        have hv1 := (hv 35 rfl).1; have hv2 := (hv 35 rfl).2
        exact ⟨hv1.trans (by rw [hv2]; rfl), (by rw [hv2]; exact (List.cons.inj hN).1)⟩
      · exact sv rfl rfl rfl rfl rfl _ (fun _ _ _ h => h) (fun β β' h => by rw [h 35 (by decide)]) fun ρ β W X cx => run_move' rfl (dTn (cx.an 2)).1
      · exact sv rfl rfl rfl rfl rfl _ (fun _ _ _ h => h) (fun β β' h => by rw [h 35 (by decide)]) fun ρ β W X cx => run_extract' rfl (dTn (cx.an 3)) rfl
      · exact xs4 rfl id fun cx => run_extract' rfl (dTn (cx.an 3)) rfl
      · refine sv_any rfl rfl fun ρ β W X cx => ?_
        exact dv_alloc (cs := #[vi 0, vi 0, vi 0, vi 0, .bool false, .slice none 0 0]) rfl (by kernel_rfl) rfl rfl (fun σ β' X' hs hb hv hx => ⟨hv, hx⟩)
      · refine sv_any rfl rfl fun ρ β W X cx => ?_
        exact dv_store (n := 6) rfl (dTn (cx.an 6)).1 (dTn (cx.an 4)) (by kernel_rfl) (by kernel_rfl) (by kernel_rfl) cx (dTn (cx.an 6)).2 rfl (nle rfl) (by kernel_rfl) rfl rfl rfl (fun σ β' X' hs hb hx => by rw [hb 9, hb 35]; exact hx)
    intro σ β X W16 hD hst16 fr hfr
    obtain ⟨A35_16, hu_A35_16⟩ : ∃ z, sA (tg (tg (β 35) 0) 5) = z := ⟨_, rfl⟩
    obtain ⟨c35_16, hu_c35_16⟩ : ∃ z, sC (tg (tg (β 35) 0) 5) = z := ⟨_, rfl⟩
    obtain ⟨B9_16, hu_B9_16⟩ : ∃ z, pb (β 9) = z := ⟨_, rfl⟩
    simp only [exq 4 ((dTn (hD 2 lq)).2), exq 6 ((dTn (hD 7 lq))), hu_A35_16, hu_c35_16, hu_B9_16] at hst16
    simp only [ed 35 ((dTn (hD 2 lq)).1), ed 32 ((dTn (hD 3 lq))), ed 36 ((dTn (hD 4 lq))), ed 9 ((dTn (hD 6 lq)).1), hu_A35_16, hu_c35_16, hu_B9_16] at hfr
    clear hD hu_A35_16 hu_c35_16 hu_B9_16; subst hfr; clear σ β X
    refine then_normal (wp_seq (wp_seq (wp_region_Z [0, 1, 3, 7, 15, 31, 63, 127, 255, 511, 1023, 2047, 4095, 8191, 16383] [[], [], [], [], [], [], [], [], [], [], [], [5]] [.k 38 (.bool ((atF (pv n) sl).isSome)), .k 39 (.bool (!((atF (pv n) sl).isSome))), .k 40 (.bool (!((atF (pv n) sl).isSome))), .z 41 (!(!((atF (pv n) sl).isSome))) (.bool hot), .z 42 (!(!((atF (pv n) sl).isSome))) (.bool hot), .z 43 ((!(!((atF (pv n) sl).isSome))) && (!hot)) (.slice FA m FC), .z 44 ((!(!((atF (pv n) sl).isSome))) && (!hot)) (vi ((m : Int))), .z 45 ((!(!((atF (pv n) sl).isSome))) && (!hot)) (.bool (decide (0 < (m : Int)))), .y 46 (!(!((atF (pv n) sl).isSome))) (.bool (hot || (decide (0 < (m : Int))))), .z 47 (!(!((atF (pv n) sl).isSome))) (.bool (hot || (decide (0 < (m : Int))))), .z 48 ((!(!((atF (pv n) sl).isSome))) && (hot || (decide (0 < (m : Int))))) (.pointer (some ⟨B9_16, 4, none⟩)), .y 49 ((!(!((atF (pv n) sl).isSome))) && (hot || (decide (0 < (m : Int))))) (.bool ((vD (atF (pv n) sl)).2.2.2.2.1)), .z 50 ((!(!((atF (pv n) sl).isSome))) && (hot || (decide (0 < (m : Int))))) (.bool (!((vD (atF (pv n) sl)).2.2.2.2.1))), .y 51 (!(!((atF (pv n) sl).isSome))) (.bool ((hot || (decide (0 < (m : Int)))) && (!((vD (atF (pv n) sl)).2.2.2.2.1)))), tO 52 (!((atF (pv n) sl).isSome)) ((hot || (decide (0 < (m : Int)))) && (!((vD (atF (pv n) sl)).2.2.2.2.1)))] [0, 1, 2, 3, 4, 5] [8, 11, 13] [(38, 0, 15, 53)] hst16 ?_ fun W17 hst17 => ?_)))
    · refine ⟨?_, ?_, ?_, trivial⟩
      · exact m2 rfl (fun _ _ _ h => h) (fun cx => (cx.an 2)) fun cx hq => run_pick_or rfl (mbv (cx.an 4) hq) (cx.co _) (cx.an 7) (fun e_ => by rw [hq, e_]; rfl)
      · exact m0 rfl (fun _ _ _ h => h) (fun cx => (cx.an 9)) fun cx hq => run_load1 rfl (by kernel_rfl) (mbv (cx.an 10) hq) ((cx.bi 5 rfl).cell 4)
      · exact m2 rfl (fun _ _ _ h => h) (fun cx => (cx.an 2)) fun cx hq => run_pick_and rfl (mbv (cx.an 9) hq) (cx.an 12) (fun e_ => by rw [hq, e_]; rfl) (cx.co _)
    refine then_normal ?_
    rcases Bool.eq_false_or_eq_true ((!((atF (pv n) sl).isSome)) || ((hot || (decide (0 < (m : Int)))) && (!((vD (atF (pv n) sl)).2.2.2.2.1)))) with hs18 | hs18
    · skip
      have hs18p := hs18
      simp only [zB] at hs18p
      refine wp_cond_true (show Act.eval _ _ = .bool true from (congrArg Value.bool hs18)) (wp_exit (then_exit (blk_ne (by decide) (then_exit (blk_eq (then_normal (wp_seq (wp_region_P [0, 1] [.k 64 (.slice FA m FC), .k 4 (.slice FA m FC)] [(4, 1, 1, 5), (59, 0, 1, 60)] hst17 fun W19 hst19 => ?_))))))))
      refine then_normal (wp_ret ?_)
      refine bodyPost_ret (v := .slice FA m FC) (results_tmp Tryd.results25 rfl) rfl ?_
      rw [chR_stop (by rw [hsm]; exact hs18), List.append_nil] at hch
      have hlm : m = T.length := by rw [← hch, List.length_map, hkm]
      have ho_ := hst19.own' 3 rfl
      unfold LPost
      rw [← hlm]
      exact ⟨_, _, ks, hch, rfl, ho_, hst19.ext⟩
    have hs18p := hs18
    simp only [zB] at hs18p
    obtain ⟨hs18p1, hs18p2⟩ := hs18p
    refine wp_cond_false (show Act.eval _ _ = .bool false from (congrArg Value.bool hs18)) (wp_skip (then_normal (wp_seq ?_)))
    have hso : (atF (pv n) sl).isSome = true := by have h_ := hs18; cases h9_ : (atF (pv n) sl).isSome with | true => rfl | false => rw [h9_] at h_; simp at h_
    have hsb := atF_some hwf hso
    have hnb := atF_next hwf sl
    obtain ⟨S, rfl⟩ : ∃ S : Nat, sl = (S : Int) := ⟨sl.toNat, by omega⟩
    have hns : (S : Int) ∉ seen := by intro h_; have h2_ := inS_mem.2 h_; have h3_ := hs15; rw [h2_] at h3_; simp at h3_
    have hsr2 : ∀ x ∈ (S : Int) :: seen, 1 ≤ x ∧ x < ((23 : Nat) : Int) + 1 := fun x hx => by
      rcases List.mem_cons.1 hx with rfl | h_
      · omega
      · exact hsr x h_
    have hmm : m + 1 ≤ 23 := by rw [← hsm]; exact nodup_len 23 ((S : Int) :: seen) (List.nodup_cons.2 ⟨hns, hsn⟩) hsr2
    refine wp_region_Y [0, 0, 2, 7] [[], [], [1], [2]] [[], [], [], [6]] [[], [], [], [2]] [.k 53 (.map (some M11_2)), .k 54 (.pointer (some ⟨B6_3, 1, none⟩)), .c 55 (vi (S : Int)), .n] (fun ix σ β X => match ix with | 0 => True | 1 => True | 2 => True | 3 => X 6 = eMb Tryd.prog 3 4 M11_2 (m + 1) (inS ((S : Int) :: seen)) | _ => True) [0, 1, 3, 4, 5, 6] [2, 3] [(53, 0, 3, 56)] hst17 ?_ ?_ ?_
    · exact fun ix _ _ _ _ _ _ hs hb hx h => match ix, h with
      | 3, h => by dsimp only at h ⊢; rw [← hx 6 rfl]; exact h
      | 0, _ | 1, _ | 2, _ | _ + 4, _ => trivial
    · refine ⟨?_, ?_, trivial⟩
      · exact xs4 rfl id fun cx => run_load1 rfl (by kernel_rfl) (cx.an 1) ((cx.bi 1 rfl).cell 1)
      · refine sv_any rfl rfl fun ρ β W X cx => ?_
        exact dv_setMb (.inl rfl) (cx.an 0) (cx.an 2) (cx.co _) cx (cx.init 2 _ rfl) rfl (by omega) (by omega) rfl rfl rfl (fun σ β' X' hs hb hx => hx)
    intro σ β X W20 hD hst20 fr hfr
    simp only [exq 6 ((dTn (hD 3 lq)))] at hst20
    clear hD; subst hfr; clear σ β X
    refine then_normal (wp_seq (wp_region_Y [0, 0, 0, 6, 14, 31, 63] [[], [1], [4], [], [], [6, 2]] [[], [], [], [], [6], [7]] [[], [], [], [], [], [2]] [.k 56 (.slice FA m FC), .c 57 (.agg #[vi n, vi (S : Int)]), .c 58 (.agg #[vi ((vD (atF (pv n) (S : Int))).1), vi ((vD (atF (pv n) (S : Int))).2.1), vi ((vD (atF (pv n) (S : Int))).2.2.1), vi ((vD (atF (pv n) (S : Int))).2.2.2.1), .bool ((vD (atF (pv n) (S : Int))).2.2.2.2.1), .slice A35_16 ((vD (atF (pv n) (S : Int))).2.2.2.2.2.length) c35_16]), .k 59 (.agg #[vi n, vi (S : Int), vi ((vD (atF (pv n) (S : Int))).1), vi ((vD (atF (pv n) (S : Int))).2.1), vi ((vD (atF (pv n) (S : Int))).2.2.1), vi ((vD (atF (pv n) (S : Int))).2.2.2.1), .bool ((vD (atF (pv n) (S : Int))).2.2.2.2.1), .slice A35_16 ((vD (atF (pv n) (S : Int))).2.2.2.2.2.length) c35_16]), .a 60, .a 61, .a 4] (fun ix σ β X => match ix with | 0 => True | 1 => True | 2 => True | 3 => True | 4 => σ 60 = .slice ((some ⟨(pb' (β 60)), 0, none⟩)) 1 1 ∧ X 6 = eO 78 8 (.slice ((some ⟨(pb' (β 60)), 0, none⟩)) 1 1) 1 (cellsF n ((S, vD (atF (pv n) (S : Int))), A35_16, c35_16)) | 5 => σ 61 = .slice (sA (β 61)) (m + 1) (sC (β 61)) ∧ X 7 = eO 78 8 (.slice (sA (β 61)) (m + 1) (sC (β 61))) (m + 1) ((ks ++ [((S, vD (atF (pv n) (S : Int))), A35_16, c35_16)]).flatMap (cellsF n)) | 6 => σ 4 = .slice (sA (β 61)) (m + 1) (sC (β 61)) | _ => True) [0, 1, 3, 4, 5, 6, 7] [1, 2, 4, 5, 6] [(4, 6, 1, 5), (51, 0, 6, 57)] hst20 ?_ ?_ ?_))
    · exact fun ix _ _ _ _ _ _ hs hb hx h => match ix, h with
      | 4, h => by dsimp only at h ⊢; rw [← hs 60 rfl, ← hb 60 rfl, ← hx 6 rfl]; exact h
      | 5, h => by dsimp only at h ⊢; rw [← hs 61 rfl, ← hb 61 rfl, ← hx 7 rfl]; exact h
      | 6, h => by dsimp only at h ⊢; rw [← hs 4 rfl, ← hb 61 rfl]; exact h
      | 0, _ | 1, _ | 2, _ | 3, _ | _ + 7, _ => trivial
    · refine ⟨?_, ?_, ?_, ?_, ?_, trivial⟩
      · exact xs4 rfl id fun cx => run_loadB (n := 2) rfl (by kernel_rfl) (by kernel_rfl) (cx.ou 6) (cx.bi 1 rfl) (nle rfl) rfl
      · exact xs4 rfl id fun cx => run_loadB (n := 6) rfl (by kernel_rfl) (by kernel_rfl) (cx.ou 9) (cx.bi 4 rfl) (nle rfl) rfl
      · refine sv_any rfl rfl fun ρ β W X cx => ?_
        have fF59 : ρ (.tmp 59) = .agg #[vi n, vi (S : Int), vi ((vD (atF (pv n) (S : Int))).1), vi ((vD (atF (pv n) (S : Int))).2.1), vi ((vD (atF (pv n) (S : Int))).2.2.1), vi ((vD (atF (pv n) (S : Int))).2.2.2.1), .bool ((vD (atF (pv n) (S : Int))).2.2.2.2.1), .slice A35_16 ((vD (atF (pv n) (S : Int))).2.2.2.2.2.length) c35_16] := (cx.an 3)
        exact dv_litN (e := 78) (sz := 8) (xs := [vi n, vi (S : Int), vi ((vD (atF (pv n) (S : Int))).1), vi ((vD (atF (pv n) (S : Int))).2.1), vi ((vD (atF (pv n) (S : Int))).2.2.1), vi ((vD (atF (pv n) (S : Int))).2.2.2.1), .bool ((vD (atF (pv n) (S : Int))).2.2.2.2.1), .slice A35_16 ((vD (atF (pv n) (S : Int))).2.2.2.2.2.length) c35_16]) rfl (by simp [go_sem, fF59]) rfl (by decide) rfl rfl (fun σ β' X' hs hb hv hx => ⟨hv, hx⟩)
      · refine sv_any rfl rfl fun ρ β W X cx => ?_
        obtain ⟨i0, hi0, hz0, hz1, hz2⟩ := info_parts Tryd.infoFnd
        refine dv_appendN (n := m) (m := 1) (nm := m + 1) (sz := 8) (xs := ks.flatMap (cellsF n)) (news := cellsF n ((S, vD (atF (pv n) (S : Int))), A35_16, c35_16)) (xs' := (ks ++ [((S, vD (atF (pv n) (S : Int))), A35_16, c35_16)]).flatMap (cellsF n)) rfl (ty := 75) rfl (by kernel_rfl) hi0 hz0 hz1 hz2 rfl (by decide) (cx.an 0) cx (cx.init 2 _ rfl) rfl (dTn (cx.an 4)).1 (by rfl) (At.of_ownN (cx.row (dTn (cx.an 4)).2 rfl)) (by simp [cellsF, Value.oneCell']) (by simp only [maxLen]; omega) (by omega) rfl rfl rfl (by omega) (found_snoc _ _ _) (fun σ β' X' hs hb hv hx => ?_)
        exact ⟨hv, hx⟩
      · exact sv rfl rfl rfl rfl rfl _ (fun _ _ _ h => h) (fun β β' h => by rw [h 61 (by decide)]) fun ρ β W X cx => run_assign' rfl (dTn (cx.an 5)).1
    intro σ β X W21 hD hst21 fr hfr
    obtain ⟨B60_21, hu_B60_21⟩ : ∃ z, pb' (β 60) = z := ⟨_, rfl⟩
    obtain ⟨A61_21, hu_A61_21⟩ : ∃ z, sA (β 61) = z := ⟨_, rfl⟩
    obtain ⟨c61_21, hu_c61_21⟩ : ∃ z, sC (β 61) = z := ⟨_, rfl⟩
    simp only [exq 6 ((dTn (hD 4 lq)).2), exq 7 ((dTn (hD 5 lq)).2), hu_B60_21, hu_A61_21, hu_c61_21] at hst21
    simp only [ed 60 ((dTn (hD 4 lq)).1), ed 61 ((dTn (hD 5 lq)).1), ed 4 ((dTn (hD 6 lq))), hu_B60_21, hu_A61_21, hu_c61_21] at hfr
    clear hD hu_B60_21 hu_A61_21 hu_c61_21; subst hfr; clear σ β X
    refine then_normal (wp_region_Y [0, 1, 3] [[], [3], [1]] [[], [], [7]] [[], [], [1]] [.k 62 (.pointer (some ⟨B9_16, 2, none⟩)), .c 63 (.agg #[vi ((vD (atF (pv n) (S : Int))).2.2.1), vi ((vD (atF (pv n) (S : Int))).2.2.2.1)]), .n] (fun ix σ β X => match ix with | 0 => True | 1 => True | 2 => X 7 = eB B6_3 24 #[vi ((vD (atF (pv n) (S : Int))).2.2.1), vi ((vD (atF (pv n) (S : Int))).2.2.2.1)] | _ => True) [0, 2, 3, 4, 5, 6, 7] [1, 2] [(62, 0, 2, 64)] hst21 ?_ ?_ ?_)
    · exact fun ix _ _ _ _ _ _ hs hb hx h => match ix, h with
      | 2, h => by dsimp only at h ⊢; rw [← hx 7 rfl]; exact h
      | 0, _ | 1, _ | _ + 3, _ => trivial
    · refine ⟨?_, ?_, trivial⟩
      · exact xs4 rfl id fun cx => run_loadB (n := 2) rfl (by kernel_rfl) (by kernel_rfl) (cx.an 0) (cx.bi 3 rfl) (nle rfl) rfl
      · refine sv_any rfl rfl fun ρ β W X cx => ?_
        exact dv_store (n := 2) rfl (cx.ou 6) (cx.an 1) (by kernel_rfl) (by kernel_rfl) (by kernel_rfl) cx (cx.init 1 _ rfl) rfl (nle rfl) (by kernel_rfl) rfl rfl rfl (fun σ β' X' hs hb hx => hx)
    intro σ β X W22 hD hst22 fr hfr
    simp only [exq 7 ((dTn (hD 2 lq)))] at hst22
    clear hD; subst hfr; clear σ β X
    refine blk_normal (then_normal ?_)
    refine ⟨24 - ((m + 1)), by omega, ?_⟩
    have hp23 := hst22.pick [0, 6, 3, 5] (by decide) rfl
    exact ⟨((S : Int) :: seen), (m + 1), (vD (atF (pv n) (S : Int))).2.2.1, (vD (atF (pv n) (S : Int))).2.2.2.1, A61_21, c61_21, (ks ++ [((S, vD (atF (pv n) (S : Int))), A35_16, c35_16)]), [vp B9_16, .bool ((atF (pv n) (S : Int)).isSome), vp B6_3, vi n, vp B3_1, vi n, .bool (n == n), .bool (n == n), mb (n == n) (.map (some M11_2)), mb (n == n) (.pointer (some ⟨B6_3, 1, none⟩)), mb (n == n) (vi (S : Int)), mb (n == n) (.bool ((inS seen) (S : Int))), mb (n == n) (.bool (!((inS seen) (S : Int)))), .bool ((n == n) && (!((inS seen) (S : Int)))), .tuple #[.agg #[vi ((vD (atF (pv n) (S : Int))).1), vi ((vD (atF (pv n) (S : Int))).2.1), vi ((vD (atF (pv n) (S : Int))).2.2.1), vi ((vD (atF (pv n) (S : Int))).2.2.2.1), .bool ((vD (atF (pv n) (S : Int))).2.2.2.2.1), .slice A35_16 ((vD (atF (pv n) (S : Int))).2.2.2.2.2.length) c35_16], .bool ((atF (pv n) (S : Int)).isSome)], .iface tt (tv), .agg #[vi n, vi (S : Int)], .tuple #[.agg #[vi ((vD (atF (pv n) (S : Int))).1), vi ((vD (atF (pv n) (S : Int))).2.1), vi ((vD (atF (pv n) (S : Int))).2.2.1), vi ((vD (atF (pv n) (S : Int))).2.2.2.1), .bool ((vD (atF (pv n) (S : Int))).2.2.2.2.1), .slice A35_16 ((vD (atF (pv n) (S : Int))).2.2.2.2.2.length) c35_16], .bool ((atF (pv n) (S : Int)).isSome)], .agg #[vi ((vD (atF (pv n) (S : Int))).1), vi ((vD (atF (pv n) (S : Int))).2.1), vi ((vD (atF (pv n) (S : Int))).2.2.1), vi ((vD (atF (pv n) (S : Int))).2.2.2.1), .bool ((vD (atF (pv n) (S : Int))).2.2.2.2.1), .slice A35_16 ((vD (atF (pv n) (S : Int))).2.2.2.2.2.length) c35_16], .bool ((atF (pv n) (S : Int)).isSome), .bool ((atF (pv n) (S : Int)).isSome), .bool (!((atF (pv n) (S : Int)).isSome)), .bool (!((atF (pv n) (S : Int)).isSome)), mb (!(!((atF (pv n) (S : Int)).isSome))) (.bool hot), mb (!(!((atF (pv n) (S : Int)).isSome))) (.bool hot), mb ((!(!((atF (pv n) (S : Int)).isSome))) && (!hot)) (.slice FA m FC), mb ((!(!((atF (pv n) (S : Int)).isSome))) && (!hot)) (vi ((m : Int))), mb ((!(!((atF (pv n) (S : Int)).isSome))) && (!hot)) (.bool (decide (0 < (m : Int)))), mb (!(!((atF (pv n) (S : Int)).isSome))) (.bool (hot || (decide (0 < (m : Int))))), mb (!(!((atF (pv n) (S : Int)).isSome))) (.bool (hot || (decide (0 < (m : Int))))), mb ((!(!((atF (pv n) (S : Int)).isSome))) && (hot || (decide (0 < (m : Int))))) (.pointer (some ⟨B9_16, 4, none⟩)), mb ((!(!((atF (pv n) (S : Int)).isSome))) && (hot || (decide (0 < (m : Int))))) (.bool ((vD (atF (pv n) (S : Int))).2.2.2.2.1)), mb ((!(!((atF (pv n) (S : Int)).isSome))) && (hot || (decide (0 < (m : Int))))) (.bool (!((vD (atF (pv n) (S : Int))).2.2.2.2.1))), mb (!(!((atF (pv n) (S : Int)).isSome))) (.bool ((hot || (decide (0 < (m : Int)))) && (!((vD (atF (pv n) (S : Int))).2.2.2.2.1)))), .bool ((!((atF (pv n) (S : Int)).isSome)) || ((hot || (decide (0 < (m : Int)))) && (!((vD (atF (pv n) (S : Int))).2.2.2.2.1)))), .map (some M11_2), .pointer (some ⟨B6_3, 1, none⟩), vi (S : Int), .slice FA m FC, .agg #[vi n, vi (S : Int)], .agg #[vi ((vD (atF (pv n) (S : Int))).1), vi ((vD (atF (pv n) (S : Int))).2.1), vi ((vD (atF (pv n) (S : Int))).2.2.1), vi ((vD (atF (pv n) (S : Int))).2.2.2.1), .bool ((vD (atF (pv n) (S : Int))).2.2.2.2.1), .slice A35_16 ((vD (atF (pv n) (S : Int))).2.2.2.2.2.length) c35_16], .agg #[vi n, vi (S : Int), vi ((vD (atF (pv n) (S : Int))).1), vi ((vD (atF (pv n) (S : Int))).2.1), vi ((vD (atF (pv n) (S : Int))).2.2.1), vi ((vD (atF (pv n) (S : Int))).2.2.2.1), .bool ((vD (atF (pv n) (S : Int))).2.2.2.2.1), .slice A35_16 ((vD (atF (pv n) (S : Int))).2.2.2.2.2.length) c35_16], .slice ((some ⟨B60_21, 0, none⟩)) 1 1, .slice A61_21 (m + 1) c61_21, .pointer (some ⟨B9_16, 2, none⟩), .agg #[vi ((vD (atF (pv n) (S : Int))).2.2.1), vi ((vD (atF (pv n) (S : Int))).2.2.2.1)]], by rw [List.length_cons, hsm], by rw [List.length_append, hkm]; rfl, List.nodup_cons.2 ⟨hns, hsn⟩, hsr2, by rw [← hch, chR_go (by omega) hs15 (by rw [hsm]; exact hs18), List.map_append, List.append_assoc, show 24 - m - 1 = 24 - (m + 1) by omega]; rfl, ⟨by omega, by omega⟩, rfl, rfl, hp23⟩
  have hs15p := hs15
  simp only [zB] at hs15p
  refine wp_cond_false (show Act.eval _ _ = .bool false from (congrArg Value.bool hs15)) (wp_exit (then_exit (then_exit (blk_eq (then_normal (wp_seq (wp_region_P [0, 1] [.k 64 (.slice FA m FC), .k 4 (.slice FA m FC)] [(4, 1, 1, 5), (59, 0, 1, 60)] hst14 fun W24 hst24 => ?_)))))))
  refine then_normal (wp_ret ?_)
  refine bodyPost_ret (v := .slice FA m FC) (results_tmp Tryd.results25 rfl) rfl ?_
  rw [chR_no hs15, List.append_nil] at hch
  have hlm : m = T.length := by rw [← hch, List.length_map, hkm]
  have ho_ := hst24.own' 3 rfl
  unfold LPost
  rw [← hlm]
  exact ⟨_, _, ks, hch, rfl, ho_, hst24.ext⟩
end
end Go.Proofs.YtjnplglnnamfdaaDoor

/- The clock's iterator; Snap and Below, which range over it. -/
import Derived.OwnWalkIn
import Derived.TacticsInMore
import Derived.LoopIn
import Derived.WalkKit
import Derived.Test.YtfjpglohcppjeaaDoorVr
import Derived.Test.YtfjpglohcppjeaaDoorMp
import Derived.Test.YtfjpglohcppjeaaDoorCl
namespace Go.Proofs.YtfjpglohcppjeaaDoor
open Go.RowKit
set_option linter.unusedVariables false
set_option linter.unusedSimpArgs false

theorem Ext.grownN {w w' : World} (h : Ext w w') : w.grownBy w' none := ⟨h.out.os, h.out.tape, h.out.output, h.size, fun k hk _ => h.out.block k hk⟩
/-- an id on the ring -/
abbrev RX := { x : Int // onF x = true }
def rAt (lo : Int) (k : Nat) : Int := 3 + (lo - 3 + k) % 125
theorem rAt_on (lo : Int) (k : Nat) : onF (rAt lo k) = true := onF_iff.2 (by unfold rAt; omega)
def rX (lo : Int) (k : Nat) : RX := ⟨rAt lo k, rAt_on lo k⟩
theorem rAt_zero {lo : Int} (h : onF lo = true) : rAt lo 0 = lo := by have := onF_iff.1 h; unfold rAt; omega
theorem rAt_next (lo : Int) (k : Nat) : nxF (rAt lo k) = rAt lo (k + 1) := by unfold nxF rAt; omega
def stepN (lo nx : Int) : Nat := (stepsF lo nx).toNat
theorem stepN_at {lo nx : Int} {k : Nat} (hlo : onF lo = true) (hnx : onF nx = true) (hk : k ≤ stepN lo nx) : rAt lo k = nx ↔ k = stepN lo nx := by
  have h1 := onF_iff.1 hlo; have h2 := onF_iff.1 hnx
  unfold stepN stepsF at hk ⊢
  unfold rAt
  omega
def ringL (lo nx : Int) : List RX := (List.range (stepN lo nx)).map (rX lo)
theorem ring_take (lo nx : Int) (k : Nat) (hk : k < stepN lo nx) : (ringL lo nx).take k ++ [rX lo k] = (ringL lo nx).take (k + 1) := by
  rw [List.take_add_one]
  congr 1
  simp [ringL, hk]
theorem ring_len (lo nx : Int) : (ringL lo nx).length = stepN lo nx := by simp [ringL]
def togo (nx : Int) (v : Value) : Nat := match v with
  | .int _ x => (stepsF x nx).toNat
  | _ => 0
theorem togo_at {lo nx : Int} {k : Nat} (hlo : onF lo = true) (hnx : onF nx = true) (hk : k < stepN lo nx) : togo nx (.int .i64 (rAt lo (k + 1))) < togo nx (.int .i64 (rAt lo k)) := by
  have h1 := onF_iff.1 hlo; have h2 := onF_iff.1 hnx
  unfold stepN stepsF at hk
  simp only [togo]
  unfold stepsF rAt
  omega
set_option maxRecDepth 100000 in
set_option maxHeartbeats 2000000 in
theorem all1_in (l Bn cb : Nat) (R : List Nat) (lo nx : Int) (K : List Int) (hlo : onF lo = true) (hnx : onF nx = true) (J Jx : List RX → World → Prop) (hJ : ∀ s A B, J s A → Ext A B → J s B)
    (hY : ∀ pre x W, J pre W → pre.length < stepN lo nx → YieldAt Fence.wide 1 Tryd.prog l #[.int .i64 x.1] W fun e W' =>
      (e = .returned (.bool true) ∧ J (pre ++ [x]) W' ∧ KpR R W W') ∨ (e = .returned (.bool false) ∧ Jx (pre ++ [x]) W'))
    (hBn : Bn ∈ R) (hcb : cb ∈ R)
    (W : World) (hb : Blk W Bn 81 #[.pointer (some ⟨cb, 0, none⟩)]) (hc : Blk W cb 133 (clockL lo nx K).toArray) (h0 : J [] W) :
    CallsIn Fence.wide 2 Tryd.prog 117 #[.func (.yield l) #[] #[], .pointer (some ⟨Bn, 0, none⟩)] W fun e W' => (∃ v, e = .returned v) ∧
      ((∃ ys, ys = ringL lo nx ∧ J ys W') ∨ (∃ pre, pre <+: ringL lo nx ∧ Jx pre W')) := by
  refine callsIn_of_wp Tryd.func117 rfl trivial ?_ rfl
  simp only [Tryd.ntmps117, List.size_toArray, List.length_cons, List.length_nil, Nat.reduceAdd, Nat.reduceSub, Array.replicate_succ, Array.replicate_zero, List.push_toArray, List.append_toArray, List.nil_append, List.cons_append]
  have hp : W.cell? ⟨Bn, 0, none⟩ = some (.pointer (some ⟨cb, 0, none⟩)) := hb.cell 0
  have hc0 : W.cell? ⟨cb, 0, none⟩ = some (.int .i64 lo) := (hc.cell 0).trans rfl
  gi_wp2
  gi_loopw [3] (fun p wr => ∃ k : Nat, p = .int .i64 (rAt lo k) ∧ k ≤ stepN lo nx ∧ Blk wr Bn 81 #[.pointer (some ⟨cb, 0, none⟩)] ∧ Blk wr cb 133 (clockL lo nx K).toArray ∧ J ((ringL lo nx).take k) wr)
    (fun p wr => togo nx p)
  case atStart =>
    exact ⟨0, by rw [rAt_zero hlo], Nat.zero_le _, hb, hc, by simpa using h0⟩
  case round =>
    clear hp hc0
    obtain ⟨k, rfl, hk, hb, hc, hJs⟩ := hrel
    have hp : wr.cell? ⟨Bn, 0, none⟩ = some (.pointer (some ⟨cb, 0, none⟩)) := hb.cell 0
    have hc1 : wr.cell? ⟨cb, 1, none⟩ = some (.int .i64 nx) := (hc.cell 1).trans rfl
    rcases Nat.lt_or_ge k (stepN lo nx) with hlt | hge
    · have hne : ((rAt lo k != nx) = true) := by
        have := mt (stepN_at hlo hnx hk).1 (by omega)
        simpa using this
      obtain ⟨fn, tmps, assign, body, hy, hR⟩ := hY ((ringL lo nx).take k) (rX lo k) wr hJs (by rw [List.length_take, ring_len]; omega)
      have hy' : (Instr.yield l #[.int .i64 (rAt lo k)]).run Tryd.prog wr = .ok (.round l fn tmps assign body) wr := hy
      clear hy
      have hx2 := rAt_on lo k
      have htg := togo_at hlo hnx hlt
      rw [ring_take lo nx k hlt] at hR
      rw [← rAt_next] at htg
      obtain ⟨x, hx⟩ : ∃ z, rAt lo k = z := ⟨_, rfl⟩
      rw [hx] at hne hx2 htg hy' ⊢
      gi_wp2
      refine hR.mono ?_
      rintro e W3 (⟨rfl, hJ3, hk3⟩ | ⟨rfl, hJx3⟩)
      · gi_wp2_with (refine ⟨trivial, ?_⟩; gi_at_call 84; refine (callsIn_wide.2 (cnext_any x _ hx2)).mono ?_; rintro e w' ⟨rfl, hxt⟩)
        go_roundw
        case rel => exact ⟨k + 1, by rw [← rAt_next, hx], hlt, (hk3.blk hBn hb).ext hxt, (hk3.blk hcb hc).ext hxt, hJ _ _ _ hJ3 hxt⟩
        case measure => exact htg
      · gi_wp2
        refine bodyPost_ret (results_none rfl _ _ _) rfl ?_
        exact ⟨⟨_, rfl⟩, .inr ⟨_, List.take_prefix _ _, hJx3⟩⟩
    · have he : k = stepN lo nx := by omega
      have hxn : rAt lo k = nx := (stepN_at hlo hnx hk).2 he
      rw [hxn]
      rw [List.take_of_length_le (by rw [ring_len]; omega)] at hJs
      gi_wp2
      go_end0
      exact ⟨⟨_, rfl⟩, .inl ⟨_, rfl, hJs⟩⟩
theorem all_stops (Bn cb : Nat) (R : List Nat) (lo nx : Int) (K : List Int) (w : World) (hlo : onF lo = true) (hnx : onF nx = true) (hBn : Bn ∈ R) (hcb : cb ∈ R) (hb : Blk w Bn 81 #[.pointer (some ⟨cb, 0, none⟩)]) (hc : Blk w cb 133 (clockL lo nx K).toArray) :
    SeqStopsK Fence.wide 2 Tryd.prog 117 #[.pointer (some ⟨Bn, 0, none⟩)] (fun x : RX => #[.int .i64 x.1]) (KpR R) (fun xs => xs = ringL lo nx) (fun pre => pre <+: ringL lo nx) (stepN lo nx) w := fun l J Jx W hW hJ hJx hY h0 =>
  all1_in l Bn cb R lo nx K hlo hnx J Jx (fun s A B h hx => hJ s A B none h hx.grownN (fun r e => by cases e)) hY hBn hcb W (hb.ext hW) (hc.ext hW) h0
/-- the ids that have not ended -/
def liveL (K : List Int) (l : List RX) : List Int := (l.filter fun x => liveF K x.1).map (·.1)
theorem live_hit {K : List Int} {l : List RX} {x : RX} (h : liveF K x.1 = true) : liveL K (l ++ [x]) = liveL K l ++ [x.1] := by simp [liveL, h]
theorem live_miss {K : List Int} {l : List RX} {x : RX} (h : liveF K x.1 = false) : liveL K (l ++ [x]) = liveL K l := by simp [liveL, h]
theorem live_le (K : List Int) (l : List RX) : (liveL K l).length ≤ l.length := by simp only [liveL, List.length_map]; exact List.length_filter_le _ _
def oneB (x : Int) : Int → Bool := fun y => if y = x then true else (fun _ => false) y
theorem oneB_0 {x : Int} (h : 3 ≤ x) : oneB x 0 = false := by unfold oneB; rw [if_neg (by omega)]
def pcap : Value → Nat
  | .func _ _ cs => pb (cs.getD 0 undef)
  | _ => 0
def AllPost (cb : Nat) (w : World) (e : Ending) (w' : World) : Prop := ∃ B, e = .returned (.func (.func 117) #[] #[.pointer (some ⟨B, 0, none⟩)]) ∧ Blk w' B 81 #[.pointer (some ⟨cb, 0, none⟩)] ∧ w.heap.size ≤ B ∧ Ext w w'
def SnapPost (nx : Int) (l : List Int) (w : World) (e : Ending) (w' : World) : Prop := ∃ A c, e = .returned (.agg #[.int .i64 nx, .slice A l.length c]) ∧ w'.ownsRow w.heap.size 3 1 (.slice A l.length c) l.length (l.map (Value.int .i64)) ∧ Ext w w'
theorem snap_len (lo nx : Int) (K : List Int) : (liveL K (ringL lo nx)).length ≤ 124 := by
  refine Nat.le_trans (live_le K _) ?_
  rw [ring_len]; unfold stepN stepsF; omega
set_option maxRecDepth 100000 in
set_option maxHeartbeats 2000000 in
theorem call_any (cb : Nat) (w : World) :
    Calls Tryd.prog 80 #[.pointer (some ⟨cb, 0, none⟩)] w (AllPost cb w) := by
  go_enter Tryd.func80, Tryd.ntmps80
  have hst0 := St.start w
  refine wp_seq ?_
  refine wp_region_T [0, 0] [] [[0]] [] [.a 1, .k 2 (Go.Value.nilFunc)] (fun ix σ β X => match ix with | 0 => σ 1 = .pointer (some ⟨(pb (β 1)), 0, none⟩) ∧ X 0 = eB (pb (β 1)) 81 #[.pointer (some ⟨cb, 0, none⟩)] | _ => True) [0] [0] [(1, 0, 2, 3)] hst0 ?_ ?_ ?_
  · exact fun ix _ _ _ _ _ _ hs hb hx h => match ix, h with
    | 0, h => by dsimp only at h ⊢; rw [← hs 1 rfl, ← hb 1 rfl, ← hx 0 rfl]; exact h
    | _ + 1, _ => trivial
  · refine ⟨?_, trivial⟩
    · refine sv_any rfl rfl fun ρ β W X cx => ?_
      exact dv_box (cs := #[.pointer (some ⟨cb, 0, none⟩)]) rfl (cx.out 0 rfl) rfl rfl rfl (fun σ β' X' hs hb hv hx => ⟨hv, hx⟩)
  intro σ β X W1 hD hX hst1 fr hfr
  obtain ⟨B1_1, hu_B1_1⟩ : ∃ z, pb (β 1) = z := ⟨_, rfl⟩
  simp only [zM, exq 0 ((dTn (hD 0 lq)).2), hu_B1_1] at hst1
  dsimp only [mgT, vals, List.take, List.drop, List.cons_append, List.nil_append] at hfr
  simp only [ed 1 ((dTn (hD 0 lq)).1), hu_B1_1] at hfr
  clear hX hD hu_B1_1; subst hfr; clear σ β X
  refine then_normal ?_
  refine wp_seq ?_
  refine wp_region_T [0, 1] [] [] [] [.c 3 (.func (.func 117) #[] #[.pointer (some ⟨B1_1, 0, none⟩)]), .k 2 (.func (.func 117) #[] #[.pointer (some ⟨B1_1, 0, none⟩)])] (fun _ _ _ _ => True) [0] [0] [(2, 1, 1, 3), (0, 0, 1, 1)] hst1 ?_ ?_ ?_
  · exact fun _ _ _ _ _ _ _ _ _ _ h => h
  · refine ⟨?_, trivial⟩
    · exact sv0 rfl rfl rfl rfl rfl (fun _ _ _ h => h) fun ρ β W X cx => by
        have fF1 : ρ (.tmp 1) = .pointer (some ⟨B1_1, 0, none⟩) := (cx.out 1 rfl)
        simp [go_sem, Instr.makeFunc, fF1]
  intro σ β X W2 hD hX hst2 fr hfr
  simp only [zM, exq 0 (hX 0 _ rfl)] at hst2
  dsimp only [mgT, vals, List.take, List.drop, List.cons_append, List.nil_append] at hfr
  clear hX hD; subst hfr; clear σ β X
  refine then_normal ?_
  refine wp_ret ?_
  refine bodyPost_ret (v := .func (.func 117) #[] #[.pointer (some ⟨B1_1, 0, none⟩)]) (results_tmp Tryd.results80 rfl) rfl ?_
  exact ⟨_, rfl, hst2.blk 0 rfl, ((hst2.get 0 rfl).own _ (by simp [eB])).1.resolve_left (by simp), hst2.ext⟩

set_option maxRecDepth 100000 in
set_option maxHeartbeats 2000000 in
theorem csnap_any (cb : Nat) (lo nx : Int) (K : List Int) (w : World) (hb : Blk w cb 133 (clockL lo nx K).toArray) (hlo : onF lo = true) (hnx : onF nx = true) (hK : K.length = 128) :
    Calls Tryd.prog 41 #[.pointer (some ⟨cb, 0, none⟩)] w (SnapPost nx (liveL K (ringL lo nx)) w) := by
  have st0 := St.lent1 hb
  have hal := clk_arr lo nx K
  refine (callsIn_wide (n := 3)).1 (callsIn_of_wp_marks Tryd.func41 rfl trivial (wpIn_wide.2 ?_) rfl)
  simp only [Tryd.ntmps41, List.size_toArray, List.length_cons, List.length_nil, Nat.reduceAdd, Nat.reduceSub, Array.replicate_succ, Array.replicate_zero, List.push_toArray, List.append_toArray, List.nil_append, List.cons_append]
  have hst0 := st0
  refine wp_seq ?_
  refine wp_region_T [0, 0] [] [[1], [2]] [] [.a 1, .a 2] (fun ix σ β X => match ix with | 0 => σ 1 = .pointer (some ⟨(pb (β 1)), 0, none⟩) ∧ X 1 = eB (pb (β 1)) 81 #[.pointer (some ⟨cb, 0, none⟩)] | 1 => σ 2 = .pointer (some ⟨(pb (β 2)), 0, none⟩) ∧ X 2 = eB (pb (β 2)) 41 #[.int .i64 0, .slice none 0 0] | _ => True) [0, 1, 2] [0, 1] [(1, 0, 2, 3)] hst0 ?_ ?_ ?_
  · exact fun ix _ _ _ _ _ _ hs hb hx h => match ix, h with
    | 0, h => by dsimp only at h ⊢; rw [← hs 1 rfl, ← hb 1 rfl, ← hx 1 rfl]; exact h
    | 1, h => by dsimp only at h ⊢; rw [← hs 2 rfl, ← hb 2 rfl, ← hx 2 rfl]; exact h
    | _ + 2, _ => trivial
  · refine ⟨?_, ?_, trivial⟩
    · refine sv_any rfl rfl fun ρ β W X cx => ?_
      exact dv_box (cs := #[.pointer (some ⟨cb, 0, none⟩)]) rfl (cx.out 0 rfl) rfl rfl rfl (fun σ β' X' hs hb hv hx => ⟨hv, hx⟩)
    · refine sv_any rfl rfl fun ρ β W X cx => ?_
      exact dv_alloc (cs := #[.int .i64 0, .slice none 0 0]) rfl (by kernel_rfl) rfl rfl (fun σ β' X' hs hb hv hx => ⟨hv, hx⟩)
  intro σ β X W1 hD hX hst1 fr hfr
  obtain ⟨B1_1, hu_B1_1⟩ : ∃ z, pb (β 1) = z := ⟨_, rfl⟩
  obtain ⟨B2_1, hu_B2_1⟩ : ∃ z, pb (β 2) = z := ⟨_, rfl⟩
  simp only [zM, exq 0 (hX 0 _ rfl), exq 1 ((dTn (hD 0 lq)).2), exq 2 ((dTn (hD 1 lq)).2), hu_B1_1, hu_B2_1] at hst1
  dsimp only [mgT, vals, List.take, List.drop, List.cons_append, List.nil_append] at hfr
  simp only [ed 1 ((dTn (hD 0 lq)).1), ed 2 ((dTn (hD 1 lq)).1), hu_B1_1, hu_B2_1] at hfr
  clear hX hD hu_B1_1 hu_B2_1; subst hfr; clear σ β X
  refine then_normal ?_
  refine wp_seq ?_
  refine wp_seq ?_
  refine wp_region_T [0, 1] [[1]] [] [] [.c 5 (.pointer (some ⟨cb, 0, none⟩)), .c 6 (.bool false)] (fun _ _ _ _ => True) [0, 1, 2] [0, 1] [(5, 0, 2, 7)] hst1 ?_ ?_ ?_
  · exact fun _ _ _ _ _ _ _ _ _ _ h => h
  · refine ⟨?_, ?_, trivial⟩
    · exact s4 rfl (fun _ _ _ h => h) fun cx => run_load1 rfl (by kernel_rfl) (cx.out 1 rfl) ((cx.blk (cx.init 1 _ rfl) rfl).cell 0)
    · exact sv0 rfl rfl rfl rfl rfl (fun _ _ _ h => h) fun ρ β W X cx => by
        have fF5 : ρ (.tmp 5) = .pointer (some ⟨cb, 0, none⟩) := (cx.anc 0 rfl)
        simp [go_sem, cx.sees.const, fF5]
  intro σ β X W2 hD hX hst2 fr hfr
  simp only [zM, exq 0 (hX 0 _ rfl), exq 1 (hX 1 _ rfl), exq 2 (hX 2 _ rfl)] at hst2
  dsimp only [mgT, vals, List.take, List.drop, List.cons_append, List.nil_append] at hfr
  clear hX hD; subst hfr; clear σ β X
  refine then_normal ?_
  refine wp_cond_false (show Act.eval _ _ = .bool false from rfl) ?_
  refine wp_skip ?_
  refine then_normal ?_
  refine wp_seq ?_
  refine wp_region_T [0, 1, 3, 7, 15, 0, 63] [[1], [], [], [0], [], [], [3]] [[], [], [], [], [], [3], [4]] [[], [], [], [], [], [], [3]] [.c 8 (.pointer (some ⟨cb, 0, none⟩)), .k 9 (.pointer (some ⟨cb, 0, none⟩)), .k 10 (.pointer (some ⟨cb, 1, none⟩)), .c 11 (.int .i64 nx), .k 12 (.agg #[.int .i64 nx, .slice none 0 0]), .a 3, .n] (fun ix σ β X => match ix with | 0 => True | 1 => True | 2 => True | 3 => True | 4 => True | 5 => σ 3 = .pointer (some ⟨(pb (β 3)), 0, none⟩) ∧ X 3 = eB (pb (β 3)) 41 #[.int .i64 0, .slice none 0 0] | 6 => X 4 = eB (pb (β 3)) 41 #[.int .i64 nx, .slice none 0 0] | _ => True) [0, 1, 2, 4] [0, 3, 5, 6] [(3, 5, 1, 4), (4, 0, 5, 9)] hst2 ?_ ?_ ?_
  · exact fun ix _ _ _ _ _ _ hs hb hx h => match ix, h with
    | 5, h => by dsimp only at h ⊢; rw [← hs 3 rfl, ← hb 3 rfl, ← hx 3 rfl]; exact h
    | 6, h => by dsimp only at h ⊢; rw [← hb 3 rfl, ← hx 4 rfl]; exact h
    | 0, _ | 1, _ | 2, _ | 3, _ | 4, _ | _ + 7, _ => trivial
  · refine ⟨?_, ?_, ?_, ?_, trivial⟩
    · exact s4 rfl (fun _ _ _ h => h) fun cx => run_load1 rfl (by kernel_rfl) (cx.out 1 rfl) ((cx.blk (cx.init 1 _ rfl) rfl).cell 0)
    · exact s4 rfl (fun _ _ _ h => h) fun cx => run_load1 rfl (by kernel_rfl) (cx.anc 2 rfl) (((cx.blk (cx.init 0 _ rfl) rfl).cell 1).trans ((List.getElem?_toArray ..).trans rfl))
    · refine sv_any rfl rfl fun ρ β W X cx => ?_
      exact dv_alloc (cs := #[.int .i64 0, .slice none 0 0]) rfl (by kernel_rfl) rfl rfl (fun σ β' X' hs hb hv hx => ⟨hv, hx⟩)
    · refine sv_any rfl rfl fun ρ β W X cx => ?_
      exact dv_store (n := 2) rfl (dTn (cx.anc 5 rfl)).1 (cx.anc 4 rfl) (by kernel_rfl) (by kernel_rfl) (by kernel_rfl) cx (dTn (cx.anc 5 rfl)).2 rfl (Nat.le_of_ble_eq_true rfl) (by kernel_rfl) rfl rfl rfl (fun σ β' X' hs hb hx => by rw [hb 3]; exact hx)
  intro σ β X W3 hD hX hst3 fr hfr
  obtain ⟨B3_3, hu_B3_3⟩ : ∃ z, pb (β 3) = z := ⟨_, rfl⟩
  simp only [zM, exq 0 (hX 0 _ rfl), exq 1 (hX 1 _ rfl), exq 2 (hX 2 _ rfl), exq 4 ((dTn (hD 6 lq))), hu_B3_3] at hst3
  dsimp only [mgT, vals, List.take, List.drop, List.cons_append, List.nil_append] at hfr
  simp only [ed 3 ((dTn (hD 5 lq)).1), hu_B3_3] at hfr
  clear hX hD hu_B3_3; subst hfr; clear σ β X
  refine then_normal ?_
  refine wp_seq ?_
  refine wp_seq ?_
  refine wp_region_T [0, 1] [[1]] [[], [4]] [] [.c 13 (.pointer (some ⟨cb, 0, none⟩)), .a 14] (fun ix σ β X => match ix with | 0 => True | 1 => σ 14 = .func (.func 117) #[] #[.pointer (some ⟨(pcap (β 14)), 0, none⟩)] ∧ X 4 = eB (pcap (β 14)) 81 #[.pointer (some ⟨cb, 0, none⟩)] | _ => True) [0, 1, 2, 3, 4] [0, 1] [(13, 0, 2, 15)] hst3 ?_ ?_ ?_
  · exact fun ix _ _ _ _ _ _ hs hb hx h => match ix, h with
    | 1, h => by dsimp only at h ⊢; rw [← hs 14 rfl, ← hb 14 rfl, ← hx 4 rfl]; exact h
    | 0, _ | _ + 2, _ => trivial
  · refine ⟨?_, ?_, trivial⟩
    · exact s4 rfl (fun _ _ _ h => h) fun cx => run_load1 rfl (by kernel_rfl) (cx.out 1 rfl) ((cx.blk (cx.init 1 _ rfl) rfl).cell 0)
    · refine sv_any rfl rfl fun ρ β W X cx => ?_
      refine DoesU.call (run_callF (args := #[.pointer (some ⟨cb, 0, none⟩)]) rfl cx.sees rfl (by kernel_rfl) (map1 (cx.anc 0 rfl))) ?_
      refine (call_any cb _).mono ?_
      rintro e W1 ⟨B4, rfl, hb4, hw4, hx⟩
      refine ⟨_, rfl, post_call [eB B4 81 #[.pointer (some ⟨cb, 0, none⟩)]] rfl rfl hx (one_new ⟨hb4, eB_loc _ _ _, fun k hk => by simp [eB] at hk; subst hk; exact ⟨hw4, hb4.lt⟩⟩) (List.pairwise_singleton _ _) (fun σ β' X' hs hb hv hN => ?_)⟩
      have hv1 := (hv 14 rfl).1; have hv2 := (hv 14 rfl).2
      exact ⟨hv1.trans (by rw [hv2]; rfl), (by rw [hv2]; exact (List.cons.inj hN).1)⟩
  intro σ β X W4 hD hX hst4 fr hfr
  obtain ⟨B14_4, hu_B14_4⟩ : ∃ z, pcap (β 14) = z := ⟨_, rfl⟩
  simp only [zM, exq 0 (hX 0 _ rfl), exq 1 (hX 1 _ rfl), exq 2 (hX 2 _ rfl), exq 3 (hX 3 _ rfl), exq 4 ((dTn (hD 1 lq)).2), hu_B14_4] at hst4
  dsimp only [mgT, vals, List.take, List.drop, List.cons_append, List.nil_append] at hfr
  simp only [ed 14 ((dTn (hD 1 lq)).1), hu_B14_4] at hfr
  clear hX hD hu_B14_4; subst hfr; clear σ β X
  refine then_normal ?_
  refine wp_block ?_
  have hn5 := St.nilrow hst4 3
  have hp7 := hn5.pick [0, 4, 1, 2, 3, 5] (by decide) rfl
  refine wp_rangeSt [cb, B14_4] (α := RX) (XS := ringL lo nx) (N := stepN lo nx) (encs := fun xx => #[.int .i64 xx.1]) (L0 := [eB cb 133 (clockL lo nx K).toArray, eB B14_4 81 #[.pointer (some ⟨cb, 0, none⟩)], eB B1_1 81 #[.pointer (some ⟨cb, 0, none⟩)], eB B2_1 41 #[.int .i64 0, .slice none 0 0], eB B3_3 41 #[.int .i64 nx, .slice none 0 0], eO 3 1 (.slice none 0 0) 0 (([]).map (Value.int .i64))]) hp7 rfl (enters_of Tryd.func117 (by kernel_rfl) rfl) (lt_cons (hp7.blk 0 rfl).lt (lt_cons (hp7.blk 1 rfl).lt (fun k hk => by cases hk))) (all_stops _ _ _ lo nx K _ hlo hnx (by simp) (by simp) (hp7.blk 1 rfl) (hp7.blk 0 rfl)) (fun _ => rfl) (fun pre L => ∃ LA : Option Addr, ∃ LC : Nat, ∃ zs : List Int, ∃ n : Nat, zs = liveL K pre ∧ n = zs.length ∧ L = [eB cb 133 (clockL lo nx K).toArray, eB B14_4 81 #[.pointer (some ⟨cb, 0, none⟩)], eB B1_1 81 #[.pointer (some ⟨cb, 0, none⟩)], eB B2_1 41 #[.int .i64 0, .slice none 0 0], eB B3_3 41 #[.int .i64 nx, .slice LA n LC], eO 3 1 (.slice LA n LC) n (zs.map (Value.int .i64))]) ?_ ?_ (fun xx => ⟨#[.pointer (some ⟨cb, 0, none⟩), .pointer (some ⟨B1_1, 0, none⟩), .pointer (some ⟨B2_1, 0, none⟩), .pointer (some ⟨B3_3, 0, none⟩), .int .i64 xx.1, .pointer (some ⟨cb, 0, none⟩), .bool false, undef, .pointer (some ⟨cb, 0, none⟩), .pointer (some ⟨cb, 0, none⟩), .pointer (some ⟨cb, 1, none⟩), .int .i64 nx, .agg #[.int .i64 nx, .slice none 0 0], .pointer (some ⟨cb, 0, none⟩), .func (.func 117) #[] #[.pointer (some ⟨B14_4, 0, none⟩)], .int .i64 xx.1, undef, undef, undef, undef, undef, undef, undef, undef, undef, undef], []⟩) ?_ ?_ ?_
  · rintro pre L ⟨LA, LC, zs, n, hz, hn, rfl⟩; exact (CellsB.cons (eB_cells _ _ _) (CellsB.cons (eB_cells _ _ _) (CellsB.cons (eB_cells _ _ _) (CellsB.cons (eB_cells _ _ _) (CellsB.cons (eB_cells _ _ _) (CellsB.cons (eO_cells _ _ _ _ _) CellsB.nil))))))
  · exact ⟨none, 0, [], 0, rfl, rfl, rfl⟩
  · intro l x W K hK
    exact rnd_assign rfl rfl rfl hK (by kernel_rfl)
  · rintro rl pre xx W6 L6 ⟨LA, LC, zs, n, hz, hn, rfl⟩ hlen6 hup6 hst6
    have hxx := onF_iff.1 xx.2
    have hn124 : n ≤ 124 := by rw [hn, hz]; refine Nat.le_trans (live_le K pre) ?_; have h_ : stepN lo nx ≤ 124 := (by unfold stepN stepsF; omega); omega
    refine wpIn_block ?_
    refine wpIn_seq ?_
    refine wpIn_region_T [0, 0, 3] [[2], [], [0]] [] [] [.c 16 (.pointer (some ⟨cb, 0, none⟩)), .k 17 (.int .i64 xx.1), .c 18 (.bool (liveF K xx.1))] (fun _ _ _ _ => True) [0, 1, 2, 3, 4, 5] [0, 2] [(16, 0, 3, 19)] hst6 ?_ ?_ ?_
    · exact fun _ _ _ _ _ _ _ _ _ _ h => h
    · refine ⟨?_, ?_, trivial⟩
      · exact s4 rfl (fun _ _ _ h => h) fun cx => run_load1 rfl (by kernel_rfl) (cx.out 1 rfl) ((cx.blk (cx.init 2 _ rfl) rfl).cell 0)
      · exact sv_call rfl rfl rfl rfl rfl (fun _ _ _ h => h) fun ρ β W X cx => ⟨_, _, run_callF (args := #[.pointer (some ⟨cb, 0, none⟩), .int .i64 xx.1]) rfl cx.sees rfl (by kernel_rfl) (map2 (cx.anc 0 rfl) (cx.anc 1 rfl)), clive_any _ lo nx K xx.1 _ (cx.blk (cx.init 0 _ rfl) rfl) hK (by omega)⟩
    intro σ β X W8 hD hX hst8 fr hfr
    simp only [zM, exq 0 (hX 0 _ rfl), exq 1 (hX 1 _ rfl), exq 2 (hX 2 _ rfl), exq 3 (hX 3 _ rfl), exq 4 (hX 4 _ rfl), exq 5 (hX 5 _ rfl)] at hst8
    dsimp only [mgT, vals, List.take, List.drop, List.cons_append, List.nil_append] at hfr
    clear hX hD; subst hfr; clear σ β X
    refine then_normal ?_
    rcases Bool.eq_false_or_eq_true (liveF K xx.1) with hs9 | hs9
    · skip
      refine wpIn_cond_true (show Act.eval _ _ = .bool true from (congrArg Value.bool hs9)) ?_
      refine wpIn_region_T [0, 1, 0, 4, 15, 31, 63] [[], [4], [], [], [6, 5], [], [4]] [[], [], [], [6], [7], [], [8]] [[], [], [], [], [5], [], [4]] [.k 19 (.pointer (some ⟨B3_3, 1, none⟩)), .c 20 (.slice LA n LC), .k 21 (.int .i64 xx.1), .a 22, .a 23, .k 24 (.pointer (some ⟨B3_3, 1, none⟩)), .n] (fun ix σ β X => match ix with | 0 => True | 1 => True | 2 => True | 3 => σ 22 = .slice (sA (β 22)) 1 1 ∧ X 6 = eO 3 1 (.slice (sA (β 22)) 1 1) 1 ([.int .i64 xx.1]) | 4 => σ 23 = .slice (sA (β 23)) (n + 1) (sC (β 23)) ∧ X 7 = eO 3 1 (.slice (sA (β 23)) (n + 1) (sC (β 23))) (n + 1) ((zs ++ [xx.1]).map (Value.int .i64)) | 5 => True | 6 => X 8 = eB B3_3 41 #[.int .i64 nx, .slice (sA (β 23)) (n + 1) (sC (β 23))] | _ => True) [0, 1, 2, 3, 6, 7, 8] [1, 3, 4, 6] [(19, 0, 6, 25)] hst8 ?_ ?_ ?_
      · exact fun ix _ _ _ _ _ _ hs hb hx h => match ix, h with
        | 3, h => by dsimp only at h ⊢; rw [← hs 22 rfl, ← hb 22 rfl, ← hx 6 rfl]; exact h
        | 4, h => by dsimp only at h ⊢; rw [← hs 23 rfl, ← hb 23 rfl, ← hx 7 rfl]; exact h
        | 6, h => by dsimp only at h ⊢; rw [← hb 23 rfl, ← hx 8 rfl]; exact h
        | 0, _ | 1, _ | 2, _ | 5, _ | _ + 7, _ => trivial
      · refine ⟨?_, ?_, ?_, ?_, trivial⟩
        · exact s4 rfl (fun _ _ _ h => h) fun cx => run_load1 rfl (by kernel_rfl) (cx.anc 0 rfl) ((cx.blk (cx.init 4 _ rfl) rfl).cell 1)
        · refine sv_any rfl rfl fun ρ β W X cx => ?_
          have fF21 : ρ (.tmp 21) = .int .i64 xx.1 := (cx.anc 2 rfl)
          exact dv_lit (e := 3) (xs := [.int .i64 xx.1]) rfl (by simp [go_sem, fF21]) rfl (by decide) rfl rfl (fun σ β' X' hs hb hv hx => ⟨hv, hx⟩)
        · refine sv_any rfl rfl fun ρ β W X cx => ?_
          obtain ⟨i0, hi0, hz0, hz1, hz2⟩ := info_parts Tryd.infoInt
          refine dv_append (n := n) (m := 1) (nm := n + 1) (xs := zs.map (Value.int .i64)) (news := [.int .i64 xx.1]) (xs' := (zs ++ [xx.1]).map (Value.int .i64)) rfl (ty := 28) rfl (by kernel_rfl) hi0 hz0 hz1 hz2 rfl (cx.anc 1 rfl) cx (cx.init 5 _ rfl) rfl (dTn (cx.anc 3 rfl)).1 (by first | (simp; done) | (simp; omega)) (At.of_own (cx.row (dTn (cx.anc 3 rfl)).2 rfl)) (by simp [Value.oneCell']) (by simp only [maxLen]; omega) (by omega) rfl rfl rfl (by omega) (by simp) (fun σ β' X' hs hb hv hx => ?_)
          exact ⟨hv, hx⟩
        · refine sv_any rfl rfl fun ρ β W X cx => ?_
          exact dv_store (n := 1) rfl (cx.anc 5 rfl) (dTn (cx.anc 4 rfl)).1 (by kernel_rfl) (by kernel_rfl) (by kernel_rfl) cx (cx.init 4 _ rfl) rfl (Nat.le_of_ble_eq_true rfl) (by kernel_rfl) rfl rfl rfl (fun σ β' X' hs hb hx => by rw [hb 23]; exact hx)
      intro σ β X W10 hD hX hst10 fr hfr
      obtain ⟨A22_10, hu_A22_10⟩ : ∃ z, sA (β 22) = z := ⟨_, rfl⟩
      obtain ⟨A23_10, hu_A23_10⟩ : ∃ z, sA (β 23) = z := ⟨_, rfl⟩
      obtain ⟨c23_10, hu_c23_10⟩ : ∃ z, sC (β 23) = z := ⟨_, rfl⟩
      simp only [zM, exq 0 (hX 0 _ rfl), exq 1 (hX 1 _ rfl), exq 2 (hX 2 _ rfl), exq 3 (hX 3 _ rfl), exq 6 ((dTn (hD 3 lq)).2), exq 7 ((dTn (hD 4 lq)).2), exq 8 ((dTn (hD 6 lq))), hu_A22_10, hu_A23_10, hu_c23_10] at hst10
      dsimp only [mgT, vals, List.take, List.drop, List.cons_append, List.nil_append] at hfr
      simp only [ed 22 ((dTn (hD 3 lq)).1), ed 23 ((dTn (hD 4 lq)).1), hu_A22_10, hu_A23_10, hu_c23_10] at hfr
      clear hX hD hu_A22_10 hu_A23_10 hu_c23_10; subst hfr; clear σ β X
      refine blk_normal ?_
      have hp11 := hst10.pick [0, 1, 2, 3, 6, 5] (by decide) rfl
      exact ⟨rfl, (KpR.cons (hst6.blk 0 rfl) (hp11.blk 0 rfl) (KpR.cons (hst6.blk 1 rfl) (hp11.blk 1 rfl) KpR.nil)), _, ⟨A23_10, c23_10, (zs ++ [xx.1]), (n + 1), by rw [hz, live_hit hs9], by rw [List.length_append, hn]; rfl, rfl⟩, hp11⟩
    refine wpIn_cond_false (show Act.eval _ _ = .bool false from (congrArg Value.bool hs9)) ?_
    refine wpIn_skip ?_
    refine blk_normal ?_
    have hp12 := hst8.pick [0, 1, 2, 3, 4, 5] (by decide) rfl
    exact ⟨rfl, (KpR.cons (hst6.blk 0 rfl) (hp12.blk 0 rfl) (KpR.cons (hst6.blk 1 rfl) (hp12.blk 1 rfl) KpR.nil)), _, ⟨LA, LC, zs, n, by rw [live_miss hs9]; exact hz, hn, rfl⟩, hp12⟩
  rintro D6 W6d L6 ⟨LA, LC, zs, n, hz, hn, rfl⟩ hst6d
  refine blk_normal ?_
  refine then_normal ?_
  refine wp_seq ?_
  refine wp_region_T [0, 1] [[4], [3]] [[], [7]] [[], [3]] [.c 25 (.agg #[.int .i64 nx, .slice LA n LC]), .n] (fun ix σ β X => match ix with | 0 => True | 1 => X 7 = eB B2_1 41 #[.int .i64 nx, .slice LA n LC] | _ => True) [0, 1, 2, 4, 5, 6, 7] [0, 1] [(25, 0, 1, 26)] hst6d ?_ ?_ ?_
  · exact fun ix _ _ _ _ _ _ hs hb hx h => match ix, h with
    | 1, h => by dsimp only at h ⊢; rw [← hx 7 rfl]; exact h
    | 0, _ | _ + 2, _ => trivial
  · refine ⟨?_, ?_, trivial⟩
    · exact s4 rfl (fun _ _ _ h => h) fun cx => run_loadB (n := 2) rfl (by kernel_rfl) (by kernel_rfl) (cx.out 3 rfl) (cx.blk (cx.init 4 _ rfl) rfl) (Nat.le_of_ble_eq_true rfl) rfl
    · refine sv_any rfl rfl fun ρ β W X cx => ?_
      exact dv_store (n := 2) rfl (cx.out 2 rfl) (cx.anc 0 rfl) (by kernel_rfl) (by kernel_rfl) (by kernel_rfl) cx (cx.init 3 _ rfl) rfl (Nat.le_of_ble_eq_true rfl) (by kernel_rfl) rfl rfl rfl (fun σ β' X' hs hb hx => hx)
  intro σ β X W13 hD hX hst13 fr hfr
  simp only [zM, exq 0 (hX 0 _ rfl), exq 1 (hX 1 _ rfl), exq 2 (hX 2 _ rfl), exq 4 (hX 4 _ rfl), exq 5 (hX 5 _ rfl), exq 6 (hX 6 _ rfl), exq 7 ((dTn (hD 1 lq)))] at hst13
  dsimp only [mgT, vals, List.take, List.drop, List.cons_append, List.nil_append] at hfr
  clear hX hD; subst hfr; clear σ β X
  refine then_normal ?_
  refine wp_ret ?_
  refine bpm_take (L := [eB cb 133 (clockL lo nx K).toArray, eB B14_4 81 #[.pointer (some ⟨cb, 0, none⟩)], eB B1_1 81 #[.pointer (some ⟨cb, 0, none⟩)], eB B3_3 41 #[.int .i64 nx, .slice LA n LC], eO 3 1 (.slice LA n LC) n (zs.map (Value.int .i64)), eB B2_1 41 #[.int .i64 nx, .slice LA n LC]]) (hst13.pick [0, 1, 2, 3, 4, 6, 5] (by decide) rfl) fun Wt14 ht14 => ?_
  refine ⟨.agg #[.int .i64 nx, .slice LA n LC], (results_cell (n := 2) Tryd.results41 rfl (by kernel_rfl) (by kernel_rfl) (ht14.blk 5 rfl) rfl), ?_⟩
  subst hz; subst hn; exact ⟨_, _, rfl, ht14.own1 (i := 0) (j := 4) rfl rfl (by decide), St.still ht14 hb⟩

set_option maxRecDepth 100000 in
set_option maxHeartbeats 2000000 in
theorem cbelow_any (cb : Nat) (lo nx : Int) (K : List Int) (x : Int) (w : World) (hb : Blk w cb 133 (clockL lo nx K).toArray) (hlo : onF lo = true) (hnx : onF nx = true) (hK : K.length = 128) (hkn : knowsF lo nx x = true) :
    Calls Tryd.prog 85 #[.pointer (some ⟨cb, 0, none⟩), .int .i64 x] w (Ret (.slice none 0 0) w) := by
  have st0 := St.lent1 hb
  have hal := clk_arr lo nx K
  have hx2 := onF_iff.1 (knows_on hkn)
  refine (callsIn_wide (n := 3)).1 (callsIn_of_wp_marks Tryd.func85 rfl trivial (wpIn_wide.2 ?_) rfl)
  simp only [Tryd.ntmps85, List.size_toArray, List.length_cons, List.length_nil, Nat.reduceAdd, Nat.reduceSub, Array.replicate_succ, Array.replicate_zero, List.push_toArray, List.append_toArray, List.nil_append, List.cons_append]
  have hst0 := st0
  refine wp_seq ?_
  refine wp_region_T [0, 0, 0] [] [[1], [2]] [] [.a 2, .a 3, .k 4 (.slice none 0 0)] (fun ix σ β X => match ix with | 0 => σ 2 = .pointer (some ⟨(pb (β 2)), 0, none⟩) ∧ X 1 = eB (pb (β 2)) 81 #[.pointer (some ⟨cb, 0, none⟩)] | 1 => σ 3 = .pointer (some ⟨(pb (β 3)), 0, none⟩) ∧ X 2 = eB (pb (β 3)) 3 #[.int .i64 x] | _ => True) [0, 1, 2] [0, 1] [(2, 0, 3, 5)] hst0 ?_ ?_ ?_
  · exact fun ix _ _ _ _ _ _ hs hb hx h => match ix, h with
    | 0, h => by dsimp only at h ⊢; rw [← hs 2 rfl, ← hb 2 rfl, ← hx 1 rfl]; exact h
    | 1, h => by dsimp only at h ⊢; rw [← hs 3 rfl, ← hb 3 rfl, ← hx 2 rfl]; exact h
    | _ + 2, _ => trivial
  · refine ⟨?_, ?_, trivial⟩
    · refine sv_any rfl rfl fun ρ β W X cx => ?_
      exact dv_box (cs := #[.pointer (some ⟨cb, 0, none⟩)]) rfl (cx.out 0 rfl) rfl rfl rfl (fun σ β' X' hs hb hv hx => ⟨hv, hx⟩)
    · refine sv_any rfl rfl fun ρ β W X cx => ?_
      exact dv_box (cs := #[.int .i64 x]) rfl (cx.out 1 rfl) rfl rfl rfl (fun σ β' X' hs hb hv hx => ⟨hv, hx⟩)
  intro σ β X W1 hD hX hst1 fr hfr
  obtain ⟨B2_1, hu_B2_1⟩ : ∃ z, pb (β 2) = z := ⟨_, rfl⟩
  obtain ⟨B3_1, hu_B3_1⟩ : ∃ z, pb (β 3) = z := ⟨_, rfl⟩
  simp only [zM, exq 0 (hX 0 _ rfl), exq 1 ((dTn (hD 0 lq)).2), exq 2 ((dTn (hD 1 lq)).2), hu_B2_1, hu_B3_1] at hst1
  dsimp only [mgT, vals, List.take, List.drop, List.cons_append, List.nil_append] at hfr
  simp only [ed 2 ((dTn (hD 0 lq)).1), ed 3 ((dTn (hD 1 lq)).1), hu_B2_1, hu_B3_1] at hfr
  clear hX hD hu_B2_1 hu_B3_1; subst hfr; clear σ β X
  refine then_normal ?_
  refine wp_seq ?_
  refine wp_seq ?_
  have hd3 : (knowsF lo nx x) = true := hkn
  refine wp_region_T [0, 0, 3, 7] [[1], [2], [0]] [] [] [.c 8 (.pointer (some ⟨cb, 0, none⟩)), .c 9 (.int .i64 x), .c 10 (.bool true), .k 11 (.bool false)] (fun _ _ _ _ => True) [0, 1, 2] [0, 1, 2] [(8, 0, 4, 12)] hst1 ?_ ?_ ?_
  · exact fun _ _ _ _ _ _ _ _ _ _ h => h
  · refine ⟨?_, ?_, ?_, trivial⟩
    · exact s4 rfl (fun _ _ _ h => h) fun cx => run_load1 rfl (by kernel_rfl) (cx.out 2 rfl) ((cx.blk (cx.init 1 _ rfl) rfl).cell 0)
    · exact s4 rfl (fun _ _ _ h => h) fun cx => run_load1 rfl (by kernel_rfl) (cx.out 3 rfl) ((cx.blk (cx.init 2 _ rfl) rfl).cell 0)
    · exact sv_call rfl rfl rfl rfl rfl (fun _ _ _ h => h.trans (congrArg Value.bool hd3)) fun ρ β W X cx => ⟨_, _, run_callF (args := #[.pointer (some ⟨cb, 0, none⟩), .int .i64 x]) rfl cx.sees rfl (by kernel_rfl) (map2 (cx.anc 0 rfl) (cx.anc 1 rfl)), cknows_any _ lo nx K x _ (cx.blk (cx.init 0 _ rfl) rfl) hlo hnx⟩
  intro σ β X W2 hD hX hst2 fr hfr
  simp only [zM, exq 0 (hX 0 _ rfl), exq 1 (hX 1 _ rfl), exq 2 (hX 2 _ rfl)] at hst2
  dsimp only [mgT, vals, List.take, List.drop, List.cons_append, List.nil_append] at hfr
  clear hX hD; subst hfr; clear σ β X
  refine then_normal ?_
  refine wp_cond_false (show Act.eval _ _ = .bool false from rfl) ?_
  refine wp_skip ?_
  refine then_normal ?_
  refine wp_seq ?_
  refine wp_region_T [0, 0, 3, 7, 0, 31] [[], [2], [3], [], [], [5]] [[3], [], [4], [], [5], [6]] [[], [], [3], [], [], [5]] [.a 12, .c 13 (.int .i64 x), .n, .a 14, .a 5, .n] (fun ix σ β X => match ix with | 0 => σ 12 = .map (some (pbm (β 12))) ∧ X 3 = eMb Tryd.prog 3 4 (pbm (β 12)) 0 (fun _ => false) | 1 => True | 2 => X 4 = eMb Tryd.prog 3 4 (pbm (β 12)) 1 (oneB x) | 3 => σ 14 = .map (some (pbm (β 12))) | 4 => σ 5 = .pointer (some ⟨(pb (β 5)), 0, none⟩) ∧ X 5 = eB (pb (β 5)) 169 #[.map none] | 5 => X 6 = eB (pb (β 5)) 169 #[.map (some (pbm (β 12)))] | _ => True) [0, 1, 2, 4, 6] [0, 1, 2, 3, 4, 5] [(5, 4, 1, 6), (6, 0, 4, 9)] hst2 ?_ ?_ ?_
  · exact fun ix _ _ _ _ _ _ hs hb hx h => match ix, h with
    | 0, h => by dsimp only at h ⊢; rw [← hs 12 rfl, ← hb 12 rfl, ← hx 3 rfl]; exact h
    | 2, h => by dsimp only at h ⊢; rw [← hb 12 rfl, ← hx 4 rfl]; exact h
    | 3, h => by dsimp only at h ⊢; rw [← hs 14 rfl, ← hb 12 rfl]; exact h
    | 4, h => by dsimp only at h ⊢; rw [← hs 5 rfl, ← hb 5 rfl, ← hx 5 rfl]; exact h
    | 5, h => by dsimp only at h ⊢; rw [← hb 5 rfl, ← hb 12 rfl, ← hx 6 rfl]; exact h
    | 1, _ | _ + 6, _ => trivial
  · refine ⟨?_, ?_, ?_, ?_, ?_, ?_, trivial⟩
    · refine sv_any rfl rfl fun ρ β W X cx => ?_
      exact dv_makeMb rfl rfl rfl rfl (fun σ β' X' hs hb hv hx => ⟨hv, hx⟩)
    · exact s4 rfl (fun _ _ _ h => h) fun cx => run_load1 rfl (by kernel_rfl) (cx.out 3 rfl) ((cx.blk (cx.init 2 _ rfl) rfl).cell 0)
    · refine sv_any rfl rfl fun ρ β W X cx => ?_
      exact dv_setMb (.inr rfl) (dTn (cx.anc 0 rfl)).1 (cx.anc 1 rfl) (cx.sees.const _) cx (dTn (cx.anc 0 rfl)).2 rfl (by omega) (by omega) rfl rfl rfl (fun σ β' X' hs hb hx => by rw [hb 12]; exact hx)
    · exact sv rfl rfl rfl rfl rfl _ (fun _ _ _ h => h) (fun β β' h => by rw [h 12 (by decide)]) fun ρ β W X cx => run_move' rfl (dTn (cx.anc 0 rfl)).1
    · refine sv_any rfl rfl fun ρ β W X cx => ?_
      exact dv_alloc (cs := #[.map none]) rfl (by kernel_rfl) rfl rfl (fun σ β' X' hs hb hv hx => ⟨hv, hx⟩)
    · refine sv_any rfl rfl fun ρ β W X cx => ?_
      exact dv_store (n := 1) rfl (dTn (cx.anc 4 rfl)).1 (dTn (cx.anc 3 rfl)) (by kernel_rfl) (by kernel_rfl) (by kernel_rfl) cx (dTn (cx.anc 4 rfl)).2 rfl (Nat.le_of_ble_eq_true rfl) (by kernel_rfl) rfl rfl rfl (fun σ β' X' hs hb hx => by rw [hb 5, hb 12]; exact hx)
  intro σ β X W4 hD hX hst4 fr hfr
  obtain ⟨M12_4, hu_M12_4⟩ : ∃ z, pbm (β 12) = z := ⟨_, rfl⟩
  obtain ⟨B5_4, hu_B5_4⟩ : ∃ z, pb (β 5) = z := ⟨_, rfl⟩
  simp only [zM, exq 0 (hX 0 _ rfl), exq 1 (hX 1 _ rfl), exq 2 (hX 2 _ rfl), exq 4 ((dTn (hD 2 lq))), exq 6 ((dTn (hD 5 lq))), hu_M12_4, hu_B5_4] at hst4
  dsimp only [mgT, vals, List.take, List.drop, List.cons_append, List.nil_append] at hfr
  simp only [ed 12 ((dTn (hD 0 lq)).1), ed 14 ((dTn (hD 3 lq))), ed 5 ((dTn (hD 4 lq)).1), hu_M12_4, hu_B5_4] at hfr
  clear hX hD hu_M12_4 hu_B5_4; subst hfr; clear σ β X
  refine then_normal ?_
  refine wp_seq ?_
  refine wp_region_T [0] [] [[5]] [] [.a 6] (fun ix σ β X => match ix with | 0 => σ 6 = .pointer (some ⟨(pb (β 6)), 0, none⟩) ∧ X 5 = eB (pb (β 6)) 28 #[.slice none 0 0] | _ => True) [0, 1, 2, 3, 4, 5] [0] [(6, 0, 1, 7)] hst4 ?_ ?_ ?_
  · exact fun ix _ _ _ _ _ _ hs hb hx h => match ix, h with
    | 0, h => by dsimp only at h ⊢; rw [← hs 6 rfl, ← hb 6 rfl, ← hx 5 rfl]; exact h
    | _ + 1, _ => trivial
  · refine ⟨?_, trivial⟩
    · refine sv_any rfl rfl fun ρ β W X cx => ?_
      exact dv_alloc (cs := #[.slice none 0 0]) rfl (by kernel_rfl) rfl rfl (fun σ β' X' hs hb hv hx => ⟨hv, hx⟩)
  intro σ β X W5 hD hX hst5 fr hfr
  obtain ⟨B6_5, hu_B6_5⟩ : ∃ z, pb (β 6) = z := ⟨_, rfl⟩
  simp only [zM, exq 0 (hX 0 _ rfl), exq 1 (hX 1 _ rfl), exq 2 (hX 2 _ rfl), exq 3 (hX 3 _ rfl), exq 4 (hX 4 _ rfl), exq 5 ((dTn (hD 0 lq)).2), hu_B6_5] at hst5
  dsimp only [mgT, vals, List.take, List.drop, List.cons_append, List.nil_append] at hfr
  simp only [ed 6 ((dTn (hD 0 lq)).1), hu_B6_5] at hfr
  clear hX hD hu_B6_5; subst hfr; clear σ β X
  refine then_normal ?_
  refine wp_seq ?_
  refine wp_seq ?_
  refine wp_region_T [0, 1] [[1]] [[], [6]] [] [.c 15 (.pointer (some ⟨cb, 0, none⟩)), .a 16] (fun ix σ β X => match ix with | 0 => True | 1 => σ 16 = .func (.func 117) #[] #[.pointer (some ⟨(pcap (β 16)), 0, none⟩)] ∧ X 6 = eB (pcap (β 16)) 81 #[.pointer (some ⟨cb, 0, none⟩)] | _ => True) [0, 1, 2, 3, 4, 5, 6] [0, 1] [(15, 0, 2, 17)] hst5 ?_ ?_ ?_
  · exact fun ix _ _ _ _ _ _ hs hb hx h => match ix, h with
    | 1, h => by dsimp only at h ⊢; rw [← hs 16 rfl, ← hb 16 rfl, ← hx 6 rfl]; exact h
    | 0, _ | _ + 2, _ => trivial
  · refine ⟨?_, ?_, trivial⟩
    · exact s4 rfl (fun _ _ _ h => h) fun cx => run_load1 rfl (by kernel_rfl) (cx.out 2 rfl) ((cx.blk (cx.init 1 _ rfl) rfl).cell 0)
    · refine sv_any rfl rfl fun ρ β W X cx => ?_
      refine DoesU.call (run_callF (args := #[.pointer (some ⟨cb, 0, none⟩)]) rfl cx.sees rfl (by kernel_rfl) (map1 (cx.anc 0 rfl))) ?_
      refine (call_any cb _).mono ?_
      rintro e W1 ⟨B4, rfl, hb4, hw4, hx⟩
      refine ⟨_, rfl, post_call [eB B4 81 #[.pointer (some ⟨cb, 0, none⟩)]] rfl rfl hx (one_new ⟨hb4, eB_loc _ _ _, fun k hk => by simp [eB] at hk; subst hk; exact ⟨hw4, hb4.lt⟩⟩) (List.pairwise_singleton _ _) (fun σ β' X' hs hb hv hN => ?_)⟩
      have hv1 := (hv 16 rfl).1; have hv2 := (hv 16 rfl).2
      exact ⟨hv1.trans (by rw [hv2]; rfl), (by rw [hv2]; exact (List.cons.inj hN).1)⟩
  intro σ β X W6 hD hX hst6 fr hfr
  obtain ⟨B16_6, hu_B16_6⟩ : ∃ z, pcap (β 16) = z := ⟨_, rfl⟩
  simp only [zM, exq 0 (hX 0 _ rfl), exq 1 (hX 1 _ rfl), exq 2 (hX 2 _ rfl), exq 3 (hX 3 _ rfl), exq 4 (hX 4 _ rfl), exq 5 (hX 5 _ rfl), exq 6 ((dTn (hD 1 lq)).2), hu_B16_6] at hst6
  dsimp only [mgT, vals, List.take, List.drop, List.cons_append, List.nil_append] at hfr
  simp only [ed 16 ((dTn (hD 1 lq)).1), hu_B16_6] at hfr
  clear hX hD hu_B16_6; subst hfr; clear σ β X
  refine then_normal ?_
  refine wp_block ?_
  have hp8 := hst6.pick [0, 6, 1, 2, 4, 3, 5] (by decide) rfl
  refine wp_rangeSt [cb, B16_6] (α := RX) (XS := ringL lo nx) (N := stepN lo nx) (encs := fun xx => #[.int .i64 xx.1]) (L0 := [eB cb 133 (clockL lo nx K).toArray, eB B16_6 81 #[.pointer (some ⟨cb, 0, none⟩)], eB B2_1 81 #[.pointer (some ⟨cb, 0, none⟩)], eB B3_1 3 #[.int .i64 x], eB B5_4 169 #[.map (some M12_4)], eMb Tryd.prog 3 4 M12_4 1 (oneB x), eB B6_5 28 #[.slice none 0 0]]) hp8 rfl (enters_of Tryd.func117 (by kernel_rfl) rfl) (lt_cons (hp8.blk 0 rfl).lt (lt_cons (hp8.blk 1 rfl).lt (fun k hk => by cases hk))) (all_stops _ _ _ lo nx K _ hlo hnx (by simp) (by simp) (hp8.blk 1 rfl) (hp8.blk 0 rfl)) (fun _ => rfl) (fun pre L => True ∧ L = [eB cb 133 (clockL lo nx K).toArray, eB B16_6 81 #[.pointer (some ⟨cb, 0, none⟩)], eB B2_1 81 #[.pointer (some ⟨cb, 0, none⟩)], eB B3_1 3 #[.int .i64 x], eB B5_4 169 #[.map (some M12_4)], eMb Tryd.prog 3 4 M12_4 1 (oneB x), eB B6_5 28 #[.slice none 0 0]]) ?_ ?_ (fun xx => ⟨#[.pointer (some ⟨cb, 0, none⟩), .int .i64 x, .pointer (some ⟨B2_1, 0, none⟩), .pointer (some ⟨B3_1, 0, none⟩), .slice none 0 0, .pointer (some ⟨B5_4, 0, none⟩), .pointer (some ⟨B6_5, 0, none⟩), .int .i64 xx.1, .pointer (some ⟨cb, 0, none⟩), .int .i64 x, .bool true, .bool false, .map (some M12_4), .int .i64 x, .map (some M12_4), .pointer (some ⟨cb, 0, none⟩), .func (.func 117) #[] #[.pointer (some ⟨B16_6, 0, none⟩)], .int .i64 xx.1, undef, undef, undef, undef, undef, undef, undef, undef, undef, undef, undef, undef, undef, undef, undef, undef, undef], []⟩) ?_ ?_ ?_
  · rintro pre L ⟨-, rfl⟩; exact (CellsB.cons (eB_cells _ _ _) (CellsB.cons (eB_cells _ _ _) (CellsB.cons (eB_cells _ _ _) (CellsB.cons (eB_cells _ _ _) (CellsB.cons (eB_cells _ _ _) (CellsB.consB (fun k hk => ((hp8.get 5 rfl).own k hk).2) (CellsB.cons (eB_cells _ _ _) CellsB.nil)))))))
  · exact ⟨trivial, rfl⟩
  · intro l x W K hK
    exact rnd_assign rfl rfl rfl hK (by kernel_rfl)
  · rintro rl pre xx W7 L7 ⟨-, rfl⟩ hlen7 hup7 hst7
    have hxx := onF_iff.1 xx.2
    refine wpIn_block ?_
    refine wpIn_seq ?_
    have hd10 : ((xx.1 != x) && ((oneB x) 0)) = false := (by rw [oneB_0 hx2.1]; exact Bool.and_false _)
    refine wpIn_region_T [0, 0, 3, 7, 15, 15, 15, 111, 255, 511] [[], [3], [], [], [4], [2], [], [0], [5]] [] [] [.k 18 (.int .i64 xx.1), .c 19 (.int .i64 x), .k 20 (.bool (xx.1 != x)), .k 21 (.bool (xx.1 != x)), .y 22 (xx.1 != x) (.map (some M12_4)), .y 23 (xx.1 != x) (.pointer (some ⟨cb, 0, none⟩)), .z 24 (xx.1 != x) (.int .i64 xx.1), .y 25 (xx.1 != x) (.int .i64 0), .y 26 (xx.1 != x) (.bool ((oneB x) 0)), tAk 27 (xx.1 != x) ((oneB x) 0) false hd10] (fun _ _ _ _ => True) [0, 1, 2, 3, 4, 5, 6] [1, 4, 5, 7, 8] [(18, 0, 10, 28)] hst7 ?_ ?_ ?_
    · exact fun _ _ _ _ _ _ _ _ _ _ h => h
    · refine ⟨?_, ?_, ?_, ?_, ?_, trivial⟩
      · exact s4 rfl (fun _ _ _ h => h) fun cx => run_load1 rfl (by kernel_rfl) (cx.out 3 rfl) ((cx.blk (cx.init 3 _ rfl) rfl).cell 0)
      · exact m2 rfl (fun _ _ _ h => h) (fun cx => (cx.anc 3 rfl)) fun cx hq => run_load1 rfl (by kernel_rfl) (cx.out 5 rfl) ((cx.blk (cx.init 4 _ rfl) rfl).cell 0)
      · exact m2 rfl (fun _ _ _ h => h) (fun cx => (cx.anc 3 rfl)) fun cx hq => run_load1 rfl (by kernel_rfl) (cx.out 2 rfl) ((cx.blk (cx.init 2 _ rfl) rfl).cell 0)
      · exact m3 rfl (fun _ _ _ h => h) (fun cx => (cx.anc 3 rfl)) fun cx hq => ⟨_, _, run_callF (args := #[.pointer (some ⟨cb, 0, none⟩), .int .i64 xx.1]) rfl cx.sees rfl (by kernel_rfl) (map2 (mbv (cx.anc 5 rfl) hq) (mbv (cx.anc 6 rfl) hq)), cabove_any _ lo nx K xx.1 _ (cx.blk (cx.init 0 _ rfl) rfl) hlo hnx hK (by omega)⟩
      · exact m2 rfl (fun _ _ _ h => h) (fun cx => (cx.anc 3 rfl)) fun cx hq => run_lookMb rfl (mbv (cx.anc 4 rfl) hq) (mbv (cx.anc 7 rfl) hq) (CtxV.mb cx (cx.init 5 _ rfl) rfl) (h0 := fun w => by rfl) (hx := by omega)
    intro σ β X W9 hD hX hst9 fr hfr
    simp only [zM, exq 0 (hX 0 _ rfl), exq 1 (hX 1 _ rfl), exq 2 (hX 2 _ rfl), exq 3 (hX 3 _ rfl), exq 4 (hX 4 _ rfl), exq 5 (hX 5 _ rfl), exq 6 (hX 6 _ rfl)] at hst9
    dsimp only [mgT, vals, List.take, List.drop, List.cons_append, List.nil_append] at hfr
    clear hX hD; subst hfr; clear σ β X
    refine then_normal ?_
    refine wpIn_cond_false (show Act.eval _ _ = .bool false from rfl) ?_
    refine wpIn_skip ?_
    refine blk_normal ?_
    have hp11 := hst9.pick [0, 1, 2, 3, 4, 5, 6] (by decide) rfl
    exact ⟨rfl, (KpR.cons (hst7.blk 0 rfl) (hp11.blk 0 rfl) (KpR.cons (hst7.blk 1 rfl) (hp11.blk 1 rfl) KpR.nil)), _, ⟨trivial, rfl⟩, hp11⟩
  rintro D7 W7d L7 ⟨-, rfl⟩ hst7d
  refine blk_normal ?_
  refine then_normal ?_
  refine wp_seq ?_
  refine wp_region_T [0, 1] [[6]] [] [] [.c 34 (.slice none 0 0), .k 4 (.slice none 0 0)] (fun _ _ _ _ => True) [0, 1, 2, 3, 4, 5, 6, 7] [0] [(4, 1, 1, 5), (29, 0, 1, 30)] hst7d ?_ ?_ ?_
  · exact fun _ _ _ _ _ _ _ _ _ _ h => h
  · refine ⟨?_, trivial⟩
    · exact s4 rfl (fun _ _ _ h => h) fun cx => run_load1 rfl (by kernel_rfl) (cx.out 6 rfl) ((cx.blk (cx.init 6 _ rfl) rfl).cell 0)
  intro σ β X W12 hD hX hst12 fr hfr
  simp only [zM, exq 0 (hX 0 _ rfl), exq 1 (hX 1 _ rfl), exq 2 (hX 2 _ rfl), exq 3 (hX 3 _ rfl), exq 4 (hX 4 _ rfl), exq 5 (hX 5 _ rfl), exq 6 (hX 6 _ rfl), exq 7 (hX 7 _ rfl)] at hst12
  dsimp only [mgT, vals, List.take, List.drop, List.cons_append, List.nil_append] at hfr
  clear hX hD; subst hfr; clear σ β X
  refine then_normal ?_
  refine wp_ret ?_
  refine bpm_take (L := [eB cb 133 (clockL lo nx K).toArray, eB B16_6 81 #[.pointer (some ⟨cb, 0, none⟩)], eB B2_1 81 #[.pointer (some ⟨cb, 0, none⟩)], eB B3_1 3 #[.int .i64 x], eB B5_4 169 #[.map (some M12_4)], eMb Tryd.prog 3 4 M12_4 1 (oneB x), eB B6_5 28 #[.slice none 0 0]]) (hst12.pick [0, 1, 2, 3, 4, 5, 6, 7] (by decide) rfl) fun Wt13 ht13 => ?_
  refine ⟨.slice none 0 0, (results_tmp Tryd.results85 rfl), ?_⟩
  exact Ret.of rfl (St.still ht13 hb)

end Go.Proofs.YtfjpglohcppjeaaDoor

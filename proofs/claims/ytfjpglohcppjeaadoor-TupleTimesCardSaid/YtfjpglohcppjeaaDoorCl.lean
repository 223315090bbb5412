/- The clock as a list of cells, where no transaction lies under another: New, knows, live, above, Next, State, Begin. -/
import Derived.Test.YtfjpglohcppjeaaDoorT2
import Derived.Test.YtfjpglohcppjeaaDoorT11
import Derived.Test.YtfjpglohcppjeaaDoorVu
namespace Go.Proofs.YtfjpglohcppjeaaDoor
open Go.RowKit
set_option linter.unusedVariables false
set_option linter.unusedSimpArgs false

def standL (K : List Int) : List Value := K.flatMap fun s => [.int .i64 s, .int .i64 0]
def clockL (lo nx : Int) (K : List Int) : List Value := .int .i64 lo :: .int .i64 nx :: standL K
theorem stand_at : ∀ (K : List Int) (x : Nat), x < K.length → (standL K)[x * 2]? = some (.int .i64 (K.getD x 0)) ∧ (standL K)[x * 2 + 1]? = some (.int .i64 0)
  | [], x, h => by simp at h
  | s :: K, 0, _ => ⟨rfl, rfl⟩
  | s :: K, x + 1, h => by
    have h2 := stand_at K x (by simpa using h)
    rw [show (x + 1) * 2 = x * 2 + 1 + 1 by omega]
    exact h2
theorem stand_set : ∀ (K : List Int) (x : Nat) (v : Int), (standL K).set (x * 2) (.int .i64 v) = standL (K.set x v)
  | [], x, v => by simp [standL]
  | s :: K, 0, v => rfl
  | s :: K, x + 1, v => by
    rw [show (x + 1) * 2 = x * 2 + 1 + 1 by omega]
    show Value.int .i64 s :: Value.int .i64 0 :: (standL K).set (x * 2) (.int .i64 v) = _
    rw [stand_set K x v]; rfl
theorem stand_set0 : ∀ (K : List Int) (x : Nat), (standL K).set (x * 2 + 1) (.int .i64 0) = standL K
  | [], x => by simp [standL]
  | s :: K, 0 => rfl
  | s :: K, x + 1 => by
    rw [show (x + 1) * 2 = x * 2 + 1 + 1 by omega]
    show Value.int .i64 s :: Value.int .i64 0 :: (standL K).set (x * 2 + 1) (.int .i64 0) = _
    rw [stand_set0 K x]; rfl
theorem stand_len : ∀ K : List Int, (standL K).length = K.length * 2
  | [] => rfl
  | s :: K => by
    show (standL K).length + 1 + 1 = (K.length + 1) * 2
    rw [stand_len K]; omega
theorem clk_st {lo nx : Int} {K : List Int} {x : Nat} (h : x < K.length) : (clockL lo nx K)[2 + x * 2]? = some (.int .i64 (K.getD x 0)) := by
  rw [show 2 + x * 2 = x * 2 + 1 + 1 by omega]; exact (stand_at K x h).1
theorem clk_ab {lo nx : Int} {K : List Int} {x : Nat} (h : x < K.length) : (clockL lo nx K)[2 + x * 2 + 1]? = some (.int .i64 0) := by
  rw [show 2 + x * 2 + 1 = x * 2 + 1 + 1 + 1 by omega]; exact (stand_at K x h).2
theorem clk_set (lo nx : Int) (K : List Int) (x : Nat) (v : Int) : (clockL lo nx K).set (2 + x * 2) (.int .i64 v) = clockL lo nx (K.set x v) := by
  rw [show 2 + x * 2 = x * 2 + 1 + 1 by omega]
  show Value.int .i64 lo :: Value.int .i64 nx :: (standL K).set (x * 2) (.int .i64 v) = _
  rw [stand_set]; rfl
theorem clk_put (lo nx : Int) (K : List Int) (x : Nat) (v : Int) : putC (clockL lo nx K).toArray (2 + x * 2) [.int .i64 v, .int .i64 0] = (clockL lo nx (K.set x v)).toArray := by
  show (((clockL lo nx K).toArray.setIfInBounds (2 + x * 2) (.int .i64 v)).setIfInBounds (2 + x * 2 + 1) (.int .i64 0)) = _
  rw [List.setIfInBounds_toArray, List.setIfInBounds_toArray, clk_set, show 2 + x * 2 + 1 = x * 2 + 1 + 1 + 1 by omega]
  show (Value.int .i64 lo :: Value.int .i64 nx :: (standL (K.set x v)).set (x * 2 + 1) (.int .i64 0)).toArray = _
  rw [stand_set0]; rfl
theorem clk_arr (lo nx : Int) (K : List Int) : (clockL lo nx K).toArray.size = 2 + K.length * 2 := by
  show (standL K).length + 1 + 1 = _
  rw [stand_len]; omega
theorem clk_len (lo nx : Int) (K : List Int) : (clockL lo nx K).length = 2 + K.length * 2 := clk_arr lo nx K
def knowsF (lo nx x : Int) : Bool := onF x && decide (stepsF lo x < stepsF lo nx)
def liveF (K : List Int) (x : Int) : Bool := K.getD x.toNat 0 == 1 || K.getD x.toNat 0 == 4
def stateF (lo nx : Int) (K : List Int) (x : Int) : Int := if x = 2 then 2 else if knowsF lo nx x then K.getD x.toNat 0 else 0
def nxF (x : Int) : Int := 3 + (x - 2) % 125
theorem nxF_on (x : Int) : onF (nxF x) = true := onF_iff.2 (by unfold nxF; omega)
theorem knows_zero (lo nx : Int) : knowsF lo nx 0 = false := rfl
theorem knows_on {lo nx x : Int} (h : knowsF lo nx x = true) : onF x = true := by
  unfold knowsF at h; rw [Bool.and_eq_true] at h; exact h.1
theorem St.still {w W : World} {b t : Nat} {cs : Array Value} {L : List Ent} (h : St w [b] (eB b t cs :: L) W) (hb : Blk w b t cs) : Ext w W := by
  refine (Upd.to_ext (⟨h.upd.os, h.upd.tape, h.upd.output, h.upd.size, fun k hk hn => ?_⟩ : Upd [] w W))
  by_cases e : k = b
  · rw [e]; exact (h.blk 0 rfl).trans hb.symm
  · exact h.upd.block k hk (by simpa using e)
theorem St.own1 {w0 W : World} {b t i j e sz n : Nat} {cs : Array Value} {v : Value} {xs : List Value} {L : List Ent} (h : St w0 [b] L W) (hi : L[i]? = some (eB b t cs)) (hj : L[j]? = some (eO e sz v n xs)) (hij : i < j) : W.ownsRow w0.heap.size e sz v n xs := by
  rcases h.own j hj with h1 | ⟨k, hk, hb⟩
  · exact h1
  · have hkb : k = b := by simpa using hb
    obtain ⟨hi1, hi2⟩ := List.getElem?_eq_some_iff.1 hi
    obtain ⟨hj1, hj2⟩ := List.getElem?_eq_some_iff.1 hj
    have h2 := List.pairwise_iff_getElem.1 h.apart i j hi1 hj1 hij
    rw [hi2, hj2] at h2
    exact (h2 k (by simp [eB, hkb]) (by simp [eO, hk])).elim
def ClkPost (b : Nat) (v : Value) (L : List Value) (w : World) (e : Ending) (w' : World) : Prop := e = .returned v ∧ Blk w' b 133 L.toArray ∧ Upd [b] w w'
def NewClk (n : Int) (w : World) (e : Ending) (w' : World) : Prop := ∃ b, e = .returned (.pointer (some ⟨b, 0, none⟩)) ∧ Blk w' b 133 (clockL n n (List.replicate 128 0)).toArray ∧ w.heap.size ≤ b ∧ Ext w w'
set_option maxRecDepth 100000 in
set_option maxHeartbeats 2000000 in
theorem cknows_any (cb : Nat) (lo nx : Int) (K : List Int) (x : Int) (w : World) (hb : Blk w cb 133 (clockL lo nx K).toArray) (hlo : onF lo = true) (hnx : onF nx = true) :
    Calls Tryd.prog 82 #[.pointer (some ⟨cb, 0, none⟩), .int .i64 x] w (Ret (.bool (knowsF lo nx x)) w) := by
  have st0 := St.lent1 hb
  have hal := clk_arr lo nx K
  go_enter Tryd.func82, Tryd.ntmps82
  have hst0 := st0
  refine wp_seq ?_
  refine wp_region_P [0] [.k 4 (.bool false)] [(4, 0, 1, 5)] hst0 fun W1 hst1 => ?_
  refine then_normal ?_
  refine wp_seq ?_
  rcases Bool.eq_false_or_eq_true (onF x) with hs3 | hs3
  · skip
    refine wp_region_T [0, 1, 3, 7, 15, 31, 63, 127, 255, 511, 1023, 127, 4095, 127, 8319, 24703, 57471, 127, 131199, 393343, 917631, 2097151, 4194303, 8388607, 16777215] [[], [], [], [], [], [], [], [], [], [], [0], [], [], [], [], [], [0], [], [], [], [0]] [] [] [.k 5 (.pointer (some ⟨cb, 0, none⟩)), .c 6 (.bool true), .k 7 (.bool true), .k 8 (.int .i64 x), .c 9 (.bool true), .k 10 (.bool true), .k 11 (.bool true), .k 12 (.pointer (some ⟨cb, 0, none⟩)), .k 13 (.pointer (some ⟨cb, 0, none⟩)), .k 14 (.pointer (some ⟨cb, 0, none⟩)), .c 15 (.int .i64 lo), .k 16 (.int .i64 x), .c 17 (.int .i64 (stepsF lo x)), .k 18 (.pointer (some ⟨cb, 0, none⟩)), .k 19 (.pointer (some ⟨cb, 0, none⟩)), .k 20 (.pointer (some ⟨cb, 0, none⟩)), .c 21 (.int .i64 lo), .k 22 (.pointer (some ⟨cb, 0, none⟩)), .k 23 (.pointer (some ⟨cb, 0, none⟩)), .k 24 (.pointer (some ⟨cb, 1, none⟩)), .c 25 (.int .i64 nx), .c 26 (.int .i64 (stepsF lo nx)), .k 27 (.bool (decide (stepsF lo x < stepsF lo nx))), .k 28 (.bool (decide (stepsF lo x < stepsF lo nx))), .k 4 (.bool (decide (stepsF lo x < stepsF lo nx)))] (fun _ _ _ _ => True) [0] [1, 4, 10, 12, 16, 20, 21] [(4, 24, 1, 5), (0, 0, 24, 24)] hst1 ?_ ?_ ?_
    · exact fun _ _ _ _ _ _ _ _ _ _ h => h
    · refine ⟨?_, ?_, ?_, ?_, ?_, ?_, ?_, trivial⟩
      · exact sv0 rfl rfl rfl rfl rfl (fun _ _ _ h => h) fun ρ β W X cx => by
          have fF5 : ρ (.tmp 5) = .pointer (some ⟨cb, 0, none⟩) := (cx.anc 0 rfl)
          simp [go_sem, cx.sees.const, fF5]
      · exact sv_call_on rfl rfl rfl rfl rfl rfl (fun _ _ _ h => h.trans (congrArg Value.bool hs3)) (fun _ _ _ _ cx => (cx.anc 2 rfl)) fun ρ β W X cx => ⟨_, _, run_callF (args := #[.int .i64 x]) rfl cx.sees rfl (by kernel_rfl) (map1 (cx.anc 3 rfl)), con_any x _⟩
      · exact s5 rfl (fun _ _ _ h => h) (fun cx => (cx.anc 6 rfl)) fun cx => run_load1 rfl (by kernel_rfl) (cx.anc 9 rfl) (((cx.blk (cx.init 0 _ rfl) rfl).cell 0).trans ((List.getElem?_toArray ..).trans rfl))
      · exact sv_call_on rfl rfl rfl rfl rfl rfl (fun _ _ _ h => h) (fun _ _ _ _ cx => (cx.anc 6 rfl)) fun ρ β W X cx => ⟨_, _, run_callF (args := #[.int .i64 lo, .int .i64 x]) rfl cx.sees rfl (by kernel_rfl) (map2 (cx.anc 10 rfl) (cx.anc 11 rfl)), csteps_any lo x _ (by assumption) (by assumption)⟩
      · exact s5 rfl (fun _ _ _ h => h) (fun cx => (cx.anc 6 rfl)) fun cx => run_load1 rfl (by kernel_rfl) (cx.anc 15 rfl) (((cx.blk (cx.init 0 _ rfl) rfl).cell 0).trans ((List.getElem?_toArray ..).trans rfl))
      · exact s5 rfl (fun _ _ _ h => h) (fun cx => (cx.anc 6 rfl)) fun cx => run_load1 rfl (by kernel_rfl) (cx.anc 19 rfl) (((cx.blk (cx.init 0 _ rfl) rfl).cell 1).trans ((List.getElem?_toArray ..).trans rfl))
      · exact sv_call_on rfl rfl rfl rfl rfl rfl (fun _ _ _ h => h) (fun _ _ _ _ cx => (cx.anc 6 rfl)) fun ρ β W X cx => ⟨_, _, run_callF (args := #[.int .i64 lo, .int .i64 nx]) rfl cx.sees rfl (by kernel_rfl) (map2 (cx.anc 16 rfl) (cx.anc 20 rfl)), csteps_any lo nx _ (by assumption) (by assumption)⟩
    intro σ β X W4 hD hX hst4 fr hfr
    simp only [zM, exq 0 (hX 0 _ rfl)] at hst4
    dsimp only [mgT, vals, List.take, List.drop, List.cons_append, List.nil_append] at hfr
    clear hX hD; subst hfr; clear σ β X
    refine then_normal ?_
    refine wp_ret ?_
    refine bodyPost_ret (v := .bool (decide (stepsF lo x < stepsF lo nx))) (results_tmp Tryd.results82 rfl) rfl ?_
    exact Ret.bool (by simp_all [knowsF]) (St.still hst4 hb)
  refine wp_region_T [0, 1, 3, 7, 15, 31, 63, 127, 255, 511, 1023, 127, 4095, 127, 8319, 24703, 57471, 127, 131199, 393343, 917631, 2097151, 4194303, 8388607, 16777215] [] [] [] [.k 5 (.pointer (some ⟨cb, 0, none⟩)), .c 6 (.bool true), .k 7 (.bool true), .k 8 (.int .i64 x), .c 9 (.bool false), .k 10 (.bool false), .k 11 (.bool false), .u 12, .u 13, .u 14, .u 15, .u 16, .u 17, .u 18, .u 19, .u 20, .u 21, .u 22, .u 23, .u 24, .u 25, .u 26, .u 27, .k 28 (.bool false), .k 4 (.bool false)] (fun _ _ _ _ => True) [0] [1, 4] [(4, 24, 1, 5), (0, 0, 24, 24)] hst1 ?_ ?_ ?_
  · exact fun _ _ _ _ _ _ _ _ _ _ h => h
  · refine ⟨?_, ?_, trivial⟩
    · exact sv0 rfl rfl rfl rfl rfl (fun _ _ _ h => h) fun ρ β W X cx => by
        have fF5 : ρ (.tmp 5) = .pointer (some ⟨cb, 0, none⟩) := (cx.anc 0 rfl)
        simp [go_sem, cx.sees.const, fF5]
    · exact sv_call_on rfl rfl rfl rfl rfl rfl (fun _ _ _ h => h.trans (congrArg Value.bool hs3)) (fun _ _ _ _ cx => (cx.anc 2 rfl)) fun ρ β W X cx => ⟨_, _, run_callF (args := #[.int .i64 x]) rfl cx.sees rfl (by kernel_rfl) (map1 (cx.anc 3 rfl)), con_any x _⟩
  intro σ β X W5 hD hX hst5 fr hfr
  simp only [zM, exq 0 (hX 0 _ rfl)] at hst5
  dsimp only [mgT, vals, List.take, List.drop, List.cons_append, List.nil_append] at hfr
  clear hX hD; subst hfr; clear σ β X
  refine then_normal ?_
  refine wp_ret ?_
  refine bodyPost_ret (v := .bool false) (results_tmp Tryd.results82 rfl) rfl ?_
  exact Ret.bool (by simp_all [knowsF]) (St.still hst5 hb)

set_option maxRecDepth 100000 in
set_option maxHeartbeats 2000000 in
theorem clive_any (cb : Nat) (lo nx : Int) (K : List Int) (x : Int) (w : World) (hb : Blk w cb 133 (clockL lo nx K).toArray) (hK : K.length = 128) (hx : 0 ≤ x ∧ x < 128) :
    Calls Tryd.prog 81 #[.pointer (some ⟨cb, 0, none⟩), .int .i64 x] w (Ret (.bool (liveF K x)) w) := by
  have st0 := St.lent1 hb
  have hal := clk_arr lo nx K
  go_enter Tryd.func81, Tryd.ntmps81
  have hst0 := st0
  refine wp_seq ?_
  refine wp_region_P [0] [.k 4 (.bool false)] [(4, 0, 1, 5)] hst0 fun W1 hst1 => ?_
  refine then_normal ?_
  refine wp_seq ?_
  refine wp_region_T [0, 0, 1, 5, 15, 31, 63, 127] [[], [], [], [], [], [], [0]] [] [] [.k 6 (.pointer (some ⟨cb, 0, none⟩)), .k 7 (.int .i64 x), .k 8 (.pointer (some ⟨cb, 0, none⟩)), .k 9 (.pointer (some ⟨cb, 2, none⟩)), .c 10 (.pointer (some ⟨cb, 2 + ((x).toNat) * 2, none⟩)), .k 11 (.pointer (some ⟨cb, 2 + ((x).toNat) * 2, none⟩)), .c 12 (.int .i64 (K.getD ((x).toNat) 0)), .k 5 (.int .i64 (K.getD ((x).toNat) 0))] (fun _ _ _ _ => True) [0] [4, 6] [(5, 7, 1, 6), (0, 0, 7, 7)] hst1 ?_ ?_ ?_
  · exact fun _ _ _ _ _ _ _ _ _ _ h => h
  · refine ⟨?_, ?_, trivial⟩
    · exact s4 rfl (fun _ _ _ h => h) fun cx => run_indexArrB (n := 128) (sz := 2) (m := (x).toNat) (q := 2 + ((x).toNat) * 2) rfl (by kernel_rfl) (cx.anc 3 rfl) (cx.anc 1 rfl) (by omega) (by omega) (by omega)
    · exact s4 rfl (fun _ _ _ h => h) fun cx => run_load1 rfl (by kernel_rfl) (cx.anc 5 rfl) (((cx.blk (cx.init 0 _ rfl) rfl).cell (2 + ((x).toNat) * 2)).trans ((List.getElem?_toArray ..).trans (clk_st (by omega))))
  intro σ β X W2 hD hX hst2 fr hfr
  simp only [zM, exq 0 (hX 0 _ rfl)] at hst2
  dsimp only [mgT, vals, List.take, List.drop, List.cons_append, List.nil_append] at hfr
  clear hX hD; subst hfr; clear σ β X
  refine then_normal ?_
  refine wp_seq ?_
  refine wp_region_P [0, 1, 3, 7, 15, 31, 63] [.k 13 (.int .i64 (K.getD ((x).toNat) 0)), .k 14 (.bool ((K.getD ((x).toNat) 0) == 1)), .k 15 (.bool ((K.getD ((x).toNat) 0) == 1)), .z 16 (!((K.getD ((x).toNat) 0) == 1)) (.int .i64 (K.getD ((x).toNat) 0)), .z 17 (!((K.getD ((x).toNat) 0) == 1)) (.bool ((K.getD ((x).toNat) 0) == 4)), tO 18 ((K.getD ((x).toNat) 0) == 1) ((K.getD ((x).toNat) 0) == 4), .k 4 (.bool (((K.getD ((x).toNat) 0) == 1) || ((K.getD ((x).toNat) 0) == 4)))] [(4, 6, 1, 5), (8, 0, 6, 14)] hst2 fun W3 hst3 => ?_
  refine then_normal ?_
  refine wp_ret ?_
  refine bodyPost_ret (v := .bool (((K.getD ((x).toNat) 0) == 1) || ((K.getD ((x).toNat) 0) == 4))) (results_tmp Tryd.results81 rfl) rfl ?_
  exact Ret.bool (by simp_all [liveF]) (St.still hst3 hb)

set_option maxRecDepth 100000 in
set_option maxHeartbeats 2000000 in
theorem cabove_any (cb : Nat) (lo nx : Int) (K : List Int) (x : Int) (w : World) (hb : Blk w cb 133 (clockL lo nx K).toArray) (hlo : onF lo = true) (hnx : onF nx = true) (hK : K.length = 128) (hx : 0 ≤ x ∧ x < 128) :
    Calls Tryd.prog 118 #[.pointer (some ⟨cb, 0, none⟩), .int .i64 x] w (Ret (.int .i64 0) w) := by
  have st0 := St.lent1 hb
  have hal := clk_arr lo nx K
  go_enter Tryd.func118, Tryd.ntmps118
  have hst0 := st0
  refine wp_seq ?_
  refine wp_region_P [0] [.k 4 (.int .i64 0)] [(4, 0, 1, 5)] hst0 fun W1 hst1 => ?_
  refine then_normal ?_
  refine wp_seq ?_
  refine wp_seq ?_
  refine wp_region_T [0, 0, 1, 5, 15, 31, 63, 127] [[], [], [], [], [], [], [0]] [] [] [.k 6 (.pointer (some ⟨cb, 0, none⟩)), .k 7 (.int .i64 x), .k 8 (.pointer (some ⟨cb, 0, none⟩)), .k 9 (.pointer (some ⟨cb, 2, none⟩)), .c 10 (.pointer (some ⟨cb, 2 + ((x).toNat) * 2, none⟩)), .k 11 (.pointer (some ⟨cb, 2 + ((x).toNat) * 2 + 1, none⟩)), .c 12 (.int .i64 0), .k 5 (.int .i64 0)] (fun _ _ _ _ => True) [0] [4, 6] [(5, 7, 1, 6), (0, 0, 7, 7)] hst1 ?_ ?_ ?_
  · exact fun _ _ _ _ _ _ _ _ _ _ h => h
  · refine ⟨?_, ?_, trivial⟩
    · exact s4 rfl (fun _ _ _ h => h) fun cx => run_indexArrB (n := 128) (sz := 2) (m := (x).toNat) (q := 2 + ((x).toNat) * 2) rfl (by kernel_rfl) (cx.anc 3 rfl) (cx.anc 1 rfl) (by omega) (by omega) (by omega)
    · exact s4 rfl (fun _ _ _ h => h) fun cx => run_load1 rfl (by kernel_rfl) (cx.anc 5 rfl) (((cx.blk (cx.init 0 _ rfl) rfl).cell (2 + ((x).toNat) * 2 + 1)).trans ((List.getElem?_toArray ..).trans (clk_ab (by omega))))
  intro σ β X W2 hD hX hst2 fr hfr
  simp only [zM, exq 0 (hX 0 _ rfl)] at hst2
  dsimp only [mgT, vals, List.take, List.drop, List.cons_append, List.nil_append] at hfr
  clear hX hD; subst hfr; clear σ β X
  refine then_normal ?_
  refine wp_seq ?_
  have hd4 : (knowsF lo nx 0) = false := knows_zero _ _
  refine wp_region_T [0, 0, 3] [[], [], [0]] [] [] [.k 13 (.pointer (some ⟨cb, 0, none⟩)), .k 14 (.int .i64 0), .c 15 (.bool false)] (fun _ _ _ _ => True) [0] [2] [(13, 0, 3, 16)] hst2 ?_ ?_ ?_
  · exact fun _ _ _ _ _ _ _ _ _ _ h => h
  · refine ⟨?_, trivial⟩
    · exact sv_call rfl rfl rfl rfl rfl (fun _ _ _ h => h.trans (congrArg Value.bool hd4)) fun ρ β W X cx => ⟨_, _, run_callF (args := #[.pointer (some ⟨cb, 0, none⟩), .int .i64 0]) rfl cx.sees rfl (by kernel_rfl) (map2 (cx.anc 0 rfl) (cx.anc 1 rfl)), cknows_any _ lo nx K 0 _ (cx.blk (cx.init 0 _ rfl) rfl) hlo hnx⟩
  intro σ β X W3 hD hX hst3 fr hfr
  simp only [zM, exq 0 (hX 0 _ rfl)] at hst3
  dsimp only [mgT, vals, List.take, List.drop, List.cons_append, List.nil_append] at hfr
  clear hX hD; subst hfr; clear σ β X
  refine then_normal ?_
  refine wp_cond_false (show Act.eval _ _ = .bool false from rfl) ?_
  refine wp_skip ?_
  refine then_normal ?_
  refine wp_seq ?_
  refine wp_region_P [0] [.k 4 (.int .i64 0)] [(4, 0, 1, 5)] hst3 fun W5 hst5 => ?_
  refine then_normal ?_
  refine wp_ret ?_
  refine bodyPost_ret (v := .int .i64 0) (results_tmp Tryd.results118 rfl) rfl ?_
  exact Ret.int rfl (St.still hst5 hb)

set_option maxRecDepth 100000 in
set_option maxHeartbeats 2000000 in
theorem cnext_any (x : Int) (w : World) (hx : onF x = true) :
    Calls Tryd.prog 84 #[.int .i64 x] w (Ret (.int .i64 (nxF x)) w) := by
  have hx2 := onF_iff.1 hx
  go_enter Tryd.func84, Tryd.ntmps84
  have hst0 := St.start w
  refine wp_seq ?_
  refine wp_region_P [0] [.k 2 (.int .i64 0)] [(2, 0, 1, 3)] hst0 fun W1 hst1 => ?_
  refine then_normal ?_
  refine wp_seq ?_
  refine wp_seq ?_
  have hd3 : (onF x) = true := hx
  refine wp_region_T [0, 1, 3, 7, 15, 31, 63] [] [] [] [.k 3 (.int .i64 x), .c 4 (.bool true), .k 5 (.bool false), .k 6 (.bool false), .k 7 (.int .i64 x), .k 8 (.bool (x == 127)), .k 9 (.bool (x == 127))] (fun _ _ _ _ => True) [] [1] [(3, 0, 7, 10)] hst1 ?_ ?_ ?_
  · exact fun _ _ _ _ _ _ _ _ _ _ h => h
  · refine ⟨?_, trivial⟩
    · exact sv_call rfl rfl rfl rfl rfl (fun _ _ _ h => h.trans (congrArg Value.bool hd3)) fun ρ β W X cx => ⟨_, _, run_callF (args := #[.int .i64 x]) rfl cx.sees rfl (by kernel_rfl) (map1 (cx.anc 0 rfl)), con_any x _⟩
  intro σ β X W2 hD hX hst2 fr hfr
  simp only [zM] at hst2
  dsimp only [mgT, vals, List.take, List.drop, List.cons_append, List.nil_append] at hfr
  clear hX hD; subst hfr; clear σ β X
  refine then_normal ?_
  rcases Bool.eq_false_or_eq_true (x == 127) with hs4 | hs4
  · skip
    have hs4p : x = 127 := by simpa using hs4
    refine wp_cond_true (show Act.eval _ _ = .bool true from (congrArg Value.bool hs4)) ?_
    refine wp_seq ?_
    refine wp_region_P [0] [.k 2 (.int .i64 3)] [(2, 0, 1, 3)] hst2 fun W5 hst5 => ?_
    refine then_normal ?_
    refine wp_ret ?_
    refine then_ret ?_
    refine bodyPost_ret (v := .int .i64 3) (results_tmp Tryd.results84 rfl) rfl ?_
    exact Ret.int (by unfold nxF; simp_all <;> omega) hst5.ext
  have hs4p : x ≠ 127 := by simpa using hs4
  refine wp_cond_false (show Act.eval _ _ = .bool false from (congrArg Value.bool hs4)) ?_
  refine wp_skip ?_
  refine then_normal ?_
  refine wp_seq ?_
  refine wp_region_P [0, 1, 3] [.k 10 (.int .i64 x), tI 11 (x + 1) (by omega), .k 2 (.int .i64 (x + 1))] [(2, 2, 1, 3), (7, 0, 2, 9)] hst2 fun W6 hst6 => ?_
  refine then_normal ?_
  refine wp_ret ?_
  refine bodyPost_ret (v := .int .i64 (x + 1)) (results_tmp Tryd.results84 rfl) rfl ?_
  exact Ret.int (by unfold nxF; simp_all <;> omega) hst6.ext

set_option maxRecDepth 100000 in
set_option maxHeartbeats 2000000 in
theorem cstate_any (cb : Nat) (lo nx : Int) (K : List Int) (x : Int) (w : World) (hb : Blk w cb 133 (clockL lo nx K).toArray) (hlo : onF lo = true) (hnx : onF nx = true) (hK : K.length = 128) :
    Calls Tryd.prog 42 #[.pointer (some ⟨cb, 0, none⟩), .int .i64 x] w (Ret (.int .i64 (stateF lo nx K x)) w) := by
  have st0 := St.lent1 hb
  have hal := clk_arr lo nx K
  go_enter Tryd.func42, Tryd.ntmps42
  have hst0 := st0
  refine wp_seq ?_
  refine wp_region_P [0] [.k 4 (.int .i64 0)] [(4, 0, 1, 5)] hst0 fun W1 hst1 => ?_
  refine then_normal ?_
  refine wp_seq ?_
  refine wp_block ?_
  refine wp_seq ?_
  refine wp_region_T [0, 1, 3] [] [] [] [.k 6 (.pointer (some ⟨cb, 0, none⟩)), .c 7 (.bool false), .k 5 (.bool false)] (fun _ _ _ _ => True) [0] [1] [(5, 2, 1, 6), (0, 0, 2, 2)] hst1 ?_ ?_ ?_
  · exact fun _ _ _ _ _ _ _ _ _ _ h => h
  · refine ⟨?_, trivial⟩
    · exact sv0 rfl rfl rfl rfl rfl (fun _ _ _ h => h) fun ρ β W X cx => by
        have fF6 : ρ (.tmp 6) = .pointer (some ⟨cb, 0, none⟩) := (cx.anc 0 rfl)
        simp [go_sem, cx.sees.const, fF6]
  intro σ β X W2 hD hX hst2 fr hfr
  simp only [zM, exq 0 (hX 0 _ rfl)] at hst2
  dsimp only [mgT, vals, List.take, List.drop, List.cons_append, List.nil_append] at hfr
  clear hX hD; subst hfr; clear σ β X
  refine then_normal ?_
  refine wp_cond_false (show Act.eval _ _ = .bool false from rfl) ?_
  refine wp_seq ?_
  refine wp_region_P [0, 1, 3] [.k 9 (.int .i64 x), .k 10 (.bool (x == 2)), .k 8 (.bool (x == 2))] [(8, 2, 1, 9), (0, 0, 2, 2)] hst2 fun W3 hst3 => ?_
  refine then_normal ?_
  rcases Bool.eq_false_or_eq_true (x == 2) with hs4 | hs4
  · skip
    have hs4p : x = 2 := by simpa using hs4
    refine wp_cond_true (show Act.eval _ _ = .bool true from (congrArg Value.bool hs4)) ?_
    refine wp_seq ?_
    refine wp_region_P [0] [.k 4 (.int .i64 2)] [(4, 0, 1, 5)] hst3 fun W5 hst5 => ?_
    refine then_normal ?_
    refine wp_ret ?_
    refine blk_ret ?_
    refine then_ret ?_
    refine bodyPost_ret (v := .int .i64 2) (results_tmp Tryd.results42 rfl) rfl ?_
    exact Ret.int (by simp_all [stateF]) (St.still hst5 hb)
  have hs4p : x ≠ 2 := by simpa using hs4
  refine wp_cond_false (show Act.eval _ _ = .bool false from (congrArg Value.bool hs4)) ?_
  refine wp_seq ?_
  refine wp_region_T [0, 0, 3, 7, 15] [[], [], [0]] [] [] [.k 12 (.pointer (some ⟨cb, 0, none⟩)), .k 13 (.int .i64 x), .c 14 (.bool (knowsF lo nx x)), .k 15 (.bool (!(knowsF lo nx x))), .k 11 (.bool (!(knowsF lo nx x)))] (fun _ _ _ _ => True) [0] [2] [(11, 4, 1, 12), (0, 0, 4, 4)] hst3 ?_ ?_ ?_
  · exact fun _ _ _ _ _ _ _ _ _ _ h => h
  · refine ⟨?_, trivial⟩
    · exact sv_call rfl rfl rfl rfl rfl (fun _ _ _ h => h) fun ρ β W X cx => ⟨_, _, run_callF (args := #[.pointer (some ⟨cb, 0, none⟩), .int .i64 x]) rfl cx.sees rfl (by kernel_rfl) (map2 (cx.anc 0 rfl) (cx.anc 1 rfl)), cknows_any _ lo nx K x _ (cx.blk (cx.init 0 _ rfl) rfl) hlo hnx⟩
  intro σ β X W6 hD hX hst6 fr hfr
  simp only [zM, exq 0 (hX 0 _ rfl)] at hst6
  dsimp only [mgT, vals, List.take, List.drop, List.cons_append, List.nil_append] at hfr
  clear hX hD; subst hfr; clear σ β X
  refine then_normal ?_
  rcases Bool.eq_false_or_eq_true (knowsF lo nx x) with hs7 | hs7
  · skip
    refine wp_cond_false (show Act.eval _ _ = .bool false from (congrArg Value.bool (by rw [hs7]; rfl))) ?_
    refine wp_skip ?_
    refine blk_normal ?_
    refine then_normal ?_
    refine wp_seq ?_
    have hkx := knows_on (by assumption : knowsF lo nx x = true)
    have hx2 := onF_iff.1 hkx
    refine wp_region_T [0, 0, 1, 5, 15, 31, 63, 127] [[], [], [], [], [], [], [0]] [] [] [.k 16 (.pointer (some ⟨cb, 0, none⟩)), .k 17 (.int .i64 x), .k 18 (.pointer (some ⟨cb, 0, none⟩)), .k 19 (.pointer (some ⟨cb, 2, none⟩)), .c 20 (.pointer (some ⟨cb, 2 + ((x).toNat) * 2, none⟩)), .k 21 (.pointer (some ⟨cb, 2 + ((x).toNat) * 2, none⟩)), .c 22 (.int .i64 (K.getD ((x).toNat) 0)), .k 4 (.int .i64 (K.getD ((x).toNat) 0))] (fun _ _ _ _ => True) [0] [4, 6] [(4, 7, 1, 5), (11, 0, 7, 18)] hst6 ?_ ?_ ?_
    · exact fun _ _ _ _ _ _ _ _ _ _ h => h
    · refine ⟨?_, ?_, trivial⟩
      · exact s4 rfl (fun _ _ _ h => h) fun cx => run_indexArrB (n := 128) (sz := 2) (m := (x).toNat) (q := 2 + ((x).toNat) * 2) rfl (by kernel_rfl) (cx.anc 3 rfl) (cx.anc 1 rfl) (by omega) (by omega) (by omega)
      · exact s4 rfl (fun _ _ _ h => h) fun cx => run_load1 rfl (by kernel_rfl) (cx.anc 5 rfl) (((cx.blk (cx.init 0 _ rfl) rfl).cell (2 + ((x).toNat) * 2)).trans ((List.getElem?_toArray ..).trans (clk_st (by omega))))
    intro σ β X W8 hD hX hst8 fr hfr
    simp only [zM, exq 0 (hX 0 _ rfl)] at hst8
    dsimp only [mgT, vals, List.take, List.drop, List.cons_append, List.nil_append] at hfr
    clear hX hD; subst hfr; clear σ β X
    refine then_normal ?_
    refine wp_ret ?_
    refine bodyPost_ret (v := .int .i64 (K.getD ((x).toNat) 0)) (results_tmp Tryd.results42 rfl) rfl ?_
    exact Ret.int (by simp_all [stateF]) (St.still hst8 hb)
  refine wp_cond_true (show Act.eval _ _ = .bool true from (congrArg Value.bool (by rw [hs7]; rfl))) ?_
  refine wp_seq ?_
  refine wp_region_P [0] [.k 4 (.int .i64 0)] [(4, 0, 1, 5)] hst6 fun W9 hst9 => ?_
  refine then_normal ?_
  refine wp_ret ?_
  refine blk_ret ?_
  refine then_ret ?_
  refine bodyPost_ret (v := .int .i64 0) (results_tmp Tryd.results42 rfl) rfl ?_
  exact Ret.int (by simp_all [stateF]) (St.still hst9 hb)

set_option maxRecDepth 100000 in
set_option maxHeartbeats 2000000 in
theorem cbegin_any (cb : Nat) (lo nx : Int) (K : List Int) (w : World) (hb : Blk w cb 133 (clockL lo nx K).toArray) (hlo : onF lo = true) (hnx : onF nx = true) (hK : K.length = 128) (hfar : stepsF lo nx < 60) :
    Calls Tryd.prog 43 #[.pointer (some ⟨cb, 0, none⟩), .int .i64 0] w (ClkPost cb (.tuple #[.int .i64 nx, .int .i64 0]) (clockL lo (nxF nx) (K.set nx.toNat 1)) w) := by
  have st0 := St.lent1 hb
  have hal := clk_arr lo nx K
  have hlo2 := onF_iff.1 hlo
  have hnx2 := onF_iff.1 hnx
  go_enter Tryd.func43, Tryd.ntmps43
  have hst0 := st0
  refine wp_seq ?_
  refine wp_region_P [0, 1] [.k 4 (.int .i64 0), .k 5 (.int .i64 0)] [(4, 0, 2, 6)] hst0 fun W1 hst1 => ?_
  refine then_normal ?_
  refine wp_seq ?_
  refine wp_block ?_
  refine wp_seq ?_
  refine wp_seq ?_
  refine wp_region_T [0, 1, 3] [] [] [] [.k 8 (.pointer (some ⟨cb, 0, none⟩)), .c 9 (.bool false), .k 7 (.bool false)] (fun _ _ _ _ => True) [0] [1] [(7, 2, 1, 8), (0, 0, 2, 2)] hst1 ?_ ?_ ?_
  · exact fun _ _ _ _ _ _ _ _ _ _ h => h
  · refine ⟨?_, trivial⟩
    · exact sv0 rfl rfl rfl rfl rfl (fun _ _ _ h => h) fun ρ β W X cx => by
        have fF8 : ρ (.tmp 8) = .pointer (some ⟨cb, 0, none⟩) := (cx.anc 0 rfl)
        simp [go_sem, cx.sees.const, fF8]
  intro σ β X W2 hD hX hst2 fr hfr
  simp only [zM, exq 0 (hX 0 _ rfl)] at hst2
  dsimp only [mgT, vals, List.take, List.drop, List.cons_append, List.nil_append] at hfr
  clear hX hD; subst hfr; clear σ β X
  refine then_normal ?_
  refine wp_cond_false (show Act.eval _ _ = .bool false from rfl) ?_
  refine wp_region_P [0, 1, 3, 7, 7, 31, 63, 127, 255, 255, 511, 1535, 4095, 8191, 16383, 32767, 65535, 131071, 262143] [.k 10 (.int .i64 0), .k 11 (.bool false), .k 12 (.bool false), .u 13, .u 14, .u 15, .u 16, .u 17, .u 18, .u 19, .u 20, .u 21, .u 22, .u 23, .u 24, .u 25, .u 26, .k 27 (.bool false), .k 7 (.bool false)] [(7, 18, 1, 8), (2, 0, 18, 20)] hst2 fun W3 hst3 => ?_
  refine then_normal ?_
  refine wp_cond_false (show Act.eval _ _ = .bool false from rfl) ?_
  refine wp_seq ?_
  have hd5 : (decide (60 ≤ stepsF lo nx)) = false := (by rw [decide_eq_false_iff_not]; omega)
  refine wp_region_T [0, 1, 3, 7, 0, 16, 48, 112, 255, 511, 1023] [[], [], [], [0], [], [], [], [0]] [] [] [.k 29 (.pointer (some ⟨cb, 0, none⟩)), .k 30 (.pointer (some ⟨cb, 0, none⟩)), .k 31 (.pointer (some ⟨cb, 0, none⟩)), .c 32 (.int .i64 lo), .k 33 (.pointer (some ⟨cb, 0, none⟩)), .k 34 (.pointer (some ⟨cb, 0, none⟩)), .k 35 (.pointer (some ⟨cb, 1, none⟩)), .c 36 (.int .i64 nx), .c 37 (.int .i64 (stepsF lo nx)), .e 38 (.bool (decide (60 ≤ stepsF lo nx))) (.bool false) (congrArg Value.bool hd5), .k 28 (.bool false)] (fun _ _ _ _ => True) [0] [3, 7, 8] [(28, 10, 1, 29), (0, 0, 10, 10)] hst3 ?_ ?_ ?_
  · exact fun _ _ _ _ _ _ _ _ _ _ h => h
  · refine ⟨?_, ?_, ?_, trivial⟩
    · exact s4 rfl (fun _ _ _ h => h) fun cx => run_load1 rfl (by kernel_rfl) (cx.anc 2 rfl) (((cx.blk (cx.init 0 _ rfl) rfl).cell 0).trans ((List.getElem?_toArray ..).trans rfl))
    · exact s4 rfl (fun _ _ _ h => h) fun cx => run_load1 rfl (by kernel_rfl) (cx.anc 6 rfl) (((cx.blk (cx.init 0 _ rfl) rfl).cell 1).trans ((List.getElem?_toArray ..).trans rfl))
    · exact sv_call rfl rfl rfl rfl rfl (fun _ _ _ h => h) fun ρ β W X cx => ⟨_, _, run_callF (args := #[.int .i64 lo, .int .i64 nx]) rfl cx.sees rfl (by kernel_rfl) (map2 (cx.anc 3 rfl) (cx.anc 7 rfl)), csteps_any lo nx _ (by assumption) (by assumption)⟩
  intro σ β X W4 hD hX hst4 fr hfr
  simp only [zM, exq 0 (hX 0 _ rfl)] at hst4
  dsimp only [mgT, vals, List.take, List.drop, List.cons_append, List.nil_append] at hfr
  clear hX hD; subst hfr; clear σ β X
  refine then_normal ?_
  refine wp_cond_false (show Act.eval _ _ = .bool false from rfl) ?_
  refine wp_skip ?_
  refine blk_normal ?_
  refine then_normal ?_
  refine wp_seq ?_
  refine wp_region_T [0, 1, 3, 7, 15] [[], [], [], [0]] [] [] [.k 39 (.pointer (some ⟨cb, 0, none⟩)), .k 40 (.pointer (some ⟨cb, 0, none⟩)), .k 41 (.pointer (some ⟨cb, 1, none⟩)), .c 42 (.int .i64 nx), .k 6 (.int .i64 nx)] (fun _ _ _ _ => True) [0] [3] [(6, 4, 1, 7), (32, 0, 4, 36)] hst4 ?_ ?_ ?_
  · exact fun _ _ _ _ _ _ _ _ _ _ h => h
  · refine ⟨?_, trivial⟩
    · exact s4 rfl (fun _ _ _ h => h) fun cx => run_load1 rfl (by kernel_rfl) (cx.anc 2 rfl) (((cx.blk (cx.init 0 _ rfl) rfl).cell 1).trans ((List.getElem?_toArray ..).trans rfl))
  intro σ β X W6 hD hX hst6 fr hfr
  simp only [zM, exq 0 (hX 0 _ rfl)] at hst6
  dsimp only [mgT, vals, List.take, List.drop, List.cons_append, List.nil_append] at hfr
  clear hX hD; subst hfr; clear σ β X
  refine then_normal ?_
  refine wp_seq ?_
  refine wp_region_T [0, 0, 0, 4, 1, 17, 63, 127] [[], [], [], [], [], [], [], [0]] [[], [], [], [], [], [], [], [1]] [[], [], [], [], [], [], [], [0]] [.k 43 (.pointer (some ⟨cb, 0, none⟩)), .k 44 (.int .i64 nx), .k 45 (.int .i64 0), .k 46 (.agg #[.int .i64 1, .int .i64 0]), .k 47 (.pointer (some ⟨cb, 0, none⟩)), .k 48 (.pointer (some ⟨cb, 2, none⟩)), .c 49 (.pointer (some ⟨cb, 2 + ((nx).toNat) * 2, none⟩)), .n] (fun ix σ β X => match ix with | 0 => True | 1 => True | 2 => True | 3 => True | 4 => True | 5 => True | 6 => True | 7 => X 1 = eB cb 133 (clockL lo nx (K.set ((nx).toNat) 1)).toArray | _ => True) [1] [6, 7] [(43, 0, 7, 50)] hst6 ?_ ?_ ?_
  · exact fun ix _ _ _ _ _ _ hs hb hx h => match ix, h with
    | 7, h => by dsimp only at h ⊢; rw [← hx 1 rfl]; exact h
    | 0, _ | 1, _ | 2, _ | 3, _ | 4, _ | 5, _ | 6, _ | _ + 8, _ => trivial
  · refine ⟨?_, ?_, trivial⟩
    · exact s4 rfl (fun _ _ _ h => h) fun cx => run_indexArrB (n := 128) (sz := 2) (m := (nx).toNat) (q := 2 + ((nx).toNat) * 2) rfl (by kernel_rfl) (cx.anc 5 rfl) (cx.anc 1 rfl) (by omega) (by omega) (by omega)
    · refine sv_any rfl rfl fun ρ β W X cx => ?_
      exact dv_store (n := 2) (cs := (clockL lo nx K).toArray) (cs' := (clockL lo nx (K.set ((nx).toNat) 1)).toArray) rfl (cx.anc 6 rfl) (cx.anc 3 rfl) (by kernel_rfl) (by kernel_rfl) (by kernel_rfl) cx (cx.init 0 _ rfl) rfl (by rw [clk_arr]; omega) (clk_put _ _ _ _ _) rfl rfl rfl (fun σ β' X' hs hb hx => hx)
  intro σ β X W7 hD hX hst7 fr hfr
  simp only [zM, exq 1 ((dTn (hD 7 lq)))] at hst7
  dsimp only [mgT, vals, List.take, List.drop, List.cons_append, List.nil_append] at hfr
  clear hX hD; subst hfr; clear σ β X
  refine then_normal ?_
  refine wp_seq ?_
  refine wp_region_T [0, 0, 2, 7, 15, 31] [[], [], [], [], [], [0]] [[], [], [], [], [], [1]] [[], [], [], [], [], [0]] [.k 50 (.pointer (some ⟨cb, 0, none⟩)), .k 51 (.int .i64 nx), .c 52 (.int .i64 (nxF nx)), .k 53 (.pointer (some ⟨cb, 0, none⟩)), .k 54 (.pointer (some ⟨cb, 1, none⟩)), .n] (fun ix σ β X => match ix with | 0 => True | 1 => True | 2 => True | 3 => True | 4 => True | 5 => X 1 = eB cb 133 (clockL lo (nxF nx) (K.set ((nx).toNat) 1)).toArray | _ => True) [1] [2, 5] [(50, 0, 5, 55)] hst7 ?_ ?_ ?_
  · exact fun ix _ _ _ _ _ _ hs hb hx h => match ix, h with
    | 5, h => by dsimp only at h ⊢; rw [← hx 1 rfl]; exact h
    | 0, _ | 1, _ | 2, _ | 3, _ | 4, _ | _ + 6, _ => trivial
  · refine ⟨?_, ?_, trivial⟩
    · exact sv_call rfl rfl rfl rfl rfl (fun _ _ _ h => h) fun ρ β W X cx => ⟨_, _, run_callF (args := #[.int .i64 nx]) rfl cx.sees rfl (by kernel_rfl) (map1 (cx.anc 1 rfl)), cnext_any nx _ (by assumption)⟩
    · refine sv_any rfl rfl fun ρ β W X cx => ?_
      exact dv_storeAr (m := 1) rfl (cx.anc 4 rfl) (cx.anc 2 rfl) (by kernel_rfl) rfl rfl cx (cx.init 0 _ rfl) rfl (by rw [clk_len]; first | omega | (simp only [List.length_set]; omega)) rfl (rfl) rfl rfl (fun σ β' X' hs hb hx => hx)
  intro σ β X W8 hD hX hst8 fr hfr
  simp only [zM, exq 1 ((dTn (hD 5 lq)))] at hst8
  dsimp only [mgT, vals, List.take, List.drop, List.cons_append, List.nil_append] at hfr
  clear hX hD; subst hfr; clear σ β X
  refine then_normal ?_
  refine wp_seq ?_
  refine wp_region_P [0, 1, 3] [.k 55 (.int .i64 nx), .k 4 (.int .i64 nx), .k 5 (.int .i64 0)] [(4, 1, 2, 6), (49, 0, 1, 50)] hst8 fun W9 hst9 => ?_
  refine then_normal ?_
  refine wp_ret ?_
  refine bodyPost_ret (v := .tuple #[.int .i64 nx, .int .i64 0]) (by simp [results, Tryd.results43, go_sem]) rfl ?_
  exact ⟨rfl, hst9.blk 0 rfl, hst9.upd⟩

set_option maxRecDepth 100000 in
set_option maxHeartbeats 2000000 in
theorem cnew_any (n : Int) (w : World) (hn : onF n = true) :
    Calls Tryd.prog 40 #[.int .i64 n] w (NewClk n w) := by
  go_enter Tryd.func40, Tryd.ntmps40
  have hst0 := St.start w
  refine wp_seq ?_
  refine wp_region_P [0] [.k 2 (.pointer none)] [(2, 0, 1, 3)] hst0 fun W1 hst1 => ?_
  refine then_normal ?_
  refine wp_seq ?_
  refine wp_seq ?_
  have hd3 : (onF n) = true := hn
  refine wp_region_T [0, 1, 3] [] [] [] [.k 3 (.int .i64 n), .c 4 (.bool true), .k 5 (.bool false)] (fun _ _ _ _ => True) [] [1] [(3, 0, 3, 6)] hst1 ?_ ?_ ?_
  · exact fun _ _ _ _ _ _ _ _ _ _ h => h
  · refine ⟨?_, trivial⟩
    · exact sv_call rfl rfl rfl rfl rfl (fun _ _ _ h => h.trans (congrArg Value.bool hd3)) fun ρ β W X cx => ⟨_, _, run_callF (args := #[.int .i64 n]) rfl cx.sees rfl (by kernel_rfl) (map1 (cx.anc 0 rfl)), con_any n _⟩
  intro σ β X W2 hD hX hst2 fr hfr
  simp only [zM] at hst2
  dsimp only [mgT, vals, List.take, List.drop, List.cons_append, List.nil_append] at hfr
  clear hX hD; subst hfr; clear σ β X
  refine then_normal ?_
  refine wp_cond_false (show Act.eval _ _ = .bool false from rfl) ?_
  refine wp_skip ?_
  refine then_normal ?_
  refine wp_seq ?_
  refine wp_region_T [0, 0, 3, 7, 15] [] [[], [], [], [0]] [] [.k 6 (.int .i64 n), .k 7 (.int .i64 n), .k 8 (.agg #[.int .i64 n, .int .i64 n, .int .i64 0, .int .i64 0, .int .i64 0, .int .i64 0, .int .i64 0, .int .i64 0, .int .i64 0, .int .i64 0, .int .i64 0, .int .i64 0, .int .i64 0, .int .i64 0, .int .i64 0, .int .i64 0, .int .i64 0, .int .i64 0, .int .i64 0, .int .i64 0, .int .i64 0, .int .i64 0, .int .i64 0, .int .i64 0, .int .i64 0, .int .i64 0, .int .i64 0, .int .i64 0, .int .i64 0, .int .i64 0, .int .i64 0, .int .i64 0, .int .i64 0, .int .i64 0, .int .i64 0, .int .i64 0, .int .i64 0, .int .i64 0, .int .i64 0, .int .i64 0, .int .i64 0, .int .i64 0, .int .i64 0, .int .i64 0, .int .i64 0, .int .i64 0, .int .i64 0, .int .i64 0, .int .i64 0, .int .i64 0, .int .i64 0, .int .i64 0, .int .i64 0, .int .i64 0, .int .i64 0, .int .i64 0, .int .i64 0, .int .i64 0, .int .i64 0, .int .i64 0, .int .i64 0, .int .i64 0, .int .i64 0, .int .i64 0, .int .i64 0, .int .i64 0, .int .i64 0, .int .i64 0, .int .i64 0, .int .i64 0, .int .i64 0, .int .i64 0, .int .i64 0, .int .i64 0, .int .i64 0, .int .i64 0, .int .i64 0, .int .i64 0, .int .i64 0, .int .i64 0, .int .i64 0, .int .i64 0, .int .i64 0, .int .i64 0, .int .i64 0, .int .i64 0, .int .i64 0, .int .i64 0, .int .i64 0, .int .i64 0, .int .i64 0, .int .i64 0, .int .i64 0, .int .i64 0, .int .i64 0, .int .i64 0, .int .i64 0, .int .i64 0, .int .i64 0, .int .i64 0, .int .i64 0, .int .i64 0, .int .i64 0, .int .i64 0, .int .i64 0, .int .i64 0, .int .i64 0, .int .i64 0, .int .i64 0, .int .i64 0, .int .i64 0, .int .i64 0, .int .i64 0, .int .i64 0, .int .i64 0, .int .i64 0, .int .i64 0, .int .i64 0, .int .i64 0, .int .i64 0, .int .i64 0, .int .i64 0, .int .i64 0, .int .i64 0, .int .i64 0, .int .i64 0, .int .i64 0, .int .i64 0, .int .i64 0, .int .i64 0, .int .i64 0, .int .i64 0, .int .i64 0, .int .i64 0, .int .i64 0, .int .i64 0, .int .i64 0, .int .i64 0, .int .i64 0, .int .i64 0, .int .i64 0, .int .i64 0, .int .i64 0, .int .i64 0, .int .i64 0, .int .i64 0, .int .i64 0, .int .i64 0, .int .i64 0, .int .i64 0, .int .i64 0, .int .i64 0, .int .i64 0, .int .i64 0, .int .i64 0, .int .i64 0, .int .i64 0, .int .i64 0, .int .i64 0, .int .i64 0, .int .i64 0, .int .i64 0, .int .i64 0, .int .i64 0, .int .i64 0, .int .i64 0, .int .i64 0, .int .i64 0, .int .i64 0, .int .i64 0, .int .i64 0, .int .i64 0, .int .i64 0, .int .i64 0, .int .i64 0, .int .i64 0, .int .i64 0, .int .i64 0, .int .i64 0, .int .i64 0, .int .i64 0, .int .i64 0, .int .i64 0, .int .i64 0, .int .i64 0, .int .i64 0, .int .i64 0, .int .i64 0, .int .i64 0, .int .i64 0, .int .i64 0, .int .i64 0, .int .i64 0, .int .i64 0, .int .i64 0, .int .i64 0, .int .i64 0, .int .i64 0, .int .i64 0, .int .i64 0, .int .i64 0, .int .i64 0, .int .i64 0, .int .i64 0, .int .i64 0, .int .i64 0, .int .i64 0, .int .i64 0, .int .i64 0, .int .i64 0, .int .i64 0, .int .i64 0, .int .i64 0, .int .i64 0, .int .i64 0, .int .i64 0, .int .i64 0, .int .i64 0, .int .i64 0, .int .i64 0, .int .i64 0, .int .i64 0, .int .i64 0, .int .i64 0, .int .i64 0, .int .i64 0, .int .i64 0, .int .i64 0, .int .i64 0, .int .i64 0, .int .i64 0, .int .i64 0, .int .i64 0, .int .i64 0, .int .i64 0, .int .i64 0, .int .i64 0, .int .i64 0, .int .i64 0, .int .i64 0, .int .i64 0, .int .i64 0, .int .i64 0, .int .i64 0, .int .i64 0, .int .i64 0, .int .i64 0, .int .i64 0, .int .i64 0, .int .i64 0, .int .i64 0, .int .i64 0, .int .i64 0, .int .i64 0, .int .i64 0, .int .i64 0, .int .i64 0, .int .i64 0]), .a 9, .a 2] (fun ix σ β X => match ix with | 0 => True | 1 => True | 2 => True | 3 => σ 9 = .pointer (some ⟨(pb (β 9)), 0, none⟩) ∧ X 0 = eB (pb (β 9)) 133 #[.int .i64 n, .int .i64 n, .int .i64 0, .int .i64 0, .int .i64 0, .int .i64 0, .int .i64 0, .int .i64 0, .int .i64 0, .int .i64 0, .int .i64 0, .int .i64 0, .int .i64 0, .int .i64 0, .int .i64 0, .int .i64 0, .int .i64 0, .int .i64 0, .int .i64 0, .int .i64 0, .int .i64 0, .int .i64 0, .int .i64 0, .int .i64 0, .int .i64 0, .int .i64 0, .int .i64 0, .int .i64 0, .int .i64 0, .int .i64 0, .int .i64 0, .int .i64 0, .int .i64 0, .int .i64 0, .int .i64 0, .int .i64 0, .int .i64 0, .int .i64 0, .int .i64 0, .int .i64 0, .int .i64 0, .int .i64 0, .int .i64 0, .int .i64 0, .int .i64 0, .int .i64 0, .int .i64 0, .int .i64 0, .int .i64 0, .int .i64 0, .int .i64 0, .int .i64 0, .int .i64 0, .int .i64 0, .int .i64 0, .int .i64 0, .int .i64 0, .int .i64 0, .int .i64 0, .int .i64 0, .int .i64 0, .int .i64 0, .int .i64 0, .int .i64 0, .int .i64 0, .int .i64 0, .int .i64 0, .int .i64 0, .int .i64 0, .int .i64 0, .int .i64 0, .int .i64 0, .int .i64 0, .int .i64 0, .int .i64 0, .int .i64 0, .int .i64 0, .int .i64 0, .int .i64 0, .int .i64 0, .int .i64 0, .int .i64 0, .int .i64 0, .int .i64 0, .int .i64 0, .int .i64 0, .int .i64 0, .int .i64 0, .int .i64 0, .int .i64 0, .int .i64 0, .int .i64 0, .int .i64 0, .int .i64 0, .int .i64 0, .int .i64 0, .int .i64 0, .int .i64 0, .int .i64 0, .int .i64 0, .int .i64 0, .int .i64 0, .int .i64 0, .int .i64 0, .int .i64 0, .int .i64 0, .int .i64 0, .int .i64 0, .int .i64 0, .int .i64 0, .int .i64 0, .int .i64 0, .int .i64 0, .int .i64 0, .int .i64 0, .int .i64 0, .int .i64 0, .int .i64 0, .int .i64 0, .int .i64 0, .int .i64 0, .int .i64 0, .int .i64 0, .int .i64 0, .int .i64 0, .int .i64 0, .int .i64 0, .int .i64 0, .int .i64 0, .int .i64 0, .int .i64 0, .int .i64 0, .int .i64 0, .int .i64 0, .int .i64 0, .int .i64 0, .int .i64 0, .int .i64 0, .int .i64 0, .int .i64 0, .int .i64 0, .int .i64 0, .int .i64 0, .int .i64 0, .int .i64 0, .int .i64 0, .int .i64 0, .int .i64 0, .int .i64 0, .int .i64 0, .int .i64 0, .int .i64 0, .int .i64 0, .int .i64 0, .int .i64 0, .int .i64 0, .int .i64 0, .int .i64 0, .int .i64 0, .int .i64 0, .int .i64 0, .int .i64 0, .int .i64 0, .int .i64 0, .int .i64 0, .int .i64 0, .int .i64 0, .int .i64 0, .int .i64 0, .int .i64 0, .int .i64 0, .int .i64 0, .int .i64 0, .int .i64 0, .int .i64 0, .int .i64 0, .int .i64 0, .int .i64 0, .int .i64 0, .int .i64 0, .int .i64 0, .int .i64 0, .int .i64 0, .int .i64 0, .int .i64 0, .int .i64 0, .int .i64 0, .int .i64 0, .int .i64 0, .int .i64 0, .int .i64 0, .int .i64 0, .int .i64 0, .int .i64 0, .int .i64 0, .int .i64 0, .int .i64 0, .int .i64 0, .int .i64 0, .int .i64 0, .int .i64 0, .int .i64 0, .int .i64 0, .int .i64 0, .int .i64 0, .int .i64 0, .int .i64 0, .int .i64 0, .int .i64 0, .int .i64 0, .int .i64 0, .int .i64 0, .int .i64 0, .int .i64 0, .int .i64 0, .int .i64 0, .int .i64 0, .int .i64 0, .int .i64 0, .int .i64 0, .int .i64 0, .int .i64 0, .int .i64 0, .int .i64 0, .int .i64 0, .int .i64 0, .int .i64 0, .int .i64 0, .int .i64 0, .int .i64 0, .int .i64 0, .int .i64 0, .int .i64 0, .int .i64 0, .int .i64 0, .int .i64 0, .int .i64 0, .int .i64 0, .int .i64 0, .int .i64 0, .int .i64 0, .int .i64 0, .int .i64 0, .int .i64 0, .int .i64 0, .int .i64 0, .int .i64 0, .int .i64 0, .int .i64 0, .int .i64 0, .int .i64 0, .int .i64 0, .int .i64 0, .int .i64 0, .int .i64 0, .int .i64 0, .int .i64 0, .int .i64 0] | 4 => σ 2 = .pointer (some ⟨(pb (β 9)), 0, none⟩) | _ => True) [0] [3, 4] [(2, 4, 1, 3), (3, 0, 4, 7)] hst2 ?_ ?_ ?_
  · exact fun ix _ _ _ _ _ _ hs hb hx h => match ix, h with
    | 3, h => by dsimp only at h ⊢; rw [← hs 9 rfl, ← hb 9 rfl, ← hx 0 rfl]; exact h
    | 4, h => by dsimp only at h ⊢; rw [← hs 2 rfl, ← hb 9 rfl]; exact h
    | 0, _ | 1, _ | 2, _ | _ + 5, _ => trivial
  · refine ⟨?_, ?_, trivial⟩
    · refine sv_any rfl rfl fun ρ β W X cx => ?_
      exact dv_box (cs := #[.int .i64 n, .int .i64 n, .int .i64 0, .int .i64 0, .int .i64 0, .int .i64 0, .int .i64 0, .int .i64 0, .int .i64 0, .int .i64 0, .int .i64 0, .int .i64 0, .int .i64 0, .int .i64 0, .int .i64 0, .int .i64 0, .int .i64 0, .int .i64 0, .int .i64 0, .int .i64 0, .int .i64 0, .int .i64 0, .int .i64 0, .int .i64 0, .int .i64 0, .int .i64 0, .int .i64 0, .int .i64 0, .int .i64 0, .int .i64 0, .int .i64 0, .int .i64 0, .int .i64 0, .int .i64 0, .int .i64 0, .int .i64 0, .int .i64 0, .int .i64 0, .int .i64 0, .int .i64 0, .int .i64 0, .int .i64 0, .int .i64 0, .int .i64 0, .int .i64 0, .int .i64 0, .int .i64 0, .int .i64 0, .int .i64 0, .int .i64 0, .int .i64 0, .int .i64 0, .int .i64 0, .int .i64 0, .int .i64 0, .int .i64 0, .int .i64 0, .int .i64 0, .int .i64 0, .int .i64 0, .int .i64 0, .int .i64 0, .int .i64 0, .int .i64 0, .int .i64 0, .int .i64 0, .int .i64 0, .int .i64 0, .int .i64 0, .int .i64 0, .int .i64 0, .int .i64 0, .int .i64 0, .int .i64 0, .int .i64 0, .int .i64 0, .int .i64 0, .int .i64 0, .int .i64 0, .int .i64 0, .int .i64 0, .int .i64 0, .int .i64 0, .int .i64 0, .int .i64 0, .int .i64 0, .int .i64 0, .int .i64 0, .int .i64 0, .int .i64 0, .int .i64 0, .int .i64 0, .int .i64 0, .int .i64 0, .int .i64 0, .int .i64 0, .int .i64 0, .int .i64 0, .int .i64 0, .int .i64 0, .int .i64 0, .int .i64 0, .int .i64 0, .int .i64 0, .int .i64 0, .int .i64 0, .int .i64 0, .int .i64 0, .int .i64 0, .int .i64 0, .int .i64 0, .int .i64 0, .int .i64 0, .int .i64 0, .int .i64 0, .int .i64 0, .int .i64 0, .int .i64 0, .int .i64 0, .int .i64 0, .int .i64 0, .int .i64 0, .int .i64 0, .int .i64 0, .int .i64 0, .int .i64 0, .int .i64 0, .int .i64 0, .int .i64 0, .int .i64 0, .int .i64 0, .int .i64 0, .int .i64 0, .int .i64 0, .int .i64 0, .int .i64 0, .int .i64 0, .int .i64 0, .int .i64 0, .int .i64 0, .int .i64 0, .int .i64 0, .int .i64 0, .int .i64 0, .int .i64 0, .int .i64 0, .int .i64 0, .int .i64 0, .int .i64 0, .int .i64 0, .int .i64 0, .int .i64 0, .int .i64 0, .int .i64 0, .int .i64 0, .int .i64 0, .int .i64 0, .int .i64 0, .int .i64 0, .int .i64 0, .int .i64 0, .int .i64 0, .int .i64 0, .int .i64 0, .int .i64 0, .int .i64 0, .int .i64 0, .int .i64 0, .int .i64 0, .int .i64 0, .int .i64 0, .int .i64 0, .int .i64 0, .int .i64 0, .int .i64 0, .int .i64 0, .int .i64 0, .int .i64 0, .int .i64 0, .int .i64 0, .int .i64 0, .int .i64 0, .int .i64 0, .int .i64 0, .int .i64 0, .int .i64 0, .int .i64 0, .int .i64 0, .int .i64 0, .int .i64 0, .int .i64 0, .int .i64 0, .int .i64 0, .int .i64 0, .int .i64 0, .int .i64 0, .int .i64 0, .int .i64 0, .int .i64 0, .int .i64 0, .int .i64 0, .int .i64 0, .int .i64 0, .int .i64 0, .int .i64 0, .int .i64 0, .int .i64 0, .int .i64 0, .int .i64 0, .int .i64 0, .int .i64 0, .int .i64 0, .int .i64 0, .int .i64 0, .int .i64 0, .int .i64 0, .int .i64 0, .int .i64 0, .int .i64 0, .int .i64 0, .int .i64 0, .int .i64 0, .int .i64 0, .int .i64 0, .int .i64 0, .int .i64 0, .int .i64 0, .int .i64 0, .int .i64 0, .int .i64 0, .int .i64 0, .int .i64 0, .int .i64 0, .int .i64 0, .int .i64 0, .int .i64 0, .int .i64 0, .int .i64 0, .int .i64 0, .int .i64 0, .int .i64 0, .int .i64 0, .int .i64 0, .int .i64 0, .int .i64 0, .int .i64 0, .int .i64 0, .int .i64 0, .int .i64 0, .int .i64 0, .int .i64 0, .int .i64 0, .int .i64 0, .int .i64 0, .int .i64 0, .int .i64 0, .int .i64 0, .int .i64 0]) rfl (cx.anc 2 rfl) rfl rfl rfl (fun σ β' X' hs hb hv hx => ⟨hv, hx⟩)
    · exact sv rfl rfl rfl rfl rfl _ (fun _ _ _ h => h) (fun β β' h => by rw [h 9 (by decide)]) fun ρ β W X cx => run_assign' rfl (dTn (cx.anc 3 rfl)).1
  intro σ β X W4 hD hX hst4 fr hfr
  obtain ⟨B9_4, hu_B9_4⟩ : ∃ z, pb (β 9) = z := ⟨_, rfl⟩
  simp only [zM, exq 0 ((dTn (hD 3 lq)).2), hu_B9_4] at hst4
  dsimp only [mgT, vals, List.take, List.drop, List.cons_append, List.nil_append] at hfr
  simp only [ed 9 ((dTn (hD 3 lq)).1), ed 2 ((dTn (hD 4 lq))), hu_B9_4] at hfr
  clear hX hD hu_B9_4; subst hfr; clear σ β X
  refine then_normal ?_
  refine wp_ret ?_
  refine bodyPost_ret (v := .pointer (some ⟨B9_4, 0, none⟩)) (results_tmp Tryd.results40 rfl) rfl ?_
  exact ⟨_, rfl, (hst4.blk 0 rfl).trans (by kernel_rfl), ((hst4.get 0 rfl).own _ (by simp [eB])).1.resolve_left (by simp), hst4.ext⟩

end Go.Proofs.YtfjpglohcppjeaaDoor

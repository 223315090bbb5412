/- tuple.right, tuple.Bytes. -/
import Derived.Test.YtfjpglohcppjeaaDoorT9b
import Derived.Test.YtfjpglohcppjeaaDoorShelf
namespace Go.Proofs.YtfjpglohcppjeaaDoor
open Go.RowKit
set_option linter.unusedVariables false
set_option linter.unusedSimpArgs false

def idxBad (r : List Val) : Int := if r.all vrightF = true then -1 else ((r.takeWhile vrightF).length : Int)
theorem idx_bad {r : List Val} {k : Nat} (hk : k < r.length) (h : (r.take k).all vrightF = true) (h2 : vrightF (r.getD k v0) = false) : (k : Int) = idxBad r := by
  have hb : r.all vrightF = false := by
    rw [List.all_eq_false]
    rw [List.getD_eq_getElem?_getD, List.getElem?_eq_getElem hk] at h2
    exact ⟨r[k], List.getElem_mem hk, by simpa using h2⟩
  rw [idxBad, hb, if_neg (by simp)]
  congr 1
  have hs : r = r.take k ++ r[k] :: r.drop (k + 1) := by rw [List.getElem_cons_drop, List.take_append_drop]
  have e1 : r.takeWhile vrightF = r.take k := by
    conv => lhs; rw [hs]
    rw [List.takeWhile_append_of_pos (by rw [List.all_eq_true] at h; exact h)]
    rw [List.getD_eq_getElem?_getD, List.getElem?_eq_getElem hk] at h2
    rw [List.takeWhile_cons_of_neg (by simpa using h2), List.append_nil]
  rw [e1, List.length_take]; omega
theorem idx_none {r : List Val} {k : Nat} (hk : r.length ≤ k) (h : (r.take k).all vrightF = true) : (-1 : Int) = idxBad r := by
  rw [List.take_of_length_le hk] at h
  rw [idxBad, if_pos h]
theorem idx_ge (r : List Val) : decide (0 ≤ idxBad r) = !(r.all vrightF) := by
  rw [idxBad]
  cases h : r.all vrightF with
  | true => simp
  | false => simp
theorem Ext.below_ {x z : World} (k : Below x.heap.size x z) : Ext x z :=
  ⟨k.os, k.tape, k.output, k.size, fun i hi => k.block i hi⟩
def catS (l : List ByteArray) : ByteArray := strL (l.flatMap fun s => s.data.toList)
theorem join_any (v : Value) (xs : List ByteArray) (w : World) (hown : w.ownsRow 0 9 1 v xs.length (xs.map Value.string)) (hne : 0 < xs.length) (hlen : ∀ s ∈ xs, s.size ≤ 1000000) (hN : xs.length ≤ 100) :
    Calls Tryd.prog 56 #[v, .string ⟨#[]⟩] w (Ret (.string (catS xs)) w) := by
  have hlt := hown.lt
  rcases hown.2 with ⟨hv, h0⟩ | ⟨g, cap, cur, hv, hb, hg, hle, hmx, hcs, htk⟩
  · omega
  · subst hv
    have hj : Lib.join (xs.map (·.data.toList)) [] = xs.flatMap fun s => s.data.toList := by
      rw [Lib.join, List.intercalate]
      have : ∀ l : List (List UInt8), (List.intersperse [] l).flatten = l.flatten := by
        intro l
        induction l with
        | nil => rfl
        | cons a l ih =>
          cases l with
          | nil => rfl
          | cons b l => rw [List.intersperse_cons_cons, List.flatten_cons, List.flatten_cons, ih]; simp
      rw [this, List.flatMap_def]
    have hl : ∀ l : List ByteArray, (∀ s ∈ l, s.size ≤ 1000000) → (l.flatMap fun s => s.data.toList).length ≤ l.length * 1000000 := by
      intro l
      induction l with
      | nil => simp
      | cons a l ih =>
        intro h
        have h1 := ih fun s hs => h s (by simp [hs])
        have h2 : a.data.toList.length ≤ 1000000 := by rw [Array.length_toList]; exact h a (by simp)
        rw [List.flatMap_cons, List.length_append, List.length_cons, Nat.add_mul]
        omega
    have hl' := hl xs hlen
    refine (Tryd.strings_Join g 0 cap xs ⟨#[]⟩ w (fun j x hx => ?_) (hlt g rfl).2 (by omega) (by omega) ?_).mono ?_
    · have hjl := (List.getElem?_eq_some_iff.1 hx).1
      rw [Nat.zero_add, hown.cellAt j (by simpa using hjl)]
      simp [hx]
    · show (Lib.join (xs.map (·.data.toList)) []).length ≤ _
      rw [hj]
      have : xs.length * 1000000 ≤ 100 * 1000000 := Nat.mul_le_mul_right _ hN
      omega
    · rintro e w' ⟨rfl, hb⟩
      refine ⟨?_, Ext.below_ hb⟩
      show Ending.returned (.string ⟨(Lib.join (xs.map (·.data.toList)) []).toArray⟩) = _
      rw [hj]
      rfl
def onZ (b : Int) : Bool := b == 0 || onF b
def tnextF (n1 n2 : Int) : Bool := (n1 == -1 && n2 == 0) || (decide (0 ≤ n1) && decide (n1 < 400) && decide (0 ≤ n2) && decide (n2 < 24))
def trightF (a b n1 n2 : Int) (rs : List Val) : Bool := (a == 2 || onF a) && onZ b && tnextF n1 n2 && rrightF rs
def hotI (ho : Bool) : Int := if ho then 1 else 0
def tbytesF (a b n1 n2 : Int) (ho : Bool) (rs : List Val) : ByteArray :=
  if trightF a b n1 n2 rs = true then catS [putS a 1, putS b 1, putS (n1 + 1) 2, putS n2 1, putS (hotI ho) 1, textO (vbytesF rs)] else ByteArray.empty
theorem vbytes_size (r : List Val) : (vbytesF r).size ≤ 301 := by
  rw [vbytesF]
  split
  · rename_i h
    have := bt_len h r.length
    show (bytesTo r r.length).toArray.size ≤ 301
    simpa using this
  · exact Nat.zero_le _
theorem tright_parts {a b n1 n2 : Int} {rs : List Val} (h : trightF a b n1 n2 rs = true) : 0 ≤ a ∧ a < 128 ∧ 0 ≤ b ∧ b < 128 ∧ -1 ≤ n1 ∧ n1 < 400 ∧ 0 ≤ n2 ∧ n2 < 24 ∧ rrightF rs = true := by
  simp only [trightF, onZ, tnextF, onF, Bool.and_eq_true, Bool.or_eq_true, decide_eq_true_eq, beq_iff_eq] at h
  refine ⟨?_, ?_, ?_, ?_, ?_, ?_, ?_, ?_, h.2⟩ <;> omega
set_option maxRecDepth 100000 in
set_option maxHeartbeats 2000000 in
theorem trightv_any (v : Val) (w : World) :
    Calls Tryd.prog 103 #[.agg #[.int .i64 v.1, .int .i64 v.2.1, .string v.2.2]] w (Ret (.bool (!(vrightF v))) w) := by
  go_enter Tryd.func103, Tryd.ntmps103
  have hst0 := St.start w
  refine wp_seq ?_
  refine wp_region_T [0, 0] [] [[0]] [] [.a 1, .k 2 (.bool false)] (fun ix σ β X => match ix with | 0 => σ 1 = .pointer (some ⟨(pb (β 1)), 0, none⟩) ∧ X 0 = eB (pb (β 1)) 103 #[.int .i64 v.1, .int .i64 v.2.1, .string v.2.2] | _ => True) [0] [0] [(1, 0, 2, 3)] hst0 ?_ ?_ ?_
  · exact fun ix _ _ _ _ _ _ hs hb hx h => match ix, h with
    | 0, h => by dsimp only at h ⊢; rw [← hs 1 rfl, ← hb 1 rfl, ← hx 0 rfl]; exact h
    | _ + 1, _ => trivial
  · refine ⟨?_, trivial⟩
    · refine sv_any rfl rfl fun ρ β W X cx => ?_
      exact dv_box (cs := #[.int .i64 v.1, .int .i64 v.2.1, .string v.2.2]) rfl (cx.out 0 rfl) rfl rfl rfl (fun σ β' X' hs hb hv hx => ⟨hv, hx⟩)
  intro σ β X W1 hD hX hst1 fr hfr
  obtain ⟨B1_1, hu_B1_1⟩ : ∃ z, pb (β 1) = z := ⟨_, rfl⟩
  simp only [zM, exq 0 ((dTn (hD 0 lq)).2), hu_B1_1] at hst1
  dsimp only [mgT, vals, List.take, List.drop, List.cons_append, List.nil_append] at hfr
  simp only [ed 1 ((dTn (hD 0 lq)).1), hu_B1_1] at hfr
  clear hX hD hu_B1_1; subst hfr; clear σ β X
  refine then_normal ?_
  refine wp_seq ?_
  refine wp_region_T [0, 1, 3, 7] [[0]] [] [] [.c 3 (.agg #[.int .i64 v.1, .int .i64 v.2.1, .string v.2.2]), .c 4 (.bool (vrightF (v.1, v.2.1, v.2.2))), .k 5 (.bool (!(vrightF (v.1, v.2.1, v.2.2)))), .k 2 (.bool (!(vrightF (v.1, v.2.1, v.2.2))))] (fun _ _ _ _ => True) [0] [0, 1] [(2, 3, 1, 3), (0, 0, 3, 3)] hst1 ?_ ?_ ?_
  · exact fun _ _ _ _ _ _ _ _ _ _ h => h
  · refine ⟨?_, ?_, trivial⟩
    · exact s4 rfl (fun _ _ _ h => h) fun cx => run_loadB (n := 3) rfl (by kernel_rfl) (by kernel_rfl) (cx.out 1 rfl) (cx.blk (cx.init 0 _ rfl) rfl) (Nat.le_of_ble_eq_true rfl) rfl
    · exact sv_call rfl rfl rfl rfl rfl (fun _ _ _ h => h) fun ρ β W X cx => ⟨_, _, run_callF (args := #[.agg #[.int .i64 v.1, .int .i64 v.2.1, .string v.2.2]]) rfl cx.sees rfl (by kernel_rfl) (map1 (cx.anc 0 rfl)), vright_any (v.1, v.2.1, v.2.2) _⟩
  intro σ β X W2 hD hX hst2 fr hfr
  simp only [zM, exq 0 (hX 0 _ rfl)] at hst2
  dsimp only [mgT, vals, List.take, List.drop, List.cons_append, List.nil_append] at hfr
  clear hX hD; subst hfr; clear σ β X
  refine then_normal ?_
  refine wp_ret ?_
  refine bodyPost_ret (v := .bool (!(vrightF (v.1, v.2.1, v.2.2)))) (results_tmp Tryd.results103 rfl) rfl ?_
  exact Ret.of rfl hst2.ext

set_option maxRecDepth 100000 in
set_option maxHeartbeats 2000000 in
theorem indexf_any (RA : Option Addr) (rc : Nat) (r : List Val) (w : World) (hA : At w RA (flatR r)) (hlr : r.length ≤ 9223372036854775807) :
    Calls Tryd.prog 126 #[.slice RA r.length rc, .func (.func 103) #[] #[]] w (Ret (.int .i64 (idxBad r)) w) := by
  go_enter Tryd.func126, Tryd.ntmps126
  have hst0 := St.start w
  refine wp_seq ?_
  refine wp_region_P [0] [.k 4 (.int .i64 0)] [(4, 0, 1, 5)] hst0 fun W1 hst1 => ?_
  refine then_normal ?_
  refine wp_seq ?_
  refine wp_seq ?_
  refine wp_region_P [0, 1, 0] [.k 6 (.slice RA r.length rc), .k 7 (.int .i64 ((r.length : Int))), .k 8 (.int .i64 0)] [(6, 0, 3, 9)] hst1 fun W2 hst2 => ?_
  refine then_normal ?_
  refine wp_block ?_
  refine wp_loopN (fun mz az W => ∃ k : Nat, ∃ u3_ : List Value, k ≤ r.length ∧ (r.take k).all vrightF = true ∧ mz = r.length - k ∧ az = ⟨#[.slice RA r.length rc, .func (.func 103) #[] #[], undef, undef, (u3_.getD 0 undef), (u3_.getD 1 undef), .slice RA r.length rc, .int .i64 ((r.length : Int)), .int .i64 ((k : Int)), (u3_.getD 2 undef), (u3_.getD 3 undef), (u3_.getD 4 undef), (u3_.getD 5 undef), (u3_.getD 6 undef), (u3_.getD 7 undef), (u3_.getD 8 undef), (u3_.getD 9 undef), (u3_.getD 10 undef), (u3_.getD 11 undef)], []⟩ ∧ St w [] [] W) (r.length - 0) ?_ ?_
  · -- the loop begins
    have hp4 := hst2.pick [] (by decide) rfl
    exact ⟨0, [.int .i64 0, undef, undef, undef, undef, undef, undef, undef, undef, undef, undef, undef], by omega, rfl, rfl, rfl, hp4⟩
  rintro n3 a3 W3 ⟨k, u3_, hkl, hka, rfl, rfl, hst3⟩
  refine wp_seq ?_
  refine wp_region_P [0] [.k 9 (.bool (decide ((k : Int) < (r.length : Int))))] [(9, 0, 1, 10)] hst3 fun W5 hst5 => ?_
  refine then_normal ?_
  refine wp_seq ?_
  rcases Bool.eq_false_or_eq_true (decide ((k : Int) < (r.length : Int))) with hs6 | hs6
  · skip
    have hs6p : (k : Int) < (r.length : Int) := by simpa using hs6
    refine wp_cond_true (show Act.eval _ _ = .bool true from (congrArg Value.bool hs6)) ?_
    refine wp_skip ?_
    refine then_normal ?_
    refine wp_seq ?_
    refine wp_block ?_
    refine wp_seq ?_
    refine wp_region_P [0, 1] [.k 10 (.int .i64 ((k : Int))), .k 5 (.int .i64 ((k : Int)))] [(5, 1, 1, 6), (4, 0, 1, 5)] hst5 fun W7 hst7 => ?_
    refine then_normal ?_
    refine wp_seq ?_
    refine wp_region_T [0, 0, 0, 6, 14, 31] [] [] [] [.k 11 (.func (.func 103) #[] #[]), .k 12 (.slice RA r.length rc), .k 13 (.int .i64 ((k : Int))), .c 14 (.pointer (some ((ad RA).add (k * 3)))), .c 15 (.agg #[.int .i64 ((r.getD k v0).1), .int .i64 ((r.getD k v0).2.1), .string ((r.getD k v0).2.2)]), .c 16 (.bool (!(vrightF (r.getD k v0))))] (fun _ _ _ _ => True) [] [3, 4, 5] [(11, 0, 6, 17)] hst7 ?_ ?_ ?_
    · exact fun _ _ _ _ _ _ _ _ _ _ h => h
    · refine ⟨?_, ?_, ?_, trivial⟩
      · exact s4 rfl (fun _ _ _ h => h) fun cx => run_indexSlM (e := 103) (m := k) (sz := 3) rfl (by kernel_rfl) (by kernel_rfl) (cx.anc 1 rfl) (cx.anc 2 rfl) (by omega) (by omega) (hA.ext cx.upd.to_ext) (by have h_ := flatLen (f := cellsV) (sz := 3) cellsV_len r; show 0 < (List.flatMap cellsV r).length; omega)
      · exact s4 rfl (fun _ _ _ h => h) fun cx => run_loadElt (f := cellsV) (m := k) (sz := 3) (off := 0) (n := 3) rfl (by kernel_rfl) (by kernel_rfl) (cx.anc 3 rfl) rfl cellsV_len (hA.ext cx.upd.to_ext) (getD_some (ts := r) (m := k) v0 (by omega)) (fun k hk => match k, hk with | 0, _ => rfl | 1, _ => rfl | 2, _ => rfl | k + 3, hk => absurd hk (by omega))
      · exact sv_call rfl rfl rfl rfl rfl (fun _ _ _ h => h) fun ρ β W X cx => ⟨_, _, run_callV (f := 103) (args := #[.agg #[.int .i64 ((r.getD k v0).1), .int .i64 ((r.getD k v0).2.1), .string ((r.getD k v0).2.2)]]) (args' := #[.agg #[.int .i64 ((r.getD k v0).1), .int .i64 ((r.getD k v0).2.1), .string ((r.getD k v0).2.2)]]) rfl rfl (cx.anc 0 rfl) (by kernel_rfl) (map1 (cx.anc 4 rfl)) rfl, trightv_any (r.getD k v0) _⟩
    intro σ β X W8 hD hX hst8 fr hfr
    simp only [zM] at hst8
    dsimp only [mgT, vals, List.take, List.drop, List.cons_append, List.nil_append] at hfr
    clear hX hD; subst hfr; clear σ β X
    refine then_normal ?_
    rcases Bool.eq_false_or_eq_true (vrightF (r.getD k v0)) with hs9 | hs9
    · skip
      refine wp_cond_false (show Act.eval _ _ = .bool false from (congrArg Value.bool (by rw [hs9]; rfl))) ?_
      refine wp_skip ?_
      refine blk_normal ?_
      refine then_normal ?_
      refine wp_region_P [0, 1] [tI 18 ((k : Int) + 1) (by omega), .k 8 (.int .i64 ((k : Int) + 1))] [(8, 1, 1, 9), (9, 0, 1, 10)] hst8 fun W10 hst10 => ?_
      refine then_normal ?_
      refine ⟨r.length - ((k + 1)), by omega, ?_⟩
      have hp11 := hst10.pick [] (by decide) rfl
      exact ⟨(k + 1), [(u3_.getD 0 undef), .int .i64 ((k : Int)), .bool (decide ((k : Int) < (r.length : Int))), .int .i64 ((k : Int)), .func (.func 103) #[] #[], .slice RA r.length rc, .int .i64 ((k : Int)), .pointer (some ((ad RA).add (k * 3))), .agg #[.int .i64 ((r.getD k v0).1), .int .i64 ((r.getD k v0).2.1), .string ((r.getD k v0).2.2)], .bool (!(vrightF (r.getD k v0))), (u3_.getD 10 undef), .int .i64 ((k : Int) + 1)], by omega, rright_step (by omega) hka hs9, rfl, rfl, hp11⟩
    refine wp_cond_true (show Act.eval _ _ = .bool true from (congrArg Value.bool (by rw [hs9]; rfl))) ?_
    refine wp_seq ?_
    refine wp_region_P [0, 1] [.k 17 (.int .i64 ((k : Int))), .k 4 (.int .i64 ((k : Int)))] [(4, 1, 1, 5), (12, 0, 1, 13)] hst8 fun W12 hst12 => ?_
    refine then_normal ?_
    refine wp_ret ?_
    refine blk_ret ?_
    refine then_ret ?_
    refine then_ret ?_
    refine blk_ret ?_
    refine then_ret ?_
    refine bodyPost_ret (v := .int .i64 ((k : Int))) (results_tmp Tryd.results126 rfl) rfl ?_
    exact Ret.int (idx_bad (by omega) hka hs9) hst12.ext
  have hs6p : ¬ ((k : Int) < (r.length : Int)) := by simpa using hs6
  refine wp_cond_false (show Act.eval _ _ = .bool false from (congrArg Value.bool hs6)) ?_
  refine wp_exit ?_
  refine then_exit ?_
  refine then_exit ?_
  refine blk_eq ?_
  refine then_normal ?_
  refine wp_seq ?_
  refine wp_region_P [0] [.k 4 (.int .i64 (-1))] [(4, 0, 1, 5)] hst5 fun W13 hst13 => ?_
  refine then_normal ?_
  refine wp_ret ?_
  refine bodyPost_ret (v := .int .i64 (-1)) (results_tmp Tryd.results126 rfl) rfl ?_
  exact Ret.int (idx_none (by omega) hka) hst13.ext

set_option maxRecDepth 100000 in
set_option maxHeartbeats 2000000 in
theorem containsf_any (RA : Option Addr) (rc : Nat) (r : List Val) (w : World) (hA : At w RA (flatR r)) (hlr : r.length ≤ 9223372036854775807) :
    Calls Tryd.prog 102 #[.slice RA r.length rc, .func (.func 103) #[] #[]] w (Ret (.bool (!(r.all vrightF))) w) := by
  go_enter Tryd.func102, Tryd.ntmps102
  have hst0 := St.start w
  refine wp_seq ?_
  refine wp_region_P [0] [.k 4 (.bool false)] [(4, 0, 1, 5)] hst0 fun W1 hst1 => ?_
  refine then_normal ?_
  refine wp_seq ?_
  refine wp_region_T [0, 0, 3, 7, 15] [] [] [] [.k 5 (.slice RA r.length rc), .k 6 (.func (.func 103) #[] #[]), .c 7 (.int .i64 (idxBad r)), .k 8 (.bool (decide (0 ≤ idxBad r))), .k 4 (.bool (decide (0 ≤ idxBad r)))] (fun _ _ _ _ => True) [] [2] [(4, 4, 1, 5), (0, 0, 4, 4)] hst1 ?_ ?_ ?_
  · exact fun _ _ _ _ _ _ _ _ _ _ h => h
  · refine ⟨?_, trivial⟩
    · exact sv_call rfl rfl rfl rfl rfl (fun _ _ _ h => h) fun ρ β W X cx => ⟨_, _, run_callF (args := #[.slice RA r.length rc, .func (.func 103) #[] #[]]) rfl cx.sees rfl (by kernel_rfl) (map2 (cx.anc 0 rfl) (cx.anc 1 rfl)), indexf_any _ _ r _ (hA.ext cx.upd.to_ext) (by omega)⟩
  intro σ β X W2 hD hX hst2 fr hfr
  simp only [zM] at hst2
  dsimp only [mgT, vals, List.take, List.drop, List.cons_append, List.nil_append] at hfr
  clear hX hD; subst hfr; clear σ β X
  refine then_normal ?_
  refine wp_ret ?_
  refine bodyPost_ret (v := .bool (decide (0 ≤ idxBad r))) (results_tmp Tryd.results102 rfl) rfl ?_
  exact Ret.bool (idx_ge r) hst2.ext

set_option maxRecDepth 100000 in
set_option maxHeartbeats 2000000 in
theorem tright_any (a b n1 n2 : Int) (ho : Bool) (RA : Option Addr) (rc : Nat) (r : List Val) (w : World) (hA : At w RA (flatR r)) (hlr : r.length ≤ 9223372036854775807) (hN : NoneAt w) :
    Calls Tryd.prog 55 #[.agg #[.int .i64 a, .int .i64 b, .int .i64 n1, .int .i64 n2, .bool ho, .slice RA r.length rc]] w (Ret (.bool (trightF a b n1 n2 r)) w) := by
  have hn6 : decide (r.length ≤ 6) = decide ((r.length : Int) ≤ 6) := by simp only [decide_eq_decide]; omega
  go_enter Tryd.func55, Tryd.ntmps55
  have hst0 := St.start w
  refine wp_seq ?_
  refine wp_region_T [0, 0] [] [[0]] [] [.a 1, .k 2 (.bool false)] (fun ix σ β X => match ix with | 0 => σ 1 = .pointer (some ⟨(pb (β 1)), 0, none⟩) ∧ X 0 = eB (pb (β 1)) 27 #[.int .i64 a, .int .i64 b, .int .i64 n1, .int .i64 n2, .bool ho, .slice RA r.length rc] | _ => True) [0] [0] [(1, 0, 2, 3)] hst0 ?_ ?_ ?_
  · exact fun ix _ _ _ _ _ _ hs hb hx h => match ix, h with
    | 0, h => by dsimp only at h ⊢; rw [← hs 1 rfl, ← hb 1 rfl, ← hx 0 rfl]; exact h
    | _ + 1, _ => trivial
  · refine ⟨?_, trivial⟩
    · refine sv_any rfl rfl fun ρ β W X cx => ?_
      exact dv_box (cs := #[.int .i64 a, .int .i64 b, .int .i64 n1, .int .i64 n2, .bool ho, .slice RA r.length rc]) rfl (cx.out 0 rfl) rfl rfl rfl (fun σ β' X' hs hb hv hx => ⟨hv, hx⟩)
  intro σ β X W1 hD hX hst1 fr hfr
  obtain ⟨B1_1, hu_B1_1⟩ : ∃ z, pb (β 1) = z := ⟨_, rfl⟩
  simp only [zM, exq 0 ((dTn (hD 0 lq)).2), hu_B1_1] at hst1
  dsimp only [mgT, vals, List.take, List.drop, List.cons_append, List.nil_append] at hfr
  simp only [ed 1 ((dTn (hD 0 lq)).1), hu_B1_1] at hfr
  clear hX hD hu_B1_1; subst hfr; clear σ β X
  refine then_normal ?_
  refine wp_seq ?_
  refine wp_region_T [0, 1, 0, 7, 15, 31, 63, 127, 255, 511, 1023, 2047, 4095, 8191, 16383, 32767, 65535, 131071, 262143, 524287, 1048575, 2097151, 4194303, 8388607, 16777215, 33554431, 67108863, 134217727, 268435455] [[], [0], [], [], [], [], [], [0], [], [], [], [], [0], [], [], [], [], [], [0], [], [], [], [], [], [0]] [] [] [.k 5 (.pointer (some ⟨B1_1, 2, none⟩)), .c 6 (.agg #[.int .i64 n1, .int .i64 n2]), .c 7 (.agg #[.int .i64 (-1), .int .i64 0]), .c 8 (.bool (n1 == (-1) && n2 == 0)), .k 9 (.bool (n1 == (-1) && n2 == 0)), .z 10 (!(n1 == (-1) && n2 == 0)) (.pointer (some ⟨B1_1, 2, none⟩)), .z 11 (!(n1 == (-1) && n2 == 0)) (.pointer (some ⟨B1_1, 2, none⟩)), .y 12 (!(n1 == (-1) && n2 == 0)) (.int .i64 n1), .z 13 (!(n1 == (-1) && n2 == 0)) (.bool (decide (0 ≤ n1))), .z 14 (!(n1 == (-1) && n2 == 0)) (.bool (decide (0 ≤ n1))), .z 15 ((!(n1 == (-1) && n2 == 0)) && (decide (0 ≤ n1))) (.pointer (some ⟨B1_1, 2, none⟩)), .z 16 ((!(n1 == (-1) && n2 == 0)) && (decide (0 ≤ n1))) (.pointer (some ⟨B1_1, 2, none⟩)), .y 17 ((!(n1 == (-1) && n2 == 0)) && (decide (0 ≤ n1))) (.int .i64 n1), .z 18 ((!(n1 == (-1) && n2 == 0)) && (decide (0 ≤ n1))) (.bool (decide (n1 < 400))), .y 19 (!(n1 == (-1) && n2 == 0)) (.bool ((decide (0 ≤ n1)) && (decide (n1 < 400)))), .z 20 (!(n1 == (-1) && n2 == 0)) (.bool ((decide (0 ≤ n1)) && (decide (n1 < 400)))), .z 21 ((!(n1 == (-1) && n2 == 0)) && ((decide (0 ≤ n1)) && (decide (n1 < 400)))) (.pointer (some ⟨B1_1, 2, none⟩)), .z 22 ((!(n1 == (-1) && n2 == 0)) && ((decide (0 ≤ n1)) && (decide (n1 < 400)))) (.pointer (some ⟨B1_1, 3, none⟩)), .y 23 ((!(n1 == (-1) && n2 == 0)) && ((decide (0 ≤ n1)) && (decide (n1 < 400)))) (.int .i64 n2), .z 24 ((!(n1 == (-1) && n2 == 0)) && ((decide (0 ≤ n1)) && (decide (n1 < 400)))) (.bool (decide (0 ≤ n2))), .y 25 (!(n1 == (-1) && n2 == 0)) (.bool (((decide (0 ≤ n1)) && (decide (n1 < 400))) && (decide (0 ≤ n2)))), .z 26 (!(n1 == (-1) && n2 == 0)) (.bool (((decide (0 ≤ n1)) && (decide (n1 < 400))) && (decide (0 ≤ n2)))), .z 27 ((!(n1 == (-1) && n2 == 0)) && (((decide (0 ≤ n1)) && (decide (n1 < 400))) && (decide (0 ≤ n2)))) (.pointer (some ⟨B1_1, 2, none⟩)), .z 28 ((!(n1 == (-1) && n2 == 0)) && (((decide (0 ≤ n1)) && (decide (n1 < 400))) && (decide (0 ≤ n2)))) (.pointer (some ⟨B1_1, 3, none⟩)), .y 29 ((!(n1 == (-1) && n2 == 0)) && (((decide (0 ≤ n1)) && (decide (n1 < 400))) && (decide (0 ≤ n2)))) (.int .i64 n2), .z 30 ((!(n1 == (-1) && n2 == 0)) && (((decide (0 ≤ n1)) && (decide (n1 < 400))) && (decide (0 ≤ n2)))) (.bool (decide (n2 < 24))), .y 31 (!(n1 == (-1) && n2 == 0)) (.bool ((((decide (0 ≤ n1)) && (decide (n1 < 400))) && (decide (0 ≤ n2))) && (decide (n2 < 24)))), tO 32 (n1 == (-1) && n2 == 0) ((((decide (0 ≤ n1)) && (decide (n1 < 400))) && (decide (0 ≤ n2))) && (decide (n2 < 24))), .k 3 (.bool ((n1 == (-1) && n2 == 0) || ((((decide (0 ≤ n1)) && (decide (n1 < 400))) && (decide (0 ≤ n2))) && (decide (n2 < 24)))))] (fun _ _ _ _ => True) [0] [1, 2, 3, 7, 12, 14, 18, 20, 24, 26] [(3, 28, 1, 4), (1, 0, 28, 29)] hst1 ?_ ?_ ?_
  · exact fun _ _ _ _ _ _ _ _ _ _ h => h
  · refine ⟨?_, ?_, ?_, ?_, ?_, ?_, ?_, ?_, ?_, ?_, trivial⟩
    · exact s4 rfl (fun _ _ _ h => h) fun cx => run_loadB (n := 2) rfl (by kernel_rfl) (by kernel_rfl) (cx.anc 0 rfl) (cx.blk (cx.init 0 _ rfl) rfl) (Nat.le_of_ble_eq_true rfl) rfl
    · exact s4 rfl (fun _ _ _ h => h) fun cx => run_loadAt2 rfl (by kernel_rfl) (by kernel_rfl) (cx.sees.glob _) (hN.ext cx.upd.to_ext)
    · exact s4 rfl (fun _ _ _ h => h) fun cx => run_eqTID rfl (cx.anc 1 rfl) (cx.anc 2 rfl)
    · exact m2 rfl (fun _ _ _ h => h) (fun cx => (cx.anc 4 rfl)) fun cx hq => run_load1 rfl (by kernel_rfl) (mbv (cx.anc 6 rfl) hq) ((cx.blk (cx.init 0 _ rfl) rfl).cell 2)
    · exact m0 rfl (fun _ _ _ h => h) (fun cx => (cx.anc 9 rfl)) fun cx hq => run_load1 rfl (by kernel_rfl) (mbv (cx.anc 11 rfl) hq) ((cx.blk (cx.init 0 _ rfl) rfl).cell 2)
    · exact m2 rfl (fun _ _ _ h => h) (fun cx => (cx.anc 4 rfl)) fun cx hq => run_pick_and rfl (mbv (cx.anc 9 rfl) hq) (cx.anc 13 rfl) (fun e_ => by rw [hq, e_]; rfl) (cx.sees.const _)
    · exact m0 rfl (fun _ _ _ h => h) (fun cx => (cx.anc 15 rfl)) fun cx hq => run_load1 rfl (by kernel_rfl) (mbv (cx.anc 17 rfl) hq) ((cx.blk (cx.init 0 _ rfl) rfl).cell 3)
    · exact m2 rfl (fun _ _ _ h => h) (fun cx => (cx.anc 4 rfl)) fun cx hq => run_pick_and rfl (mbv (cx.anc 15 rfl) hq) (cx.anc 19 rfl) (fun e_ => by rw [hq, e_]; rfl) (cx.sees.const _)
    · exact m0 rfl (fun _ _ _ h => h) (fun cx => (cx.anc 21 rfl)) fun cx hq => run_load1 rfl (by kernel_rfl) (mbv (cx.anc 23 rfl) hq) ((cx.blk (cx.init 0 _ rfl) rfl).cell 3)
    · exact m2 rfl (fun _ _ _ h => h) (fun cx => (cx.anc 4 rfl)) fun cx hq => run_pick_and rfl (mbv (cx.anc 21 rfl) hq) (cx.anc 25 rfl) (fun e_ => by rw [hq, e_]; rfl) (cx.sees.const _)
  intro σ β X W2 hD hX hst2 fr hfr
  simp only [zM, exq 0 (hX 0 _ rfl)] at hst2
  dsimp only [mgT, vals, List.take, List.drop, List.cons_append, List.nil_append] at hfr
  clear hX hD; subst hfr; clear σ β X
  refine then_normal ?_
  refine wp_seq ?_
  refine wp_region_T [0, 1, 3, 7, 15, 31, 63, 127, 255, 511, 1023] [[], [0], [], [], [], [], [0]] [] [] [.k 33 (.pointer (some ⟨B1_1, 5, none⟩)), .c 34 (.slice RA r.length rc), .k 35 (.int .i64 ((r.length : Int))), .k 36 (.bool (decide ((r.length : Int) ≤ 6))), .k 37 (.bool (decide ((r.length : Int) ≤ 6))), .z 38 (decide ((r.length : Int) ≤ 6)) (.pointer (some ⟨B1_1, 5, none⟩)), .y 39 (decide ((r.length : Int) ≤ 6)) (.slice RA r.length rc), .y 40 (decide ((r.length : Int) ≤ 6)) (.bool (!(r.all vrightF))), .z 41 (decide ((r.length : Int) ≤ 6)) (.bool (!(!(r.all vrightF)))), tA 42 (decide ((r.length : Int) ≤ 6)) (!(!(r.all vrightF))), .k 4 (.bool ((decide ((r.length : Int) ≤ 6)) && (!(!(r.all vrightF)))))] (fun _ _ _ _ => True) [0] [1, 6, 7] [(4, 10, 1, 5), (28, 0, 10, 38)] hst2 ?_ ?_ ?_
  · exact fun _ _ _ _ _ _ _ _ _ _ h => h
  · refine ⟨?_, ?_, ?_, trivial⟩
    · exact s4 rfl (fun _ _ _ h => h) fun cx => run_load1 rfl (by kernel_rfl) (cx.anc 0 rfl) ((cx.blk (cx.init 0 _ rfl) rfl).cell 5)
    · exact m2 rfl (fun _ _ _ h => h) (fun cx => (cx.anc 4 rfl)) fun cx hq => run_load1 rfl (by kernel_rfl) (mbv (cx.anc 5 rfl) hq) ((cx.blk (cx.init 0 _ rfl) rfl).cell 5)
    · exact m3 rfl (fun _ _ _ h => h) (fun cx => (cx.anc 4 rfl)) fun cx hq => ⟨_, _, run_callF (args := #[.slice RA r.length rc, .func (.func 103) #[] #[]]) rfl cx.sees rfl (by kernel_rfl) (map2 (mbv (cx.anc 6 rfl) hq) (cx.sees.func _)), containsf_any _ _ r _ (hA.ext cx.upd.to_ext) (by omega)⟩
  intro σ β X W3 hD hX hst3 fr hfr
  simp only [zM, exq 0 (hX 0 _ rfl)] at hst3
  dsimp only [mgT, vals, List.take, List.drop, List.cons_append, List.nil_append] at hfr
  clear hX hD; subst hfr; clear σ β X
  refine then_normal ?_
  refine wp_seq ?_
  refine wp_region_T [0, 1, 3, 7, 15, 31, 63, 127, 255, 511, 1023, 2047, 4095, 8191, 16383, 32767, 65535, 131071, 262143, 524287, 1048575, 2097151, 4194303, 8388607, 16777215] [[], [0], [], [], [], [0], [], [], [], [], [0], [], [], [], [0]] [] [] [.k 43 (.pointer (some ⟨B1_1, 0, none⟩)), .c 44 (.int .i64 a), .k 45 (.bool (a == 2)), .k 46 (.bool (a == 2)), .z 47 (!(a == 2)) (.pointer (some ⟨B1_1, 0, none⟩)), .y 48 (!(a == 2)) (.int .i64 a), .y 49 (!(a == 2)) (.bool (onF a)), tO 50 (a == 2) (onF a), .k 51 (.bool ((a == 2) || (onF a))), .z 52 ((a == 2) || (onF a)) (.pointer (some ⟨B1_1, 1, none⟩)), .y 53 ((a == 2) || (onF a)) (.int .i64 b), .z 54 ((a == 2) || (onF a)) (.bool (b == 0)), .z 55 ((a == 2) || (onF a)) (.bool (b == 0)), .z 56 (((a == 2) || (onF a)) && (!(b == 0))) (.pointer (some ⟨B1_1, 1, none⟩)), .y 57 (((a == 2) || (onF a)) && (!(b == 0))) (.int .i64 b), .y 58 (((a == 2) || (onF a)) && (!(b == 0))) (.bool (onF b)), .y 59 ((a == 2) || (onF a)) (.bool ((b == 0) || (onF b))), tA 60 ((a == 2) || (onF a)) ((b == 0) || (onF b)), .k 61 (.bool (((a == 2) || (onF a)) && ((b == 0) || (onF b)))), .z 62 (((a == 2) || (onF a)) && ((b == 0) || (onF b))) (.bool ((n1 == (-1) && n2 == 0) || ((((decide (0 ≤ n1)) && (decide (n1 < 400))) && (decide (0 ≤ n2))) && (decide (n2 < 24))))), tA 63 (((a == 2) || (onF a)) && ((b == 0) || (onF b))) ((n1 == (-1) && n2 == 0) || ((((decide (0 ≤ n1)) && (decide (n1 < 400))) && (decide (0 ≤ n2))) && (decide (n2 < 24)))), .k 64 (.bool ((((a == 2) || (onF a)) && ((b == 0) || (onF b))) && ((n1 == (-1) && n2 == 0) || ((((decide (0 ≤ n1)) && (decide (n1 < 400))) && (decide (0 ≤ n2))) && (decide (n2 < 24)))))), .z 65 ((((a == 2) || (onF a)) && ((b == 0) || (onF b))) && ((n1 == (-1) && n2 == 0) || ((((decide (0 ≤ n1)) && (decide (n1 < 400))) && (decide (0 ≤ n2))) && (decide (n2 < 24))))) (.bool ((decide ((r.length : Int) ≤ 6)) && (!(!(r.all vrightF))))), tA 66 ((((a == 2) || (onF a)) && ((b == 0) || (onF b))) && ((n1 == (-1) && n2 == 0) || ((((decide (0 ≤ n1)) && (decide (n1 < 400))) && (decide (0 ≤ n2))) && (decide (n2 < 24))))) ((decide ((r.length : Int) ≤ 6)) && (!(!(r.all vrightF)))), .k 2 (.bool (((((a == 2) || (onF a)) && ((b == 0) || (onF b))) && ((n1 == (-1) && n2 == 0) || ((((decide (0 ≤ n1)) && (decide (n1 < 400))) && (decide (0 ≤ n2))) && (decide (n2 < 24))))) && ((decide ((r.length : Int) ≤ 6)) && (!(!(r.all vrightF))))))] (fun _ _ _ _ => True) [0] [1, 5, 6, 10, 14, 15, 16] [(2, 24, 1, 3), (40, 0, 24, 64)] hst3 ?_ ?_ ?_
  · exact fun _ _ _ _ _ _ _ _ _ _ h => h
  · refine ⟨?_, ?_, ?_, ?_, ?_, ?_, ?_, trivial⟩
    · exact s4 rfl (fun _ _ _ h => h) fun cx => run_load1 rfl (by kernel_rfl) (cx.anc 0 rfl) ((cx.blk (cx.init 0 _ rfl) rfl).cell 0)
    · exact m2 rfl (fun _ _ _ h => h) (fun cx => (cx.anc 3 rfl)) fun cx hq => run_load1 rfl (by kernel_rfl) (mbv (cx.anc 4 rfl) hq) ((cx.blk (cx.init 0 _ rfl) rfl).cell 0)
    · exact m3 rfl (fun _ _ _ h => h) (fun cx => (cx.anc 3 rfl)) fun cx hq => ⟨_, _, run_callF (args := #[.int .i64 a]) rfl cx.sees rfl (by kernel_rfl) (map1 (mbv (cx.anc 5 rfl) hq)), ton_any a _⟩
    · exact m2 rfl (fun _ _ _ h => h) (fun cx => (cx.anc 8 rfl)) fun cx hq => run_load1 rfl (by kernel_rfl) (mbv (cx.anc 9 rfl) hq) ((cx.blk (cx.init 0 _ rfl) rfl).cell 1)
    · exact m0 rfl (fun _ _ _ h => h) (fun cx => (cx.anc 12 rfl)) fun cx hq => run_load1 rfl (by kernel_rfl) (mbv (cx.anc 13 rfl) hq) ((cx.blk (cx.init 0 _ rfl) rfl).cell 1)
    · exact m1 rfl (fun _ _ _ h => h) (fun cx => (cx.anc 12 rfl)) fun cx hq => ⟨_, _, run_callF (args := #[.int .i64 b]) rfl cx.sees rfl (by kernel_rfl) (map1 (mbv (cx.anc 14 rfl) hq)), ton_any b _⟩
    · exact m2 rfl (fun _ _ _ h => h) (fun cx => (cx.anc 8 rfl)) fun cx hq => run_pick_or rfl (mbv (cx.anc 12 rfl) hq) (cx.sees.const _) (cx.anc 15 rfl) (fun e_ => by rw [hq, e_]; rfl)
  intro σ β X W4 hD hX hst4 fr hfr
  simp only [zM, exq 0 (hX 0 _ rfl)] at hst4
  dsimp only [mgT, vals, List.take, List.drop, List.cons_append, List.nil_append] at hfr
  clear hX hD; subst hfr; clear σ β X
  refine then_normal ?_
  refine wp_ret ?_
  refine bodyPost_ret (v := .bool (((((a == 2) || (onF a)) && ((b == 0) || (onF b))) && ((n1 == (-1) && n2 == 0) || ((((decide (0 ≤ n1)) && (decide (n1 < 400))) && (decide (0 ≤ n2))) && (decide (n2 < 24))))) && ((decide ((r.length : Int) ≤ 6)) && (!(!(r.all vrightF)))))) (results_tmp Tryd.results55 rfl) rfl ?_
  exact Ret.bool (by simp only [trightF, onZ, tnextF, Bool.not_not, Bool.and_assoc]; simp only [rrightF, hn6]; rw [Bool.and_comm (r.all vrightF)]) hst4.ext

end Go.Proofs.YtfjpglohcppjeaaDoor

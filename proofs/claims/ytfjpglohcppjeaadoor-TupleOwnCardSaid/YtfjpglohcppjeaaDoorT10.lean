/- tuple.right, tuple.Bytes. -/
import Derived.Test.YtfjpglohcppjeaaDoorT9b
import Derived.Test.YtfjpglohcppjeaaDoorShelf
namespace Go.Proofs.YtfjpglohcppjeaaDoor
open Go.RowKit
set_option linter.unusedVariables false

def idxBad (r : List Val) : Int := if r.all vrightF = true then -1 else ((r.takeWhile vrightF).length : Int)
theorem idx_bad {r : List Val} {k : Nat} (hk : k < r.length) (h : (r.take k).all vrightF = true) (h2 : vrightF (r.getD k v0) = false) : (k : Int) = idxBad r := by
  have hb : r.all vrightF = false := by
    rw [List.all_eq_false]
    rw [List.getD_eq_getElem?_getD, List.getElem?_eq_getElem hk] at h2
    exact ⟨r[k], List.getElem_mem hk, by simpa using h2⟩
  rw [idxBad, hb, if_neg (by simp)]
  congr 1
  have hs : r = r.take k ++ r[k] :: r.drop (k + 1) := by rw [List.getElem_cons_drop, List.take_append_drop]
  have e1 : r.takeWhile vrightF = r.take k := by
    conv => lhs; rw [hs]
    rw [List.takeWhile_append_of_pos (by rw [List.all_eq_true] at h; exact h)]
    rw [List.getD_eq_getElem?_getD, List.getElem?_eq_getElem hk] at h2
    rw [List.takeWhile_cons_of_neg (by simpa using h2), List.append_nil]
  rw [e1, List.length_take]; omega
theorem idx_none {r : List Val} {k : Nat} (hk : r.length ≤ k) (h : (r.take k).all vrightF = true) : (-1 : Int) = idxBad r := by
  rw [List.take_of_length_le hk] at h
  rw [idxBad, if_pos h]
theorem idx_ge (r : List Val) : decide (0 ≤ idxBad r) = !(r.all vrightF) := by
  rw [idxBad]
  cases h : r.all vrightF with
  | true => simp
  | false => simp
theorem Ext.below_ {x z : World} (k : Below x.heap.size x z) : Ext x z :=
  ⟨k.os, k.tape, k.output, k.size, fun i hi => k.block i hi⟩
def catS (l : List ByteArray) : ByteArray := strL (l.flatMap fun s => s.data.toList)
theorem join_any (v : Value) (xs : List ByteArray) (w : World) (hown : w.ownsRow 0 9 1 v xs.length (xs.map Value.string)) (hne : 0 < xs.length) (hlen : ∀ s ∈ xs, s.size ≤ 1000000) (hN : xs.length ≤ 100) :
    Calls Tryd.prog 56 #[v, .string ⟨#[]⟩] w (Ret (.string (catS xs)) w) := by
  have hlt := hown.lt
  rcases hown.2 with ⟨hv, h0⟩ | ⟨g, cap, cur, hv, hb, hg, hle, hmx, hcs, htk⟩
  · omega
  · subst hv
    have hj : Lib.join (xs.map (·.data.toList)) [] = xs.flatMap fun s => s.data.toList := by
      rw [Lib.join, List.intercalate]
      have : ∀ l : List (List UInt8), (List.intersperse [] l).flatten = l.flatten := by
        intro l
        induction l with
        | nil => rfl
        | cons a l ih =>
          cases l with
          | nil => rfl
          | cons b l => rw [List.intersperse_cons_cons, List.flatten_cons, List.flatten_cons, ih]; simp
      rw [this, List.flatMap_def]
    have hl : ∀ l : List ByteArray, (∀ s ∈ l, s.size ≤ 1000000) → (l.flatMap fun s => s.data.toList).length ≤ l.length * 1000000 := by
      intro l
      induction l with
      | nil => simp
      | cons a l ih =>
        intro h
        have h1 := ih fun s hs => h s (by simp [hs])
        have h2 : a.data.toList.length ≤ 1000000 := by rw [Array.length_toList]; exact h a (by simp)
        rw [List.flatMap_cons, List.length_append, List.length_cons, Nat.add_mul]
        omega
    have hl' := hl xs hlen
    refine (Tryd.strings_Join g 0 cap xs ⟨#[]⟩ w (fun j x hx => ?_) (hlt g rfl).2 (by omega) (by omega) ?_).mono ?_
    · have hjl := (List.getElem?_eq_some_iff.1 hx).1
      rw [Nat.zero_add, hown.cellAt j (by simpa using hjl)]
      simp [hx]
    · show (Lib.join (xs.map (·.data.toList)) []).length ≤ _
      rw [hj]
      have : xs.length * 1000000 ≤ 100 * 1000000 := Nat.mul_le_mul_right _ hN
      omega
    · rintro e w' ⟨rfl, hb⟩
      refine ⟨?_, Ext.below_ hb⟩
      show Ending.returned (.string ⟨(Lib.join (xs.map (·.data.toList)) []).toArray⟩) = _
      rw [hj]
      rfl
def onZ (b : Int) : Bool := b == 0 || onF b
def tnextF (n1 n2 : Int) : Bool := (n1 == -1 && n2 == 0) || (decide (0 ≤ n1) && decide (n1 < 400) && decide (0 ≤ n2) && decide (n2 < 24))
def trightF (a b n1 n2 : Int) (rs : List Val) : Bool := (a == 2 || onF a) && onZ b && tnextF n1 n2 && rrightF rs
def hotI (ho : Bool) : Int := if ho then 1 else 0
def tbytesF (a b n1 n2 : Int) (ho : Bool) (rs : List Val) : ByteArray :=
  if trightF a b n1 n2 rs = true then catS [putS a 1, putS b 1, putS (n1 + 1) 2, putS n2 1, putS (hotI ho) 1, textO (vbytesF rs)] else ByteArray.empty
theorem vbytes_size (r : List Val) : (vbytesF r).size ≤ 301 := by
  rw [vbytesF]
  split
  · rename_i h
    have := bt_len h r.length
    show (bytesTo r r.length).toArray.size ≤ 301
    simpa using this
  · exact Nat.zero_le _
theorem tright_parts {a b n1 n2 : Int} {rs : List Val} (h : trightF a b n1 n2 rs = true) : 0 ≤ a ∧ a < 128 ∧ 0 ≤ b ∧ b < 128 ∧ -1 ≤ n1 ∧ n1 < 400 ∧ 0 ≤ n2 ∧ n2 < 24 ∧ rrightF rs = true := by
  simp only [trightF, onZ, tnextF, onF, Bool.and_eq_true, Bool.or_eq_true, decide_eq_true_eq, beq_iff_eq] at h
  refine ⟨?_, ?_, ?_, ?_, ?_, ?_, ?_, ?_, h.2⟩ <;> omega
set_option maxRecDepth 100000 in
set_option maxHeartbeats 2000000 in
theorem trightv_any (v : Val) (w : World) :
    Calls Tryd.prog 103 #[.agg #[.int .i64 v.1, .int .i64 v.2.1, .string v.2.2]] w (Ret (.bool (!(vrightF v))) w) := by
  go_enter Tryd.func103, Tryd.ntmps103
  have hst0 := St.start w
  refine wp_seq ?_
  refine wp_region_X [0, 0] [] [[0]] [] (fun ix σ β X => match ix with | 0 => σ 1 = .pointer (some ⟨(pb (β 1)), 0, none⟩) ∧ X 0 = eB (pb (β 1)) 103 #[.int .i64 v.1, .int .i64 v.2.1, .string v.2.2] | 1 => σ 2 = .bool false | _ => True) [0] [1, 2] hst0 ?_ ?_ ?_
  · exact fun ix _ _ _ _ _ _ hs hb hx h => match ix, h with
    | 1, h => (hs _ rfl).symm.trans h
    | 0, h => by dsimp only at h ⊢; rw [← hs 1 rfl, ← hb 1 rfl, ← hx 0 rfl]; exact h
    | _ + 2, _ => trivial
  · refine ⟨⟨trivial, ?_⟩, ?_⟩
    · refine sv_any rfl rfl fun ρ β W X cx => ?_
      exact dv_box (cs := #[.int .i64 v.1, .int .i64 v.2.1, .string v.2.2]) rfl (cx.out 0 rfl) rfl rfl rfl (fun σ β' X' hs hb hv hx => ⟨hv, hx⟩)
    · exact s0 rfl fun cx => run_assign' rfl (cx.sees.const _)
  intro σ β X W1 hD hX hst1 fr hfr
  obtain ⟨B1_1, hu_B1_1⟩ : ∃ z, pb (β 1) = z := ⟨_, rfl⟩
  simp only [zM, exq 0 ((hD 0 lq).2), hu_B1_1] at hst1
  simp only [zP, ed 1 ((hD 0 lq).1), ed 2 (hD 1 lq), hu_B1_1] at hfr
  clear hX hD hu_B1_1; subst hfr; clear σ β X
  refine then_normal ?_
  refine wp_seq ?_
  refine wp_region_X [0, 1, 3, 7] [[0]] [] [] (fun ix σ β X => match ix with | 0 => σ 3 = .agg #[.int .i64 v.1, .int .i64 v.2.1, .string v.2.2] | 1 => σ 4 = .bool (vrightF (v.1, v.2.1, v.2.2)) | 2 => σ 5 = .bool (!(vrightF (v.1, v.2.1, v.2.2))) | 3 => σ 2 = .bool (!(vrightF (v.1, v.2.1, v.2.2))) | _ => True) [0] [3, 4, 5, 2] hst1 ?_ ?_ ?_
  · exact fun ix _ _ _ _ _ _ hs hb hx h => match ix, h with
    | 0, h | 1, h | 2, h | 3, h => (hs _ rfl).symm.trans h
    | _ + 4, _ => trivial
  · refine ⟨⟨⟨⟨trivial, ?_⟩, ?_⟩, ?_⟩, ?_⟩
    · exact s0 rfl fun cx => run_loadB (n := 3) rfl (by kernel_rfl) (by kernel_rfl) (cx.out 1 rfl) (cx.blk (cx.init 0 _ rfl) rfl) (Nat.le_of_ble_eq_true rfl) rfl
    · exact sv_call rfl rfl rfl rfl rfl (fun _ _ _ h => h) fun ρ β W X cx => ⟨_, _, run_callF (args := #[.agg #[.int .i64 v.1, .int .i64 v.2.1, .string v.2.2]]) rfl cx.sees rfl (by kernel_rfl) (map1 (cx.anc 0 rfl)), vright_any (v.1, v.2.1, v.2.2) _⟩
    · exact s0 rfl fun cx => run_not rfl (cx.anc 1 rfl) rfl
    · exact s0 rfl fun cx => run_assign' rfl (cx.anc 2 rfl)
  intro σ β X W2 hD hX hst2 fr hfr
  simp only [zM, exq 0 (hX 0 _ rfl)] at hst2
  simp only [zP, ed 3 (hD 0 lq), ed 4 (hD 1 lq), ed 5 (hD 2 lq), ed 2 (hD 3 lq)] at hfr
  clear hX hD; subst hfr; clear σ β X
  refine then_normal ?_
  refine wp_ret ?_
  refine bodyPost_ret (v := .bool (!(vrightF (v.1, v.2.1, v.2.2)))) (by simp [results, Tryd.results103, go_sem]) rfl ?_
  exact Ret.of rfl hst2.ext

set_option maxRecDepth 100000 in
set_option maxHeartbeats 2000000 in
theorem indexf_any (RA : Option Addr) (rc : Nat) (r : List Val) (w : World) (hA : At w RA (flatR r)) (hlr : r.length ≤ 9223372036854775807) :
    Calls Tryd.prog 126 #[.slice RA r.length rc, .func (.func 103) #[] #[]] w (Ret (.int .i64 (idxBad r)) w) := by
  go_enter Tryd.func126, Tryd.ntmps126
  have hst0 := St.start w
  refine wp_seq ?_
  refine wp_region_X [0] [] [] [] (fun ix σ β X => match ix with | 0 => σ 4 = .int .i64 0 | _ => True) [] [4] hst0 ?_ ?_ ?_
  · exact fun ix _ _ _ _ _ _ hs hb hx h => match ix, h with
    | 0, h => (hs _ rfl).symm.trans h
    | _ + 1, _ => trivial
  · refine ⟨trivial, ?_⟩
    · exact s0 rfl fun cx => run_assign' rfl (cx.sees.const _)
  intro σ β X W1 hD hX hst1 fr hfr
  simp only [zM] at hst1
  simp only [zP, ed 4 (hD 0 lq)] at hfr
  clear hX hD; subst hfr; clear σ β X
  refine then_normal ?_
  refine wp_seq ?_
  refine wp_seq ?_
  refine wp_region_X [0, 1, 0] [] [] [] (fun ix σ β X => match ix with | 0 => σ 6 = .slice RA r.length rc | 1 => σ 7 = .int .i64 ((r.length : Int)) | 2 => σ 8 = .int .i64 0 | _ => True) [] [6, 7, 8] hst1 ?_ ?_ ?_
  · exact fun ix _ _ _ _ _ _ hs hb hx h => match ix, h with
    | 0, h | 1, h | 2, h => (hs _ rfl).symm.trans h
    | _ + 3, _ => trivial
  · refine ⟨⟨⟨trivial, ?_⟩, ?_⟩, ?_⟩
    · exact mo rfl
    · exact s0 rfl fun cx => run_len_l (e := 103) rfl (by kernel_rfl) (cx.anc 0 rfl)
    · exact s0 rfl fun cx => run_move' rfl (cx.sees.const _)
  intro σ β X W2 hD hX hst2 fr hfr
  simp only [zM] at hst2
  simp only [zP, ed 6 (hD 0 lq), ed 7 (hD 1 lq), ed 8 (hD 2 lq)] at hfr
  clear hX hD; subst hfr; clear σ β X
  refine then_normal ?_
  refine wp_block ?_
  refine wp_loopN (fun mz az W => ∃ k : Nat, ∃ u3_ : List Value, k ≤ r.length ∧ (r.take k).all vrightF = true ∧ mz = r.length - k ∧ az = ⟨#[.slice RA r.length rc, .func (.func 103) #[] #[], undef, undef, (u3_.getD 0 undef), (u3_.getD 1 undef), .slice RA r.length rc, .int .i64 ((r.length : Int)), .int .i64 ((k : Int)), (u3_.getD 2 undef), (u3_.getD 3 undef), (u3_.getD 4 undef), (u3_.getD 5 undef), (u3_.getD 6 undef), (u3_.getD 7 undef), (u3_.getD 8 undef), (u3_.getD 9 undef), (u3_.getD 10 undef), (u3_.getD 11 undef)], []⟩ ∧ St w [] [] W) (r.length - 0) ?_ ?_
  · -- the loop begins
    have hp4 := hst2.pick [] (by decide) rfl
    exact ⟨0, [.int .i64 0, undef, undef, undef, undef, undef, undef, undef, undef, undef, undef, undef], by omega, rfl, rfl, rfl, hp4⟩
  rintro n3 a3 W3 ⟨k, u3_, hkl, hka, rfl, rfl, hst3⟩
  refine wp_seq ?_
  refine wp_region_X [0] [] [] [] (fun ix σ β X => match ix with | 0 => σ 9 = .bool (decide ((k : Int) < (r.length : Int))) | _ => True) [] [9] hst3 ?_ ?_ ?_
  · exact fun ix _ _ _ _ _ _ hs hb hx h => match ix, h with
    | 0, h => (hs _ rfl).symm.trans h
    | _ + 1, _ => trivial
  · refine ⟨trivial, ?_⟩
    · exact s0 rfl fun cx => run_bin rfl (cx.out 8 rfl) (cx.out 7 rfl) rfl
  intro σ β X W5 hD hX hst5 fr hfr
  simp only [zM] at hst5
  simp only [zP, ed 9 (hD 0 lq)] at hfr
  clear hX hD; subst hfr; clear σ β X
  refine then_normal ?_
  refine wp_seq ?_
  rcases Bool.eq_false_or_eq_true (decide ((k : Int) < (r.length : Int))) with hs6 | hs6
  · skip
    have hs6p : (k : Int) < (r.length : Int) := by simpa using hs6
    refine wp_cond_true (show Act.eval _ _ = .bool true from (congrArg Value.bool hs6)) ?_
    refine wp_skip ?_
    refine then_normal ?_
    refine wp_seq ?_
    refine wp_block ?_
    refine wp_seq ?_
    refine wp_region_X [0, 1] [] [] [] (fun ix σ β X => match ix with | 0 => σ 10 = .int .i64 ((k : Int)) | 1 => σ 5 = .int .i64 ((k : Int)) | _ => True) [] [10, 5] hst5 ?_ ?_ ?_
    · exact fun ix _ _ _ _ _ _ hs hb hx h => match ix, h with
      | 0, h | 1, h => (hs _ rfl).symm.trans h
      | _ + 2, _ => trivial
    · refine ⟨⟨trivial, ?_⟩, ?_⟩
      · exact mo rfl
      · exact s0 rfl fun cx => run_assign' rfl (cx.anc 0 rfl)
    intro σ β X W7 hD hX hst7 fr hfr
    simp only [zM] at hst7
    simp only [zP, ed 10 (hD 0 lq), ed 5 (hD 1 lq)] at hfr
    clear hX hD; subst hfr; clear σ β X
    refine then_normal ?_
    refine wp_seq ?_
    refine wp_region_X [0, 0, 0, 6, 14, 31] [] [] [] (fun ix σ β X => match ix with | 0 => σ 11 = .func (.func 103) #[] #[] | 1 => σ 12 = .slice RA r.length rc | 2 => σ 13 = .int .i64 ((k : Int)) | 3 => σ 14 = .pointer (some ((ad RA).add (k * 3))) | 4 => σ 15 = .agg #[.int .i64 ((r.getD k v0).1), .int .i64 ((r.getD k v0).2.1), .string ((r.getD k v0).2.2)] | 5 => σ 16 = .bool (!(vrightF (r.getD k v0))) | _ => True) [] [11, 12, 13, 14, 15, 16] hst7 ?_ ?_ ?_
    · exact fun ix _ _ _ _ _ _ hs hb hx h => match ix, h with
      | 0, h | 1, h | 2, h | 3, h | 4, h | 5, h => (hs _ rfl).symm.trans h
      | _ + 6, _ => trivial
    · refine ⟨⟨⟨⟨⟨⟨trivial, ?_⟩, ?_⟩, ?_⟩, ?_⟩, ?_⟩, ?_⟩
      · exact mo rfl
      · exact mo rfl
      · exact mo rfl
      · exact s4 rfl (fun _ _ _ h => h) fun cx => run_indexSlM (e := 103) (m := k) (sz := 3) rfl (by kernel_rfl) (by kernel_rfl) (cx.anc 1 rfl) (cx.anc 2 rfl) (by omega) (by omega) (hA.ext cx.upd.to_ext) (by have h_ := flatLen (f := cellsV) (sz := 3) cellsV_len r; show 0 < (List.flatMap cellsV r).length; omega)
      · exact s4 rfl (fun _ _ _ h => h) fun cx => run_loadElt (f := cellsV) (m := k) (sz := 3) (off := 0) (n := 3) rfl (by kernel_rfl) (by kernel_rfl) (cx.anc 3 rfl) rfl cellsV_len (hA.ext cx.upd.to_ext) (getD_some (ts := r) (m := k) v0 (by omega)) (fun k hk => match k, hk with | 0, _ => rfl | 1, _ => rfl | 2, _ => rfl | k + 3, hk => absurd hk (by omega))
      · exact sv_call rfl rfl rfl rfl rfl (fun _ _ _ h => h) fun ρ β W X cx => ⟨_, _, run_callV (f := 103) (args := #[.agg #[.int .i64 ((r.getD k v0).1), .int .i64 ((r.getD k v0).2.1), .string ((r.getD k v0).2.2)]]) (args' := #[.agg #[.int .i64 ((r.getD k v0).1), .int .i64 ((r.getD k v0).2.1), .string ((r.getD k v0).2.2)]]) rfl rfl (cx.anc 0 rfl) (by kernel_rfl) (map1 (cx.anc 4 rfl)) rfl, trightv_any (r.getD k v0) _⟩
    intro σ β X W8 hD hX hst8 fr hfr
    simp only [zM] at hst8
    simp only [zP, ed 11 (hD 0 lq), ed 12 (hD 1 lq), ed 13 (hD 2 lq), ed 14 (hD 3 lq), ed 15 (hD 4 lq), ed 16 (hD 5 lq)] at hfr
    clear hX hD; subst hfr; clear σ β X
    refine then_normal ?_
    rcases Bool.eq_false_or_eq_true (vrightF (r.getD k v0)) with hs9 | hs9
    · skip
      refine wp_cond_false (show Act.eval _ _ = .bool false from (congrArg Value.bool (by rw [hs9]; rfl))) ?_
      refine wp_skip ?_
      refine blk_normal ?_
      refine then_normal ?_
      refine wp_region_X [0, 1] [] [] [] (fun ix σ β X => match ix with | 0 => σ 18 = .int .i64 ((k : Int) + 1) | 1 => σ 8 = .int .i64 ((k : Int) + 1) | _ => True) [] [18, 8] hst8 ?_ ?_ ?_
      · exact fun ix _ _ _ _ _ _ hs hb hx h => match ix, h with
        | 0, h | 1, h => (hs _ rfl).symm.trans h
        | _ + 2, _ => trivial
      · refine ⟨⟨trivial, ?_⟩, ?_⟩
        · exact s4 rfl (fun _ _ _ h => h) fun cx => run_bin rfl (cx.out 8 rfl) (cx.sees.const _) (congrArg (fun z => some (Value.int .i64 z)) ((IntWalk.i64_in _ (by omega)).trans (by omega)))
        · exact s0 rfl fun cx => run_move' rfl (cx.anc 0 rfl)
      intro σ β X W10 hD hX hst10 fr hfr
      simp only [zM] at hst10
      simp only [zP, ed 18 (hD 0 lq), ed 8 (hD 1 lq)] at hfr
      clear hX hD; subst hfr; clear σ β X
      refine then_normal ?_
      refine ⟨r.length - ((k + 1)), by omega, ?_⟩
      have hp11 := hst10.pick [] (by decide) rfl
      exact ⟨(k + 1), [(u3_.getD 0 undef), .int .i64 ((k : Int)), .bool (decide ((k : Int) < (r.length : Int))), .int .i64 ((k : Int)), .func (.func 103) #[] #[], .slice RA r.length rc, .int .i64 ((k : Int)), .pointer (some ((ad RA).add (k * 3))), .agg #[.int .i64 ((r.getD k v0).1), .int .i64 ((r.getD k v0).2.1), .string ((r.getD k v0).2.2)], .bool (!(vrightF (r.getD k v0))), (u3_.getD 10 undef), .int .i64 ((k : Int) + 1)], by omega, rright_step (by omega) hka hs9, rfl, rfl, hp11⟩
    refine wp_cond_true (show Act.eval _ _ = .bool true from (congrArg Value.bool (by rw [hs9]; rfl))) ?_
    refine wp_seq ?_
    refine wp_region_X [0, 1] [] [] [] (fun ix σ β X => match ix with | 0 => σ 17 = .int .i64 ((k : Int)) | 1 => σ 4 = .int .i64 ((k : Int)) | _ => True) [] [17, 4] hst8 ?_ ?_ ?_
    · exact fun ix _ _ _ _ _ _ hs hb hx h => match ix, h with
      | 0, h | 1, h => (hs _ rfl).symm.trans h
      | _ + 2, _ => trivial
    · refine ⟨⟨trivial, ?_⟩, ?_⟩
      · exact mo rfl
      · exact s0 rfl fun cx => run_assign' rfl (cx.anc 0 rfl)
    intro σ β X W12 hD hX hst12 fr hfr
    simp only [zM] at hst12
    simp only [zP, ed 17 (hD 0 lq), ed 4 (hD 1 lq)] at hfr
    clear hX hD; subst hfr; clear σ β X
    refine then_normal ?_
    refine wp_ret ?_
    refine blk_ret ?_
    refine then_ret ?_
    refine then_ret ?_
    refine blk_ret ?_
    refine then_ret ?_
    refine bodyPost_ret (v := .int .i64 ((k : Int))) (by simp [results, Tryd.results126, go_sem]) rfl ?_
    exact Ret.int (idx_bad (by omega) hka hs9) hst12.ext
  have hs6p : ¬ ((k : Int) < (r.length : Int)) := by simpa using hs6
  refine wp_cond_false (show Act.eval _ _ = .bool false from (congrArg Value.bool hs6)) ?_
  refine wp_exit ?_
  refine then_exit ?_
  refine then_exit ?_
  refine blk_eq ?_
  refine then_normal ?_
  refine wp_seq ?_
  refine wp_region_X [0] [] [] [] (fun ix σ β X => match ix with | 0 => σ 4 = .int .i64 (-1) | _ => True) [] [4] hst5 ?_ ?_ ?_
  · exact fun ix _ _ _ _ _ _ hs hb hx h => match ix, h with
    | 0, h => (hs _ rfl).symm.trans h
    | _ + 1, _ => trivial
  · refine ⟨trivial, ?_⟩
    · exact s0 rfl fun cx => run_assign' rfl (cx.sees.const _)
  intro σ β X W13 hD hX hst13 fr hfr
  simp only [zM] at hst13
  simp only [zP, ed 4 (hD 0 lq)] at hfr
  clear hX hD; subst hfr; clear σ β X
  refine then_normal ?_
  refine wp_ret ?_
  refine bodyPost_ret (v := .int .i64 (-1)) (by simp [results, Tryd.results126, go_sem]) rfl ?_
  exact Ret.int (idx_none (by omega) hka) hst13.ext

set_option maxRecDepth 100000 in
set_option maxHeartbeats 2000000 in
theorem containsf_any (RA : Option Addr) (rc : Nat) (r : List Val) (w : World) (hA : At w RA (flatR r)) (hlr : r.length ≤ 9223372036854775807) :
    Calls Tryd.prog 102 #[.slice RA r.length rc, .func (.func 103) #[] #[]] w (Ret (.bool (!(r.all vrightF))) w) := by
  go_enter Tryd.func102, Tryd.ntmps102
  have hst0 := St.start w
  refine wp_seq ?_
  refine wp_region_X [0] [] [] [] (fun ix σ β X => match ix with | 0 => σ 4 = .bool false | _ => True) [] [4] hst0 ?_ ?_ ?_
  · exact fun ix _ _ _ _ _ _ hs hb hx h => match ix, h with
    | 0, h => (hs _ rfl).symm.trans h
    | _ + 1, _ => trivial
  · refine ⟨trivial, ?_⟩
    · exact s0 rfl fun cx => run_assign' rfl (cx.sees.const _)
  intro σ β X W1 hD hX hst1 fr hfr
  simp only [zM] at hst1
  simp only [zP, ed 4 (hD 0 lq)] at hfr
  clear hX hD; subst hfr; clear σ β X
  refine then_normal ?_
  refine wp_seq ?_
  refine wp_region_X [0, 0, 3, 7, 15] [] [] [] (fun ix σ β X => match ix with | 0 => σ 5 = .slice RA r.length rc | 1 => σ 6 = .func (.func 103) #[] #[] | 2 => σ 7 = .int .i64 (idxBad r) | 3 => σ 8 = .bool (decide (0 ≤ idxBad r)) | 4 => σ 4 = .bool (decide (0 ≤ idxBad r)) | _ => True) [] [5, 6, 7, 8, 4] hst1 ?_ ?_ ?_
  · exact fun ix _ _ _ _ _ _ hs hb hx h => match ix, h with
    | 0, h | 1, h | 2, h | 3, h | 4, h => (hs _ rfl).symm.trans h
    | _ + 5, _ => trivial
  · refine ⟨⟨⟨⟨⟨trivial, ?_⟩, ?_⟩, ?_⟩, ?_⟩, ?_⟩
    · exact mo rfl
    · exact mo rfl
    · exact sv_call rfl rfl rfl rfl rfl (fun _ _ _ h => h) fun ρ β W X cx => ⟨_, _, run_callF (args := #[.slice RA r.length rc, .func (.func 103) #[] #[]]) rfl cx.sees rfl (by kernel_rfl) (map2 (cx.anc 0 rfl) (cx.anc 1 rfl)), indexf_any _ _ r _ (hA.ext cx.upd.to_ext) (by omega)⟩
    · exact s0 rfl fun cx => run_bin rfl (cx.anc 2 rfl) (cx.sees.const _) rfl
    · exact s0 rfl fun cx => run_assign' rfl (cx.anc 3 rfl)
  intro σ β X W2 hD hX hst2 fr hfr
  simp only [zM] at hst2
  simp only [zP, ed 5 (hD 0 lq), ed 6 (hD 1 lq), ed 7 (hD 2 lq), ed 8 (hD 3 lq), ed 4 (hD 4 lq)] at hfr
  clear hX hD; subst hfr; clear σ β X
  refine then_normal ?_
  refine wp_ret ?_
  refine bodyPost_ret (v := .bool (decide (0 ≤ idxBad r))) (by simp [results, Tryd.results102, go_sem]) rfl ?_
  exact Ret.bool (idx_ge r) hst2.ext

set_option maxRecDepth 100000 in
set_option maxHeartbeats 2000000 in
theorem tright_any (a b n1 n2 : Int) (ho : Bool) (RA : Option Addr) (rc : Nat) (r : List Val) (w : World) (hA : At w RA (flatR r)) (hlr : r.length ≤ 9223372036854775807) (hN : NoneAt w) :
    Calls Tryd.prog 55 #[.agg #[.int .i64 a, .int .i64 b, .int .i64 n1, .int .i64 n2, .bool ho, .slice RA r.length rc]] w (Ret (.bool (trightF a b n1 n2 r)) w) := by
  go_enter Tryd.func55, Tryd.ntmps55
  have hst0 := St.start w
  refine wp_seq ?_
  refine wp_region_X [0, 0] [] [[0]] [] (fun ix σ β X => match ix with | 0 => σ 1 = .pointer (some ⟨(pb (β 1)), 0, none⟩) ∧ X 0 = eB (pb (β 1)) 27 #[.int .i64 a, .int .i64 b, .int .i64 n1, .int .i64 n2, .bool ho, .slice RA r.length rc] | 1 => σ 2 = .bool false | _ => True) [0] [1, 2] hst0 ?_ ?_ ?_
  · exact fun ix _ _ _ _ _ _ hs hb hx h => match ix, h with
    | 1, h => (hs _ rfl).symm.trans h
    | 0, h => by dsimp only at h ⊢; rw [← hs 1 rfl, ← hb 1 rfl, ← hx 0 rfl]; exact h
    | _ + 2, _ => trivial
  · refine ⟨⟨trivial, ?_⟩, ?_⟩
    · refine sv_any rfl rfl fun ρ β W X cx => ?_
      exact dv_box (cs := #[.int .i64 a, .int .i64 b, .int .i64 n1, .int .i64 n2, .bool ho, .slice RA r.length rc]) rfl (cx.out 0 rfl) rfl rfl rfl (fun σ β' X' hs hb hv hx => ⟨hv, hx⟩)
    · exact s0 rfl fun cx => run_assign' rfl (cx.sees.const _)
  intro σ β X W1 hD hX hst1 fr hfr
  obtain ⟨B1_1, hu_B1_1⟩ : ∃ z, pb (β 1) = z := ⟨_, rfl⟩
  simp only [zM, exq 0 ((hD 0 lq).2), hu_B1_1] at hst1
  simp only [zP, ed 1 ((hD 0 lq).1), ed 2 (hD 1 lq), hu_B1_1] at hfr
  clear hX hD hu_B1_1; subst hfr; clear σ β X
  refine then_normal ?_
  refine wp_cut (fun az W => ∃ u2_ : List Value, True ∧ az = ⟨#[.agg #[.int .i64 a, .int .i64 b, .int .i64 n1, .int .i64 n2, .bool ho, .slice RA r.length rc], .pointer (some ⟨B1_1, 0, none⟩), .bool false, .bool (tnextF n1 n2), undef, (u2_.getD 0 undef), (u2_.getD 1 undef), (u2_.getD 2 undef), (u2_.getD 3 undef), (u2_.getD 4 undef), (u2_.getD 5 undef), (u2_.getD 6 undef), (u2_.getD 7 undef), (u2_.getD 8 undef), (u2_.getD 9 undef), (u2_.getD 10 undef), (u2_.getD 11 undef), (u2_.getD 12 undef), (u2_.getD 13 undef), (u2_.getD 14 undef), (u2_.getD 15 undef), (u2_.getD 16 undef), (u2_.getD 17 undef), (u2_.getD 18 undef), (u2_.getD 19 undef), (u2_.getD 20 undef), (u2_.getD 21 undef), (u2_.getD 22 undef), (u2_.getD 23 undef), (u2_.getD 24 undef), (u2_.getD 25 undef), (u2_.getD 26 undef), (u2_.getD 27 undef), undef, undef, undef, undef, undef, undef, undef, undef, undef, undef, undef, undef, undef, undef, undef, undef, undef, undef, undef, undef, undef, undef, undef, undef, undef, undef, undef, undef, undef, undef, undef, undef, undef, undef], []⟩ ∧ St w [] [eB B1_1 27 #[.int .i64 a, .int .i64 b, .int .i64 n1, .int .i64 n2, .bool ho, .slice RA r.length rc]] W) ?_ ?_
  · skip
    rcases Bool.eq_false_or_eq_true (n1 == (-1) && n2 == 0) with hs4 | hs4
    · skip
      refine wp_region_X [0, 1, 0, 7, 15, 31, 63, 127, 255, 511, 1023, 2047, 4095, 8191, 16383, 32767, 65535, 131071, 262143, 524287, 1048575, 2097151, 4194303, 8388607, 16777215, 33554431, 67108863, 134217727, 268435455] [[], [0]] [] [] (fun ix σ β X => match ix with | 0 => σ 5 = .pointer (some ⟨B1_1, 2, none⟩) | 1 => σ 6 = .agg #[.int .i64 n1, .int .i64 n2] | 2 => σ 7 = .agg #[.int .i64 (-1), .int .i64 0] | 3 => σ 8 = .bool (n1 == (-1) && n2 == 0) | 4 => σ 9 = .bool true | 5 => σ 10 = undef | 6 => σ 11 = undef | 7 => σ 12 = undef | 8 => σ 13 = undef | 9 => σ 14 = undef | 10 => σ 15 = undef | 11 => σ 16 = undef | 12 => σ 17 = undef | 13 => σ 18 = undef | 14 => σ 19 = undef | 15 => σ 20 = undef | 16 => σ 21 = undef | 17 => σ 22 = undef | 18 => σ 23 = undef | 19 => σ 24 = undef | 20 => σ 25 = undef | 21 => σ 26 = undef | 22 => σ 27 = undef | 23 => σ 28 = undef | 24 => σ 29 = undef | 25 => σ 30 = undef | 26 => σ 31 = undef | 27 => σ 32 = .bool true | 28 => σ 3 = .bool true | _ => True) [0] [5, 6, 7, 8, 9, 10, 11, 12, 13, 14, 15, 16, 17, 18, 19, 20, 21, 22, 23, 24, 25, 26, 27, 28, 29, 30, 31, 32, 3] hst1 ?_ ?_ ?_
      · exact fun ix _ _ _ _ _ _ hs hb hx h => match ix, h with
        | 0, h | 1, h | 2, h | 3, h | 4, h | 5, h | 6, h | 7, h | 8, h | 9, h | 10, h | 11, h | 12, h | 13, h | 14, h | 15, h | 16, h | 17, h | 18, h | 19, h | 20, h | 21, h | 22, h | 23, h | 24, h | 25, h | 26, h | 27, h | 28, h => (hs _ rfl).symm.trans h
        | _ + 29, _ => trivial
      · refine ⟨⟨⟨⟨⟨⟨⟨⟨⟨⟨⟨⟨⟨⟨⟨⟨⟨⟨⟨⟨⟨⟨⟨⟨⟨⟨⟨⟨⟨trivial, ?_⟩, ?_⟩, ?_⟩, ?_⟩, ?_⟩, ?_⟩, ?_⟩, ?_⟩, ?_⟩, ?_⟩, ?_⟩, ?_⟩, ?_⟩, ?_⟩, ?_⟩, ?_⟩, ?_⟩, ?_⟩, ?_⟩, ?_⟩, ?_⟩, ?_⟩, ?_⟩, ?_⟩, ?_⟩, ?_⟩, ?_⟩, ?_⟩, ?_⟩
        · exact s0 rfl fun cx => run_fieldAddr' (k := 2) (n := 2) rfl (by kernel_rfl) (cx.out 1 rfl) rfl
        · exact s0 rfl fun cx => run_loadB (n := 2) rfl (by kernel_rfl) (by kernel_rfl) (cx.anc 0 rfl) (cx.blk (cx.init 0 _ rfl) rfl) (Nat.le_of_ble_eq_true rfl) rfl
        · exact s0 rfl fun cx => run_loadAt2 rfl (by kernel_rfl) (by kernel_rfl) (cx.sees.glob _) (hN.ext cx.upd.to_ext)
        · exact s0 rfl fun cx => run_eqTID rfl (cx.anc 1 rfl) (cx.anc 2 rfl)
        · exact s0 rfl fun cx => run_move' rfl (Eq.trans (cx.anc 3 rfl) (congrArg Value.bool hs4))
        · exact s2 rfl fun cx => (cx.anc 4 rfl)
        · exact s2 rfl fun cx => (cx.anc 4 rfl)
        · exact s2 rfl fun cx => (cx.anc 4 rfl)
        · exact s2 rfl fun cx => (cx.anc 4 rfl)
        · exact s2 rfl fun cx => (cx.anc 4 rfl)
        · exact s3 rfl fun cx => cx.anc 9 rfl
        · exact s3 rfl fun cx => cx.anc 9 rfl
        · exact s3 rfl fun cx => cx.anc 9 rfl
        · exact s3 rfl fun cx => cx.anc 9 rfl
        · exact s2 rfl fun cx => (cx.anc 4 rfl)
        · exact s2 rfl fun cx => (cx.anc 4 rfl)
        · exact s3 rfl fun cx => cx.anc 15 rfl
        · exact s3 rfl fun cx => cx.anc 15 rfl
        · exact s3 rfl fun cx => cx.anc 15 rfl
        · exact s3 rfl fun cx => cx.anc 15 rfl
        · exact s2 rfl fun cx => (cx.anc 4 rfl)
        · exact s2 rfl fun cx => (cx.anc 4 rfl)
        · exact s3 rfl fun cx => cx.anc 21 rfl
        · exact s3 rfl fun cx => cx.anc 21 rfl
        · exact s3 rfl fun cx => cx.anc 21 rfl
        · exact s3 rfl fun cx => cx.anc 21 rfl
        · exact s2 rfl fun cx => (cx.anc 4 rfl)
        · exact s0 rfl fun cx => run_pick_t rfl (cx.anc 4 rfl) (cx.sees.const _)
        · exact s0 rfl fun cx => run_assign' rfl (cx.anc 27 rfl)
      intro σ β X W5 hD hX hst5 fr hfr
      simp only [zM, exq 0 (hX 0 _ rfl)] at hst5
      simp only [zP, ed 5 (hD 0 lq), ed 6 (hD 1 lq), ed 7 (hD 2 lq), ed 8 (hD 3 lq), ed 9 (hD 4 lq), ed 10 (hD 5 lq), ed 11 (hD 6 lq), ed 12 (hD 7 lq), ed 13 (hD 8 lq), ed 14 (hD 9 lq), ed 15 (hD 10 lq), ed 16 (hD 11 lq), ed 17 (hD 12 lq), ed 18 (hD 13 lq), ed 19 (hD 14 lq), ed 20 (hD 15 lq), ed 21 (hD 16 lq), ed 22 (hD 17 lq), ed 23 (hD 18 lq), ed 24 (hD 19 lq), ed 25 (hD 20 lq), ed 26 (hD 21 lq), ed 27 (hD 22 lq), ed 28 (hD 23 lq), ed 29 (hD 24 lq), ed 30 (hD 25 lq), ed 31 (hD 26 lq), ed 32 (hD 27 lq), ed 3 (hD 28 lq)] at hfr
      clear hX hD; subst hfr; clear σ β X
      refine then_normal ?_
      have hj : tnextF n1 n2 = true := by simp [tnextF, hs4]
      have hp6 := hst5.pick [0] (by decide) rfl
      exact ⟨[.pointer (some ⟨B1_1, 2, none⟩), .agg #[.int .i64 n1, .int .i64 n2], .agg #[.int .i64 (-1), .int .i64 0], .bool (n1 == (-1) && n2 == 0), .bool true, undef, undef, undef, undef, undef, undef, undef, undef, undef, undef, undef, undef, undef, undef, undef, undef, undef, undef, undef, undef, undef, undef, .bool true], trivial, by rw [hj]; rfl, hp6⟩
    rcases Bool.eq_false_or_eq_true (decide (0 ≤ n1)) with hs8 | hs8
    · skip
      have hs8p : 0 ≤ n1 := by simpa using hs8
      rcases Bool.eq_false_or_eq_true (decide (n1 < 400)) with hs10 | hs10
      · skip
        have hs10p : n1 < 400 := by simpa using hs10
        rcases Bool.eq_false_or_eq_true (decide (0 ≤ n2)) with hs12 | hs12
        · skip
          have hs12p : 0 ≤ n2 := by simpa using hs12
          refine wp_region_X [0, 1, 0, 7, 15, 31, 63, 127, 255, 511, 1023, 2047, 4095, 8191, 16383, 32767, 65535, 131071, 262143, 524287, 1048575, 2097151, 4194303, 8388607, 16777215, 33554431, 67108863, 134217727, 268435455] [[], [0], [], [], [], [], [], [0], [], [], [], [], [0], [], [], [], [], [], [0], [], [], [], [], [], [0]] [] [] (fun ix σ β X => match ix with | 0 => σ 5 = .pointer (some ⟨B1_1, 2, none⟩) | 1 => σ 6 = .agg #[.int .i64 n1, .int .i64 n2] | 2 => σ 7 = .agg #[.int .i64 (-1), .int .i64 0] | 3 => σ 8 = .bool (n1 == (-1) && n2 == 0) | 4 => σ 9 = .bool false | 5 => σ 10 = .pointer (some ⟨B1_1, 2, none⟩) | 6 => σ 11 = .pointer (some ⟨B1_1, 2, none⟩) | 7 => σ 12 = .int .i64 n1 | 8 => σ 13 = .bool (decide (0 ≤ n1)) | 9 => σ 14 = .bool true | 10 => σ 15 = .pointer (some ⟨B1_1, 2, none⟩) | 11 => σ 16 = .pointer (some ⟨B1_1, 2, none⟩) | 12 => σ 17 = .int .i64 n1 | 13 => σ 18 = .bool (decide (n1 < 400)) | 14 => σ 19 = .bool true | 15 => σ 20 = .bool true | 16 => σ 21 = .pointer (some ⟨B1_1, 2, none⟩) | 17 => σ 22 = .pointer (some ⟨B1_1, 3, none⟩) | 18 => σ 23 = .int .i64 n2 | 19 => σ 24 = .bool (decide (0 ≤ n2)) | 20 => σ 25 = .bool true | 21 => σ 26 = .bool true | 22 => σ 27 = .pointer (some ⟨B1_1, 2, none⟩) | 23 => σ 28 = .pointer (some ⟨B1_1, 3, none⟩) | 24 => σ 29 = .int .i64 n2 | 25 => σ 30 = .bool (decide (n2 < 24)) | 26 => σ 31 = .bool (decide (n2 < 24)) | 27 => σ 32 = .bool (decide (n2 < 24)) | 28 => σ 3 = .bool (decide (n2 < 24)) | _ => True) [0] [5, 6, 7, 8, 9, 10, 11, 12, 13, 14, 15, 16, 17, 18, 19, 20, 21, 22, 23, 24, 25, 26, 27, 28, 29, 30, 31, 32, 3] hst1 ?_ ?_ ?_
          · exact fun ix _ _ _ _ _ _ hs hb hx h => match ix, h with
            | 0, h | 1, h | 2, h | 3, h | 4, h | 5, h | 6, h | 7, h | 8, h | 9, h | 10, h | 11, h | 12, h | 13, h | 14, h | 15, h | 16, h | 17, h | 18, h | 19, h | 20, h | 21, h | 22, h | 23, h | 24, h | 25, h | 26, h | 27, h | 28, h => (hs _ rfl).symm.trans h
            | _ + 29, _ => trivial
          · refine ⟨⟨⟨⟨⟨⟨⟨⟨⟨⟨⟨⟨⟨⟨⟨⟨⟨⟨⟨⟨⟨⟨⟨⟨⟨⟨⟨⟨⟨trivial, ?_⟩, ?_⟩, ?_⟩, ?_⟩, ?_⟩, ?_⟩, ?_⟩, ?_⟩, ?_⟩, ?_⟩, ?_⟩, ?_⟩, ?_⟩, ?_⟩, ?_⟩, ?_⟩, ?_⟩, ?_⟩, ?_⟩, ?_⟩, ?_⟩, ?_⟩, ?_⟩, ?_⟩, ?_⟩, ?_⟩, ?_⟩, ?_⟩, ?_⟩
            · exact s0 rfl fun cx => run_fieldAddr' (k := 2) (n := 2) rfl (by kernel_rfl) (cx.out 1 rfl) rfl
            · exact s0 rfl fun cx => run_loadB (n := 2) rfl (by kernel_rfl) (by kernel_rfl) (cx.anc 0 rfl) (cx.blk (cx.init 0 _ rfl) rfl) (Nat.le_of_ble_eq_true rfl) rfl
            · exact s0 rfl fun cx => run_loadAt2 rfl (by kernel_rfl) (by kernel_rfl) (cx.sees.glob _) (hN.ext cx.upd.to_ext)
            · exact s0 rfl fun cx => run_eqTID rfl (cx.anc 1 rfl) (cx.anc 2 rfl)
            · exact s0 rfl fun cx => run_move' rfl (Eq.trans (cx.anc 3 rfl) (congrArg Value.bool hs4))
            · exact s1 rfl (fun cx => (cx.anc 4 rfl)) fun cx => run_fieldAddr' (k := 2) (n := 2) rfl (by kernel_rfl) (cx.out 1 rfl) rfl
            · exact s1 rfl (fun cx => (cx.anc 4 rfl)) fun cx => run_fieldAddr' (k := 0) (n := 2) rfl (by kernel_rfl) (cx.anc 5 rfl) rfl
            · exact s1 rfl (fun cx => (cx.anc 4 rfl)) fun cx => run_load1 rfl (by kernel_rfl) (cx.anc 6 rfl) ((cx.blk (cx.init 0 _ rfl) rfl).cell 2)
            · exact s1 rfl (fun cx => (cx.anc 4 rfl)) fun cx => run_bin rfl (cx.anc 7 rfl) (cx.sees.const _) rfl
            · exact s1 rfl (fun cx => (cx.anc 4 rfl)) fun cx => run_move' rfl (Eq.trans (cx.anc 8 rfl) (congrArg Value.bool hs8))
            · exact s1 rfl (fun cx => (cx.anc 9 rfl)) fun cx => run_fieldAddr' (k := 2) (n := 2) rfl (by kernel_rfl) (cx.out 1 rfl) rfl
            · exact s1 rfl (fun cx => (cx.anc 9 rfl)) fun cx => run_fieldAddr' (k := 0) (n := 2) rfl (by kernel_rfl) (cx.anc 10 rfl) rfl
            · exact s1 rfl (fun cx => (cx.anc 9 rfl)) fun cx => run_load1 rfl (by kernel_rfl) (cx.anc 11 rfl) ((cx.blk (cx.init 0 _ rfl) rfl).cell 2)
            · exact s1 rfl (fun cx => (cx.anc 9 rfl)) fun cx => run_bin rfl (cx.anc 12 rfl) (cx.sees.const _) rfl
            · exact s1 rfl (fun cx => (cx.anc 4 rfl)) fun cx => run_pick_t rfl (cx.anc 9 rfl) (Eq.trans (cx.anc 13 rfl) (congrArg Value.bool hs10))
            · exact s1 rfl (fun cx => (cx.anc 4 rfl)) fun cx => run_move' rfl (cx.anc 14 rfl)
            · exact s1 rfl (fun cx => (cx.anc 15 rfl)) fun cx => run_fieldAddr' (k := 2) (n := 2) rfl (by kernel_rfl) (cx.out 1 rfl) rfl
            · exact s1 rfl (fun cx => (cx.anc 15 rfl)) fun cx => run_fieldAddr' (k := 1) (n := 3) rfl (by kernel_rfl) (cx.anc 16 rfl) rfl
            · exact s1 rfl (fun cx => (cx.anc 15 rfl)) fun cx => run_load1 rfl (by kernel_rfl) (cx.anc 17 rfl) ((cx.blk (cx.init 0 _ rfl) rfl).cell 3)
            · exact s1 rfl (fun cx => (cx.anc 15 rfl)) fun cx => run_bin rfl (cx.anc 18 rfl) (cx.sees.const _) rfl
            · exact s1 rfl (fun cx => (cx.anc 4 rfl)) fun cx => run_pick_t rfl (cx.anc 15 rfl) (Eq.trans (cx.anc 19 rfl) (congrArg Value.bool hs12))
            · exact s1 rfl (fun cx => (cx.anc 4 rfl)) fun cx => run_move' rfl (cx.anc 20 rfl)
            · exact s1 rfl (fun cx => (cx.anc 21 rfl)) fun cx => run_fieldAddr' (k := 2) (n := 2) rfl (by kernel_rfl) (cx.out 1 rfl) rfl
            · exact s1 rfl (fun cx => (cx.anc 21 rfl)) fun cx => run_fieldAddr' (k := 1) (n := 3) rfl (by kernel_rfl) (cx.anc 22 rfl) rfl
            · exact s1 rfl (fun cx => (cx.anc 21 rfl)) fun cx => run_load1 rfl (by kernel_rfl) (cx.anc 23 rfl) ((cx.blk (cx.init 0 _ rfl) rfl).cell 3)
            · exact s1 rfl (fun cx => (cx.anc 21 rfl)) fun cx => run_bin rfl (cx.anc 24 rfl) (cx.sees.const _) rfl
            · exact s1 rfl (fun cx => (cx.anc 4 rfl)) fun cx => run_pick_t rfl (cx.anc 21 rfl) (cx.anc 25 rfl)
            · exact s0 rfl fun cx => run_pick_f rfl (cx.anc 4 rfl) (cx.anc 26 rfl)
            · exact s0 rfl fun cx => run_assign' rfl (cx.anc 27 rfl)
          intro σ β X W13 hD hX hst13 fr hfr
          simp only [zM, exq 0 (hX 0 _ rfl)] at hst13
          simp only [zP, ed 5 (hD 0 lq), ed 6 (hD 1 lq), ed 7 (hD 2 lq), ed 8 (hD 3 lq), ed 9 (hD 4 lq), ed 10 (hD 5 lq), ed 11 (hD 6 lq), ed 12 (hD 7 lq), ed 13 (hD 8 lq), ed 14 (hD 9 lq), ed 15 (hD 10 lq), ed 16 (hD 11 lq), ed 17 (hD 12 lq), ed 18 (hD 13 lq), ed 19 (hD 14 lq), ed 20 (hD 15 lq), ed 21 (hD 16 lq), ed 22 (hD 17 lq), ed 23 (hD 18 lq), ed 24 (hD 19 lq), ed 25 (hD 20 lq), ed 26 (hD 21 lq), ed 27 (hD 22 lq), ed 28 (hD 23 lq), ed 29 (hD 24 lq), ed 30 (hD 25 lq), ed 31 (hD 26 lq), ed 32 (hD 27 lq), ed 3 (hD 28 lq)] at hfr
          clear hX hD; subst hfr; clear σ β X
          refine then_normal ?_
          have hj : tnextF n1 n2 = decide (n2 < 24) := by simp [tnextF, hs4, hs8, hs10, hs12]
          have hp14 := hst13.pick [0] (by decide) rfl
          exact ⟨[.pointer (some ⟨B1_1, 2, none⟩), .agg #[.int .i64 n1, .int .i64 n2], .agg #[.int .i64 (-1), .int .i64 0], .bool (n1 == (-1) && n2 == 0), .bool false, .pointer (some ⟨B1_1, 2, none⟩), .pointer (some ⟨B1_1, 2, none⟩), .int .i64 n1, .bool (decide (0 ≤ n1)), .bool true, .pointer (some ⟨B1_1, 2, none⟩), .pointer (some ⟨B1_1, 2, none⟩), .int .i64 n1, .bool (decide (n1 < 400)), .bool true, .bool true, .pointer (some ⟨B1_1, 2, none⟩), .pointer (some ⟨B1_1, 3, none⟩), .int .i64 n2, .bool (decide (0 ≤ n2)), .bool true, .bool true, .pointer (some ⟨B1_1, 2, none⟩), .pointer (some ⟨B1_1, 3, none⟩), .int .i64 n2, .bool (decide (n2 < 24)), .bool (decide (n2 < 24)), .bool (decide (n2 < 24))], trivial, by rw [hj]; rfl, hp14⟩
        have hs12p : ¬ (0 ≤ n2) := by simpa using hs12
        refine wp_region_X [0, 1, 0, 7, 15, 31, 63, 127, 255, 511, 1023, 2047, 4095, 8191, 16383, 32767, 65535, 131071, 262143, 524287, 1048575, 2097151, 4194303, 8388607, 16777215, 33554431, 67108863, 134217727, 268435455] [[], [0], [], [], [], [], [], [0], [], [], [], [], [0], [], [], [], [], [], [0]] [] [] (fun ix σ β X => match ix with | 0 => σ 5 = .pointer (some ⟨B1_1, 2, none⟩) | 1 => σ 6 = .agg #[.int .i64 n1, .int .i64 n2] | 2 => σ 7 = .agg #[.int .i64 (-1), .int .i64 0] | 3 => σ 8 = .bool (n1 == (-1) && n2 == 0) | 4 => σ 9 = .bool false | 5 => σ 10 = .pointer (some ⟨B1_1, 2, none⟩) | 6 => σ 11 = .pointer (some ⟨B1_1, 2, none⟩) | 7 => σ 12 = .int .i64 n1 | 8 => σ 13 = .bool (decide (0 ≤ n1)) | 9 => σ 14 = .bool true | 10 => σ 15 = .pointer (some ⟨B1_1, 2, none⟩) | 11 => σ 16 = .pointer (some ⟨B1_1, 2, none⟩) | 12 => σ 17 = .int .i64 n1 | 13 => σ 18 = .bool (decide (n1 < 400)) | 14 => σ 19 = .bool true | 15 => σ 20 = .bool true | 16 => σ 21 = .pointer (some ⟨B1_1, 2, none⟩) | 17 => σ 22 = .pointer (some ⟨B1_1, 3, none⟩) | 18 => σ 23 = .int .i64 n2 | 19 => σ 24 = .bool (decide (0 ≤ n2)) | 20 => σ 25 = .bool false | 21 => σ 26 = .bool false | 22 => σ 27 = undef | 23 => σ 28 = undef | 24 => σ 29 = undef | 25 => σ 30 = undef | 26 => σ 31 = .bool false | 27 => σ 32 = .bool false | 28 => σ 3 = .bool false | _ => True) [0] [5, 6, 7, 8, 9, 10, 11, 12, 13, 14, 15, 16, 17, 18, 19, 20, 21, 22, 23, 24, 25, 26, 27, 28, 29, 30, 31, 32, 3] hst1 ?_ ?_ ?_
        · exact fun ix _ _ _ _ _ _ hs hb hx h => match ix, h with
          | 0, h | 1, h | 2, h | 3, h | 4, h | 5, h | 6, h | 7, h | 8, h | 9, h | 10, h | 11, h | 12, h | 13, h | 14, h | 15, h | 16, h | 17, h | 18, h | 19, h | 20, h | 21, h | 22, h | 23, h | 24, h | 25, h | 26, h | 27, h | 28, h => (hs _ rfl).symm.trans h
          | _ + 29, _ => trivial
        · refine ⟨⟨⟨⟨⟨⟨⟨⟨⟨⟨⟨⟨⟨⟨⟨⟨⟨⟨⟨⟨⟨⟨⟨⟨⟨⟨⟨⟨⟨trivial, ?_⟩, ?_⟩, ?_⟩, ?_⟩, ?_⟩, ?_⟩, ?_⟩, ?_⟩, ?_⟩, ?_⟩, ?_⟩, ?_⟩, ?_⟩, ?_⟩, ?_⟩, ?_⟩, ?_⟩, ?_⟩, ?_⟩, ?_⟩, ?_⟩, ?_⟩, ?_⟩, ?_⟩, ?_⟩, ?_⟩, ?_⟩, ?_⟩, ?_⟩
          · exact s0 rfl fun cx => run_fieldAddr' (k := 2) (n := 2) rfl (by kernel_rfl) (cx.out 1 rfl) rfl
          · exact s0 rfl fun cx => run_loadB (n := 2) rfl (by kernel_rfl) (by kernel_rfl) (cx.anc 0 rfl) (cx.blk (cx.init 0 _ rfl) rfl) (Nat.le_of_ble_eq_true rfl) rfl
          · exact s0 rfl fun cx => run_loadAt2 rfl (by kernel_rfl) (by kernel_rfl) (cx.sees.glob _) (hN.ext cx.upd.to_ext)
          · exact s0 rfl fun cx => run_eqTID rfl (cx.anc 1 rfl) (cx.anc 2 rfl)
          · exact s0 rfl fun cx => run_move' rfl (Eq.trans (cx.anc 3 rfl) (congrArg Value.bool hs4))
          · exact s1 rfl (fun cx => (cx.anc 4 rfl)) fun cx => run_fieldAddr' (k := 2) (n := 2) rfl (by kernel_rfl) (cx.out 1 rfl) rfl
          · exact s1 rfl (fun cx => (cx.anc 4 rfl)) fun cx => run_fieldAddr' (k := 0) (n := 2) rfl (by kernel_rfl) (cx.anc 5 rfl) rfl
          · exact s1 rfl (fun cx => (cx.anc 4 rfl)) fun cx => run_load1 rfl (by kernel_rfl) (cx.anc 6 rfl) ((cx.blk (cx.init 0 _ rfl) rfl).cell 2)
          · exact s1 rfl (fun cx => (cx.anc 4 rfl)) fun cx => run_bin rfl (cx.anc 7 rfl) (cx.sees.const _) rfl
          · exact s1 rfl (fun cx => (cx.anc 4 rfl)) fun cx => run_move' rfl (Eq.trans (cx.anc 8 rfl) (congrArg Value.bool hs8))
          · exact s1 rfl (fun cx => (cx.anc 9 rfl)) fun cx => run_fieldAddr' (k := 2) (n := 2) rfl (by kernel_rfl) (cx.out 1 rfl) rfl
          · exact s1 rfl (fun cx => (cx.anc 9 rfl)) fun cx => run_fieldAddr' (k := 0) (n := 2) rfl (by kernel_rfl) (cx.anc 10 rfl) rfl
          · exact s1 rfl (fun cx => (cx.anc 9 rfl)) fun cx => run_load1 rfl (by kernel_rfl) (cx.anc 11 rfl) ((cx.blk (cx.init 0 _ rfl) rfl).cell 2)
          · exact s1 rfl (fun cx => (cx.anc 9 rfl)) fun cx => run_bin rfl (cx.anc 12 rfl) (cx.sees.const _) rfl
          · exact s1 rfl (fun cx => (cx.anc 4 rfl)) fun cx => run_pick_t rfl (cx.anc 9 rfl) (Eq.trans (cx.anc 13 rfl) (congrArg Value.bool hs10))
          · exact s1 rfl (fun cx => (cx.anc 4 rfl)) fun cx => run_move' rfl (cx.anc 14 rfl)
          · exact s1 rfl (fun cx => (cx.anc 15 rfl)) fun cx => run_fieldAddr' (k := 2) (n := 2) rfl (by kernel_rfl) (cx.out 1 rfl) rfl
          · exact s1 rfl (fun cx => (cx.anc 15 rfl)) fun cx => run_fieldAddr' (k := 1) (n := 3) rfl (by kernel_rfl) (cx.anc 16 rfl) rfl
          · exact s1 rfl (fun cx => (cx.anc 15 rfl)) fun cx => run_load1 rfl (by kernel_rfl) (cx.anc 17 rfl) ((cx.blk (cx.init 0 _ rfl) rfl).cell 3)
          · exact s1 rfl (fun cx => (cx.anc 15 rfl)) fun cx => run_bin rfl (cx.anc 18 rfl) (cx.sees.const _) rfl
          · exact s1 rfl (fun cx => (cx.anc 4 rfl)) fun cx => run_pick_t rfl (cx.anc 15 rfl) (Eq.trans (cx.anc 19 rfl) (congrArg Value.bool hs12))
          · exact s1 rfl (fun cx => (cx.anc 4 rfl)) fun cx => run_move' rfl (cx.anc 20 rfl)
          · exact s2 rfl fun cx => (cx.anc 21 rfl)
          · exact s2 rfl fun cx => (cx.anc 21 rfl)
          · exact s2 rfl fun cx => (cx.anc 21 rfl)
          · exact s2 rfl fun cx => (cx.anc 21 rfl)
          · exact s1 rfl (fun cx => (cx.anc 4 rfl)) fun cx => run_pick_f rfl (cx.anc 21 rfl) (cx.sees.const _)
          · exact s0 rfl fun cx => run_pick_f rfl (cx.anc 4 rfl) (cx.anc 26 rfl)
          · exact s0 rfl fun cx => run_assign' rfl (cx.anc 27 rfl)
        intro σ β X W15 hD hX hst15 fr hfr
        simp only [zM, exq 0 (hX 0 _ rfl)] at hst15
        simp only [zP, ed 5 (hD 0 lq), ed 6 (hD 1 lq), ed 7 (hD 2 lq), ed 8 (hD 3 lq), ed 9 (hD 4 lq), ed 10 (hD 5 lq), ed 11 (hD 6 lq), ed 12 (hD 7 lq), ed 13 (hD 8 lq), ed 14 (hD 9 lq), ed 15 (hD 10 lq), ed 16 (hD 11 lq), ed 17 (hD 12 lq), ed 18 (hD 13 lq), ed 19 (hD 14 lq), ed 20 (hD 15 lq), ed 21 (hD 16 lq), ed 22 (hD 17 lq), ed 23 (hD 18 lq), ed 24 (hD 19 lq), ed 25 (hD 20 lq), ed 26 (hD 21 lq), ed 27 (hD 22 lq), ed 28 (hD 23 lq), ed 29 (hD 24 lq), ed 30 (hD 25 lq), ed 31 (hD 26 lq), ed 32 (hD 27 lq), ed 3 (hD 28 lq)] at hfr
        clear hX hD; subst hfr; clear σ β X
        refine then_normal ?_
        have hj : tnextF n1 n2 = false := by simp [tnextF, hs4, hs8, hs10, hs12]
        have hp16 := hst15.pick [0] (by decide) rfl
        exact ⟨[.pointer (some ⟨B1_1, 2, none⟩), .agg #[.int .i64 n1, .int .i64 n2], .agg #[.int .i64 (-1), .int .i64 0], .bool (n1 == (-1) && n2 == 0), .bool false, .pointer (some ⟨B1_1, 2, none⟩), .pointer (some ⟨B1_1, 2, none⟩), .int .i64 n1, .bool (decide (0 ≤ n1)), .bool true, .pointer (some ⟨B1_1, 2, none⟩), .pointer (some ⟨B1_1, 2, none⟩), .int .i64 n1, .bool (decide (n1 < 400)), .bool true, .bool true, .pointer (some ⟨B1_1, 2, none⟩), .pointer (some ⟨B1_1, 3, none⟩), .int .i64 n2, .bool (decide (0 ≤ n2)), .bool false, .bool false, undef, undef, undef, undef, .bool false, .bool false], trivial, by rw [hj]; rfl, hp16⟩
      have hs10p : ¬ (n1 < 400) := by simpa using hs10
      refine wp_region_X [0, 1, 0, 7, 15, 31, 63, 127, 255, 511, 1023, 2047, 4095, 8191, 16383, 32767, 65535, 131071, 262143, 524287, 1048575, 2097151, 4194303, 8388607, 16777215, 33554431, 67108863, 134217727, 268435455] [[], [0], [], [], [], [], [], [0], [], [], [], [], [0]] [] [] (fun ix σ β X => match ix with | 0 => σ 5 = .pointer (some ⟨B1_1, 2, none⟩) | 1 => σ 6 = .agg #[.int .i64 n1, .int .i64 n2] | 2 => σ 7 = .agg #[.int .i64 (-1), .int .i64 0] | 3 => σ 8 = .bool (n1 == (-1) && n2 == 0) | 4 => σ 9 = .bool false | 5 => σ 10 = .pointer (some ⟨B1_1, 2, none⟩) | 6 => σ 11 = .pointer (some ⟨B1_1, 2, none⟩) | 7 => σ 12 = .int .i64 n1 | 8 => σ 13 = .bool (decide (0 ≤ n1)) | 9 => σ 14 = .bool true | 10 => σ 15 = .pointer (some ⟨B1_1, 2, none⟩) | 11 => σ 16 = .pointer (some ⟨B1_1, 2, none⟩) | 12 => σ 17 = .int .i64 n1 | 13 => σ 18 = .bool (decide (n1 < 400)) | 14 => σ 19 = .bool false | 15 => σ 20 = .bool false | 16 => σ 21 = undef | 17 => σ 22 = undef | 18 => σ 23 = undef | 19 => σ 24 = undef | 20 => σ 25 = .bool false | 21 => σ 26 = .bool false | 22 => σ 27 = undef | 23 => σ 28 = undef | 24 => σ 29 = undef | 25 => σ 30 = undef | 26 => σ 31 = .bool false | 27 => σ 32 = .bool false | 28 => σ 3 = .bool false | _ => True) [0] [5, 6, 7, 8, 9, 10, 11, 12, 13, 14, 15, 16, 17, 18, 19, 20, 21, 22, 23, 24, 25, 26, 27, 28, 29, 30, 31, 32, 3] hst1 ?_ ?_ ?_
      · exact fun ix _ _ _ _ _ _ hs hb hx h => match ix, h with
        | 0, h | 1, h | 2, h | 3, h | 4, h | 5, h | 6, h | 7, h | 8, h | 9, h | 10, h | 11, h | 12, h | 13, h | 14, h | 15, h | 16, h | 17, h | 18, h | 19, h | 20, h | 21, h | 22, h | 23, h | 24, h | 25, h | 26, h | 27, h | 28, h => (hs _ rfl).symm.trans h
        | _ + 29, _ => trivial
      · refine ⟨⟨⟨⟨⟨⟨⟨⟨⟨⟨⟨⟨⟨⟨⟨⟨⟨⟨⟨⟨⟨⟨⟨⟨⟨⟨⟨⟨⟨trivial, ?_⟩, ?_⟩, ?_⟩, ?_⟩, ?_⟩, ?_⟩, ?_⟩, ?_⟩, ?_⟩, ?_⟩, ?_⟩, ?_⟩, ?_⟩, ?_⟩, ?_⟩, ?_⟩, ?_⟩, ?_⟩, ?_⟩, ?_⟩, ?_⟩, ?_⟩, ?_⟩, ?_⟩, ?_⟩, ?_⟩, ?_⟩, ?_⟩, ?_⟩
        · exact s0 rfl fun cx => run_fieldAddr' (k := 2) (n := 2) rfl (by kernel_rfl) (cx.out 1 rfl) rfl
        · exact s0 rfl fun cx => run_loadB (n := 2) rfl (by kernel_rfl) (by kernel_rfl) (cx.anc 0 rfl) (cx.blk (cx.init 0 _ rfl) rfl) (Nat.le_of_ble_eq_true rfl) rfl
        · exact s0 rfl fun cx => run_loadAt2 rfl (by kernel_rfl) (by kernel_rfl) (cx.sees.glob _) (hN.ext cx.upd.to_ext)
        · exact s0 rfl fun cx => run_eqTID rfl (cx.anc 1 rfl) (cx.anc 2 rfl)
        · exact s0 rfl fun cx => run_move' rfl (Eq.trans (cx.anc 3 rfl) (congrArg Value.bool hs4))
        · exact s1 rfl (fun cx => (cx.anc 4 rfl)) fun cx => run_fieldAddr' (k := 2) (n := 2) rfl (by kernel_rfl) (cx.out 1 rfl) rfl
        · exact s1 rfl (fun cx => (cx.anc 4 rfl)) fun cx => run_fieldAddr' (k := 0) (n := 2) rfl (by kernel_rfl) (cx.anc 5 rfl) rfl
        · exact s1 rfl (fun cx => (cx.anc 4 rfl)) fun cx => run_load1 rfl (by kernel_rfl) (cx.anc 6 rfl) ((cx.blk (cx.init 0 _ rfl) rfl).cell 2)
        · exact s1 rfl (fun cx => (cx.anc 4 rfl)) fun cx => run_bin rfl (cx.anc 7 rfl) (cx.sees.const _) rfl
        · exact s1 rfl (fun cx => (cx.anc 4 rfl)) fun cx => run_move' rfl (Eq.trans (cx.anc 8 rfl) (congrArg Value.bool hs8))
        · exact s1 rfl (fun cx => (cx.anc 9 rfl)) fun cx => run_fieldAddr' (k := 2) (n := 2) rfl (by kernel_rfl) (cx.out 1 rfl) rfl
        · exact s1 rfl (fun cx => (cx.anc 9 rfl)) fun cx => run_fieldAddr' (k := 0) (n := 2) rfl (by kernel_rfl) (cx.anc 10 rfl) rfl
        · exact s1 rfl (fun cx => (cx.anc 9 rfl)) fun cx => run_load1 rfl (by kernel_rfl) (cx.anc 11 rfl) ((cx.blk (cx.init 0 _ rfl) rfl).cell 2)
        · exact s1 rfl (fun cx => (cx.anc 9 rfl)) fun cx => run_bin rfl (cx.anc 12 rfl) (cx.sees.const _) rfl
        · exact s1 rfl (fun cx => (cx.anc 4 rfl)) fun cx => run_pick_t rfl (cx.anc 9 rfl) (Eq.trans (cx.anc 13 rfl) (congrArg Value.bool hs10))
        · exact s1 rfl (fun cx => (cx.anc 4 rfl)) fun cx => run_move' rfl (cx.anc 14 rfl)
        · exact s2 rfl fun cx => (cx.anc 15 rfl)
        · exact s2 rfl fun cx => (cx.anc 15 rfl)
        · exact s2 rfl fun cx => (cx.anc 15 rfl)
        · exact s2 rfl fun cx => (cx.anc 15 rfl)
        · exact s1 rfl (fun cx => (cx.anc 4 rfl)) fun cx => run_pick_f rfl (cx.anc 15 rfl) (cx.sees.const _)
        · exact s1 rfl (fun cx => (cx.anc 4 rfl)) fun cx => run_move' rfl (cx.anc 20 rfl)
        · exact s2 rfl fun cx => (cx.anc 21 rfl)
        · exact s2 rfl fun cx => (cx.anc 21 rfl)
        · exact s2 rfl fun cx => (cx.anc 21 rfl)
        · exact s2 rfl fun cx => (cx.anc 21 rfl)
        · exact s1 rfl (fun cx => (cx.anc 4 rfl)) fun cx => run_pick_f rfl (cx.anc 21 rfl) (cx.sees.const _)
        · exact s0 rfl fun cx => run_pick_f rfl (cx.anc 4 rfl) (cx.anc 26 rfl)
        · exact s0 rfl fun cx => run_assign' rfl (cx.anc 27 rfl)
      intro σ β X W17 hD hX hst17 fr hfr
      simp only [zM, exq 0 (hX 0 _ rfl)] at hst17
      simp only [zP, ed 5 (hD 0 lq), ed 6 (hD 1 lq), ed 7 (hD 2 lq), ed 8 (hD 3 lq), ed 9 (hD 4 lq), ed 10 (hD 5 lq), ed 11 (hD 6 lq), ed 12 (hD 7 lq), ed 13 (hD 8 lq), ed 14 (hD 9 lq), ed 15 (hD 10 lq), ed 16 (hD 11 lq), ed 17 (hD 12 lq), ed 18 (hD 13 lq), ed 19 (hD 14 lq), ed 20 (hD 15 lq), ed 21 (hD 16 lq), ed 22 (hD 17 lq), ed 23 (hD 18 lq), ed 24 (hD 19 lq), ed 25 (hD 20 lq), ed 26 (hD 21 lq), ed 27 (hD 22 lq), ed 28 (hD 23 lq), ed 29 (hD 24 lq), ed 30 (hD 25 lq), ed 31 (hD 26 lq), ed 32 (hD 27 lq), ed 3 (hD 28 lq)] at hfr
      clear hX hD; subst hfr; clear σ β X
      refine then_normal ?_
      have hj : tnextF n1 n2 = false := by simp [tnextF, hs4, hs8, hs10]
      have hp18 := hst17.pick [0] (by decide) rfl
      exact ⟨[.pointer (some ⟨B1_1, 2, none⟩), .agg #[.int .i64 n1, .int .i64 n2], .agg #[.int .i64 (-1), .int .i64 0], .bool (n1 == (-1) && n2 == 0), .bool false, .pointer (some ⟨B1_1, 2, none⟩), .pointer (some ⟨B1_1, 2, none⟩), .int .i64 n1, .bool (decide (0 ≤ n1)), .bool true, .pointer (some ⟨B1_1, 2, none⟩), .pointer (some ⟨B1_1, 2, none⟩), .int .i64 n1, .bool (decide (n1 < 400)), .bool false, .bool false, undef, undef, undef, undef, .bool false, .bool false, undef, undef, undef, undef, .bool false, .bool false], trivial, by rw [hj]; rfl, hp18⟩
    have hs8p : ¬ (0 ≤ n1) := by simpa using hs8
    refine wp_region_X [0, 1, 0, 7, 15, 31, 63, 127, 255, 511, 1023, 2047, 4095, 8191, 16383, 32767, 65535, 131071, 262143, 524287, 1048575, 2097151, 4194303, 8388607, 16777215, 33554431, 67108863, 134217727, 268435455] [[], [0], [], [], [], [], [], [0]] [] [] (fun ix σ β X => match ix with | 0 => σ 5 = .pointer (some ⟨B1_1, 2, none⟩) | 1 => σ 6 = .agg #[.int .i64 n1, .int .i64 n2] | 2 => σ 7 = .agg #[.int .i64 (-1), .int .i64 0] | 3 => σ 8 = .bool (n1 == (-1) && n2 == 0) | 4 => σ 9 = .bool false | 5 => σ 10 = .pointer (some ⟨B1_1, 2, none⟩) | 6 => σ 11 = .pointer (some ⟨B1_1, 2, none⟩) | 7 => σ 12 = .int .i64 n1 | 8 => σ 13 = .bool (decide (0 ≤ n1)) | 9 => σ 14 = .bool false | 10 => σ 15 = undef | 11 => σ 16 = undef | 12 => σ 17 = undef | 13 => σ 18 = undef | 14 => σ 19 = .bool false | 15 => σ 20 = .bool false | 16 => σ 21 = undef | 17 => σ 22 = undef | 18 => σ 23 = undef | 19 => σ 24 = undef | 20 => σ 25 = .bool false | 21 => σ 26 = .bool false | 22 => σ 27 = undef | 23 => σ 28 = undef | 24 => σ 29 = undef | 25 => σ 30 = undef | 26 => σ 31 = .bool false | 27 => σ 32 = .bool false | 28 => σ 3 = .bool false | _ => True) [0] [5, 6, 7, 8, 9, 10, 11, 12, 13, 14, 15, 16, 17, 18, 19, 20, 21, 22, 23, 24, 25, 26, 27, 28, 29, 30, 31, 32, 3] hst1 ?_ ?_ ?_
    · exact fun ix _ _ _ _ _ _ hs hb hx h => match ix, h with
      | 0, h | 1, h | 2, h | 3, h | 4, h | 5, h | 6, h | 7, h | 8, h | 9, h | 10, h | 11, h | 12, h | 13, h | 14, h | 15, h | 16, h | 17, h | 18, h | 19, h | 20, h | 21, h | 22, h | 23, h | 24, h | 25, h | 26, h | 27, h | 28, h => (hs _ rfl).symm.trans h
      | _ + 29, _ => trivial
    · refine ⟨⟨⟨⟨⟨⟨⟨⟨⟨⟨⟨⟨⟨⟨⟨⟨⟨⟨⟨⟨⟨⟨⟨⟨⟨⟨⟨⟨⟨trivial, ?_⟩, ?_⟩, ?_⟩, ?_⟩, ?_⟩, ?_⟩, ?_⟩, ?_⟩, ?_⟩, ?_⟩, ?_⟩, ?_⟩, ?_⟩, ?_⟩, ?_⟩, ?_⟩, ?_⟩, ?_⟩, ?_⟩, ?_⟩, ?_⟩, ?_⟩, ?_⟩, ?_⟩, ?_⟩, ?_⟩, ?_⟩, ?_⟩, ?_⟩
      · exact s0 rfl fun cx => run_fieldAddr' (k := 2) (n := 2) rfl (by kernel_rfl) (cx.out 1 rfl) rfl
      · exact s0 rfl fun cx => run_loadB (n := 2) rfl (by kernel_rfl) (by kernel_rfl) (cx.anc 0 rfl) (cx.blk (cx.init 0 _ rfl) rfl) (Nat.le_of_ble_eq_true rfl) rfl
      · exact s0 rfl fun cx => run_loadAt2 rfl (by kernel_rfl) (by kernel_rfl) (cx.sees.glob _) (hN.ext cx.upd.to_ext)
      · exact s0 rfl fun cx => run_eqTID rfl (cx.anc 1 rfl) (cx.anc 2 rfl)
      · exact s0 rfl fun cx => run_move' rfl (Eq.trans (cx.anc 3 rfl) (congrArg Value.bool hs4))
      · exact s1 rfl (fun cx => (cx.anc 4 rfl)) fun cx => run_fieldAddr' (k := 2) (n := 2) rfl (by kernel_rfl) (cx.out 1 rfl) rfl
      · exact s1 rfl (fun cx => (cx.anc 4 rfl)) fun cx => run_fieldAddr' (k := 0) (n := 2) rfl (by kernel_rfl) (cx.anc 5 rfl) rfl
      · exact s1 rfl (fun cx => (cx.anc 4 rfl)) fun cx => run_load1 rfl (by kernel_rfl) (cx.anc 6 rfl) ((cx.blk (cx.init 0 _ rfl) rfl).cell 2)
      · exact s1 rfl (fun cx => (cx.anc 4 rfl)) fun cx => run_bin rfl (cx.anc 7 rfl) (cx.sees.const _) rfl
      · exact s1 rfl (fun cx => (cx.anc 4 rfl)) fun cx => run_move' rfl (Eq.trans (cx.anc 8 rfl) (congrArg Value.bool hs8))
      · exact s2 rfl fun cx => (cx.anc 9 rfl)
      · exact s2 rfl fun cx => (cx.anc 9 rfl)
      · exact s2 rfl fun cx => (cx.anc 9 rfl)
      · exact s2 rfl fun cx => (cx.anc 9 rfl)
      · exact s1 rfl (fun cx => (cx.anc 4 rfl)) fun cx => run_pick_f rfl (cx.anc 9 rfl) (cx.sees.const _)
      · exact s1 rfl (fun cx => (cx.anc 4 rfl)) fun cx => run_move' rfl (cx.anc 14 rfl)
      · exact s2 rfl fun cx => (cx.anc 15 rfl)
      · exact s2 rfl fun cx => (cx.anc 15 rfl)
      · exact s2 rfl fun cx => (cx.anc 15 rfl)
      · exact s2 rfl fun cx => (cx.anc 15 rfl)
      · exact s1 rfl (fun cx => (cx.anc 4 rfl)) fun cx => run_pick_f rfl (cx.anc 15 rfl) (cx.sees.const _)
      · exact s1 rfl (fun cx => (cx.anc 4 rfl)) fun cx => run_move' rfl (cx.anc 20 rfl)
      · exact s2 rfl fun cx => (cx.anc 21 rfl)
      · exact s2 rfl fun cx => (cx.anc 21 rfl)
      · exact s2 rfl fun cx => (cx.anc 21 rfl)
      · exact s2 rfl fun cx => (cx.anc 21 rfl)
      · exact s1 rfl (fun cx => (cx.anc 4 rfl)) fun cx => run_pick_f rfl (cx.anc 21 rfl) (cx.sees.const _)
      · exact s0 rfl fun cx => run_pick_f rfl (cx.anc 4 rfl) (cx.anc 26 rfl)
      · exact s0 rfl fun cx => run_assign' rfl (cx.anc 27 rfl)
    intro σ β X W19 hD hX hst19 fr hfr
    simp only [zM, exq 0 (hX 0 _ rfl)] at hst19
    simp only [zP, ed 5 (hD 0 lq), ed 6 (hD 1 lq), ed 7 (hD 2 lq), ed 8 (hD 3 lq), ed 9 (hD 4 lq), ed 10 (hD 5 lq), ed 11 (hD 6 lq), ed 12 (hD 7 lq), ed 13 (hD 8 lq), ed 14 (hD 9 lq), ed 15 (hD 10 lq), ed 16 (hD 11 lq), ed 17 (hD 12 lq), ed 18 (hD 13 lq), ed 19 (hD 14 lq), ed 20 (hD 15 lq), ed 21 (hD 16 lq), ed 22 (hD 17 lq), ed 23 (hD 18 lq), ed 24 (hD 19 lq), ed 25 (hD 20 lq), ed 26 (hD 21 lq), ed 27 (hD 22 lq), ed 28 (hD 23 lq), ed 29 (hD 24 lq), ed 30 (hD 25 lq), ed 31 (hD 26 lq), ed 32 (hD 27 lq), ed 3 (hD 28 lq)] at hfr
    clear hX hD; subst hfr; clear σ β X
    refine then_normal ?_
    have hj : tnextF n1 n2 = false := by simp [tnextF, hs4, hs8]
    have hp20 := hst19.pick [0] (by decide) rfl
    exact ⟨[.pointer (some ⟨B1_1, 2, none⟩), .agg #[.int .i64 n1, .int .i64 n2], .agg #[.int .i64 (-1), .int .i64 0], .bool (n1 == (-1) && n2 == 0), .bool false, .pointer (some ⟨B1_1, 2, none⟩), .pointer (some ⟨B1_1, 2, none⟩), .int .i64 n1, .bool (decide (0 ≤ n1)), .bool false, undef, undef, undef, undef, .bool false, .bool false, undef, undef, undef, undef, .bool false, .bool false, undef, undef, undef, undef, .bool false, .bool false], trivial, by rw [hj]; rfl, hp20⟩
  rintro a2 W2 ⟨u2_, -, rfl, hst2⟩
  refine wp_cut (fun az W => ∃ u21_ : List Value, True ∧ az = ⟨#[.agg #[.int .i64 a, .int .i64 b, .int .i64 n1, .int .i64 n2, .bool ho, .slice RA r.length rc], .pointer (some ⟨B1_1, 0, none⟩), .bool false, .bool (tnextF n1 n2), .bool (rrightF r), (u2_.getD 0 undef), (u2_.getD 1 undef), (u2_.getD 2 undef), (u2_.getD 3 undef), (u2_.getD 4 undef), (u2_.getD 5 undef), (u2_.getD 6 undef), (u2_.getD 7 undef), (u2_.getD 8 undef), (u2_.getD 9 undef), (u2_.getD 10 undef), (u2_.getD 11 undef), (u2_.getD 12 undef), (u2_.getD 13 undef), (u2_.getD 14 undef), (u2_.getD 15 undef), (u2_.getD 16 undef), (u2_.getD 17 undef), (u2_.getD 18 undef), (u2_.getD 19 undef), (u2_.getD 20 undef), (u2_.getD 21 undef), (u2_.getD 22 undef), (u2_.getD 23 undef), (u2_.getD 24 undef), (u2_.getD 25 undef), (u2_.getD 26 undef), (u2_.getD 27 undef), (u21_.getD 0 undef), (u21_.getD 1 undef), (u21_.getD 2 undef), (u21_.getD 3 undef), (u21_.getD 4 undef), (u21_.getD 5 undef), (u21_.getD 6 undef), (u21_.getD 7 undef), (u21_.getD 8 undef), (u21_.getD 9 undef), undef, undef, undef, undef, undef, undef, undef, undef, undef, undef, undef, undef, undef, undef, undef, undef, undef, undef, undef, undef, undef, undef, undef, undef], []⟩ ∧ St w [] [eB B1_1 27 #[.int .i64 a, .int .i64 b, .int .i64 n1, .int .i64 n2, .bool ho, .slice RA r.length rc]] W) ?_ ?_
  · skip
    rcases Bool.eq_false_or_eq_true (decide ((r.length : Int) ≤ 6)) with hs23 | hs23
    · skip
      have hs23p : (r.length : Int) ≤ 6 := by simpa using hs23
      refine wp_region_X [0, 1, 3, 7, 15, 31, 63, 127, 255, 511, 1023] [[], [0], [], [], [], [], [0]] [] [] (fun ix σ β X => match ix with | 0 => σ 33 = .pointer (some ⟨B1_1, 5, none⟩) | 1 => σ 34 = .slice RA r.length rc | 2 => σ 35 = .int .i64 ((r.length : Int)) | 3 => σ 36 = .bool (decide ((r.length : Int) ≤ 6)) | 4 => σ 37 = .bool true | 5 => σ 38 = .pointer (some ⟨B1_1, 5, none⟩) | 6 => σ 39 = .slice RA r.length rc | 7 => σ 40 = .bool (!(r.all vrightF)) | 8 => σ 41 = .bool (!(!(r.all vrightF))) | 9 => σ 42 = .bool (!(!(r.all vrightF))) | 10 => σ 4 = .bool (!(!(r.all vrightF))) | _ => True) [0] [33, 34, 35, 36, 37, 38, 39, 40, 41, 42, 4] hst2 ?_ ?_ ?_
      · exact fun ix _ _ _ _ _ _ hs hb hx h => match ix, h with
        | 0, h | 1, h | 2, h | 3, h | 4, h | 5, h | 6, h | 7, h | 8, h | 9, h | 10, h => (hs _ rfl).symm.trans h
        | _ + 11, _ => trivial
      · refine ⟨⟨⟨⟨⟨⟨⟨⟨⟨⟨⟨trivial, ?_⟩, ?_⟩, ?_⟩, ?_⟩, ?_⟩, ?_⟩, ?_⟩, ?_⟩, ?_⟩, ?_⟩, ?_⟩
        · exact s0 rfl fun cx => run_fieldAddr' (k := 5) (n := 5) rfl (by kernel_rfl) (cx.out 1 rfl) rfl
        · exact s0 rfl fun cx => run_load1 rfl (by kernel_rfl) (cx.anc 0 rfl) ((cx.blk (cx.init 0 _ rfl) rfl).cell 5)
        · exact s0 rfl fun cx => run_len_l (e := 103) rfl (by kernel_rfl) (cx.anc 1 rfl)
        · exact s0 rfl fun cx => run_bin rfl (cx.anc 2 rfl) (cx.sees.const _) rfl
        · exact s0 rfl fun cx => run_move' rfl (Eq.trans (cx.anc 3 rfl) (congrArg Value.bool hs23))
        · exact s1 rfl (fun cx => (cx.anc 4 rfl)) fun cx => run_fieldAddr' (k := 5) (n := 5) rfl (by kernel_rfl) (cx.out 1 rfl) rfl
        · exact s1 rfl (fun cx => (cx.anc 4 rfl)) fun cx => run_load1 rfl (by kernel_rfl) (cx.anc 5 rfl) ((cx.blk (cx.init 0 _ rfl) rfl).cell 5)
        · exact sv_call_on rfl rfl rfl rfl rfl rfl (fun _ _ _ h => h) (fun _ _ _ _ cx => (cx.anc 4 rfl)) fun ρ β W X cx => ⟨_, _, run_callF (args := #[.slice RA r.length rc, .func (.func 103) #[] #[]]) rfl cx.sees rfl (by kernel_rfl) (map2 (cx.anc 6 rfl) (cx.sees.func _)), containsf_any _ _ r _ (hA.ext cx.upd.to_ext) (by omega)⟩
        · exact s1 rfl (fun cx => (cx.anc 4 rfl)) fun cx => run_not rfl (cx.anc 7 rfl) rfl
        · exact s0 rfl fun cx => run_pick_t rfl (cx.anc 4 rfl) (cx.anc 8 rfl)
        · exact s0 rfl fun cx => run_assign' rfl (cx.anc 9 rfl)
      intro σ β X W24 hD hX hst24 fr hfr
      simp only [zM, exq 0 (hX 0 _ rfl)] at hst24
      simp only [zP, ed 33 (hD 0 lq), ed 34 (hD 1 lq), ed 35 (hD 2 lq), ed 36 (hD 3 lq), ed 37 (hD 4 lq), ed 38 (hD 5 lq), ed 39 (hD 6 lq), ed 40 (hD 7 lq), ed 41 (hD 8 lq), ed 42 (hD 9 lq), ed 4 (hD 10 lq)] at hfr
      clear hX hD; subst hfr; clear σ β X
      refine then_normal ?_
      have hn6 : decide (r.length ≤ 6) = decide ((r.length : Int) ≤ 6) := by simp only [decide_eq_decide]; omega
      have hj : rrightF r = !(!(r.all vrightF)) := by rw [rrightF, hn6]; cases hall : r.all vrightF <;> simp [hs23]
      have hp25 := hst24.pick [0] (by decide) rfl
      exact ⟨[.pointer (some ⟨B1_1, 5, none⟩), .slice RA r.length rc, .int .i64 ((r.length : Int)), .bool (decide ((r.length : Int) ≤ 6)), .bool true, .pointer (some ⟨B1_1, 5, none⟩), .slice RA r.length rc, .bool (!(r.all vrightF)), .bool (!(!(r.all vrightF))), .bool (!(!(r.all vrightF)))], trivial, by rw [hj]; rfl, hp25⟩
    have hs23p : ¬ ((r.length : Int) ≤ 6) := by simpa using hs23
    refine wp_region_X [0, 1, 3, 7, 15, 31, 63, 127, 255, 511, 1023] [[], [0]] [] [] (fun ix σ β X => match ix with | 0 => σ 33 = .pointer (some ⟨B1_1, 5, none⟩) | 1 => σ 34 = .slice RA r.length rc | 2 => σ 35 = .int .i64 ((r.length : Int)) | 3 => σ 36 = .bool (decide ((r.length : Int) ≤ 6)) | 4 => σ 37 = .bool false | 5 => σ 38 = undef | 6 => σ 39 = undef | 7 => σ 40 = undef | 8 => σ 41 = undef | 9 => σ 42 = .bool false | 10 => σ 4 = .bool false | _ => True) [0] [33, 34, 35, 36, 37, 38, 39, 40, 41, 42, 4] hst2 ?_ ?_ ?_
    · exact fun ix _ _ _ _ _ _ hs hb hx h => match ix, h with
      | 0, h | 1, h | 2, h | 3, h | 4, h | 5, h | 6, h | 7, h | 8, h | 9, h | 10, h => (hs _ rfl).symm.trans h
      | _ + 11, _ => trivial
    · refine ⟨⟨⟨⟨⟨⟨⟨⟨⟨⟨⟨trivial, ?_⟩, ?_⟩, ?_⟩, ?_⟩, ?_⟩, ?_⟩, ?_⟩, ?_⟩, ?_⟩, ?_⟩, ?_⟩
      · exact s0 rfl fun cx => run_fieldAddr' (k := 5) (n := 5) rfl (by kernel_rfl) (cx.out 1 rfl) rfl
      · exact s0 rfl fun cx => run_load1 rfl (by kernel_rfl) (cx.anc 0 rfl) ((cx.blk (cx.init 0 _ rfl) rfl).cell 5)
      · exact s0 rfl fun cx => run_len_l (e := 103) rfl (by kernel_rfl) (cx.anc 1 rfl)
      · exact s0 rfl fun cx => run_bin rfl (cx.anc 2 rfl) (cx.sees.const _) rfl
      · exact s0 rfl fun cx => run_move' rfl (Eq.trans (cx.anc 3 rfl) (congrArg Value.bool hs23))
      · exact s2 rfl fun cx => (cx.anc 4 rfl)
      · exact s2 rfl fun cx => (cx.anc 4 rfl)
      · exact s2 rfl fun cx => (cx.anc 4 rfl)
      · exact s2 rfl fun cx => (cx.anc 4 rfl)
      · exact s0 rfl fun cx => run_pick_f rfl (cx.anc 4 rfl) (cx.sees.const _)
      · exact s0 rfl fun cx => run_assign' rfl (cx.anc 9 rfl)
    intro σ β X W26 hD hX hst26 fr hfr
    simp only [zM, exq 0 (hX 0 _ rfl)] at hst26
    simp only [zP, ed 33 (hD 0 lq), ed 34 (hD 1 lq), ed 35 (hD 2 lq), ed 36 (hD 3 lq), ed 37 (hD 4 lq), ed 38 (hD 5 lq), ed 39 (hD 6 lq), ed 40 (hD 7 lq), ed 41 (hD 8 lq), ed 42 (hD 9 lq), ed 4 (hD 10 lq)] at hfr
    clear hX hD; subst hfr; clear σ β X
    refine then_normal ?_
    have hn6 : decide (r.length ≤ 6) = decide ((r.length : Int) ≤ 6) := by simp only [decide_eq_decide]; omega
    have hj : rrightF r = false := by rw [rrightF, hn6]; cases hall : r.all vrightF <;> simp [hs23]
    have hp27 := hst26.pick [0] (by decide) rfl
    exact ⟨[.pointer (some ⟨B1_1, 5, none⟩), .slice RA r.length rc, .int .i64 ((r.length : Int)), .bool (decide ((r.length : Int) ≤ 6)), .bool false, undef, undef, undef, undef, .bool false], trivial, by rw [hj]; rfl, hp27⟩
  rintro a21 W21 ⟨u21_, -, rfl, hst21⟩
  refine wp_seq ?_
  rcases Bool.eq_false_or_eq_true (a == 2) with hs29 | hs29
  · skip
    have hs29p : a = 2 := by simpa using hs29
    rcases Bool.eq_false_or_eq_true (b == 0) with hs31 | hs31
    · skip
      have hs31p : b = 0 := by simpa using hs31
      rcases Bool.eq_false_or_eq_true (tnextF n1 n2) with hs33 | hs33
      · skip
        refine wp_region_X [0, 1, 3, 7, 15, 31, 63, 127, 255, 511, 1023, 2047, 4095, 8191, 16383, 32767, 65535, 131071, 262143, 524287, 1048575, 2097151, 4194303, 8388607, 16777215] [[], [0], [], [], [], [], [], [], [], [], [0]] [] [] (fun ix σ β X => match ix with | 0 => σ 43 = .pointer (some ⟨B1_1, 0, none⟩) | 1 => σ 44 = .int .i64 a | 2 => σ 45 = .bool (a == 2) | 3 => σ 46 = .bool true | 4 => σ 47 = undef | 5 => σ 48 = undef | 6 => σ 49 = undef | 7 => σ 50 = .bool true | 8 => σ 51 = .bool true | 9 => σ 52 = .pointer (some ⟨B1_1, 1, none⟩) | 10 => σ 53 = .int .i64 b | 11 => σ 54 = .bool (b == 0) | 12 => σ 55 = .bool true | 13 => σ 56 = undef | 14 => σ 57 = undef | 15 => σ 58 = undef | 16 => σ 59 = .bool true | 17 => σ 60 = .bool true | 18 => σ 61 = .bool true | 19 => σ 62 = .bool true | 20 => σ 63 = .bool true | 21 => σ 64 = .bool true | 22 => σ 65 = .bool (rrightF r) | 23 => σ 66 = .bool (rrightF r) | 24 => σ 2 = .bool (rrightF r) | _ => True) [0] [43, 44, 45, 46, 47, 48, 49, 50, 51, 52, 53, 54, 55, 56, 57, 58, 59, 60, 61, 62, 63, 64, 65, 66, 2] hst21 ?_ ?_ ?_
        · exact fun ix _ _ _ _ _ _ hs hb hx h => match ix, h with
          | 0, h | 1, h | 2, h | 3, h | 4, h | 5, h | 6, h | 7, h | 8, h | 9, h | 10, h | 11, h | 12, h | 13, h | 14, h | 15, h | 16, h | 17, h | 18, h | 19, h | 20, h | 21, h | 22, h | 23, h | 24, h => (hs _ rfl).symm.trans h
          | _ + 25, _ => trivial
        · refine ⟨⟨⟨⟨⟨⟨⟨⟨⟨⟨⟨⟨⟨⟨⟨⟨⟨⟨⟨⟨⟨⟨⟨⟨⟨trivial, ?_⟩, ?_⟩, ?_⟩, ?_⟩, ?_⟩, ?_⟩, ?_⟩, ?_⟩, ?_⟩, ?_⟩, ?_⟩, ?_⟩, ?_⟩, ?_⟩, ?_⟩, ?_⟩, ?_⟩, ?_⟩, ?_⟩, ?_⟩, ?_⟩, ?_⟩, ?_⟩, ?_⟩, ?_⟩
          · exact s0 rfl fun cx => run_fieldAddr' (k := 0) (n := 0) rfl (by kernel_rfl) (cx.out 1 rfl) rfl
          · exact s0 rfl fun cx => run_load1 rfl (by kernel_rfl) (cx.anc 0 rfl) ((cx.blk (cx.init 0 _ rfl) rfl).cell 0)
          · exact s0 rfl fun cx => run_bin rfl (cx.anc 1 rfl) (cx.sees.const _) rfl
          · exact s0 rfl fun cx => run_move' rfl (Eq.trans (cx.anc 2 rfl) (congrArg Value.bool hs29))
          · exact s2 rfl fun cx => (cx.anc 3 rfl)
          · exact s2 rfl fun cx => (cx.anc 3 rfl)
          · exact s2 rfl fun cx => (cx.anc 3 rfl)
          · exact s0 rfl fun cx => run_pick_t rfl (cx.anc 3 rfl) (cx.sees.const _)
          · exact s0 rfl fun cx => run_move' rfl (cx.anc 7 rfl)
          · exact s1 rfl (fun cx => (cx.anc 8 rfl)) fun cx => run_fieldAddr' (k := 1) (n := 1) rfl (by kernel_rfl) (cx.out 1 rfl) rfl
          · exact s1 rfl (fun cx => (cx.anc 8 rfl)) fun cx => run_load1 rfl (by kernel_rfl) (cx.anc 9 rfl) ((cx.blk (cx.init 0 _ rfl) rfl).cell 1)
          · exact s1 rfl (fun cx => (cx.anc 8 rfl)) fun cx => run_bin rfl (cx.anc 10 rfl) (cx.sees.const _) rfl
          · exact s1 rfl (fun cx => (cx.anc 8 rfl)) fun cx => run_move' rfl (Eq.trans (cx.anc 11 rfl) (congrArg Value.bool hs31))
          · exact s2 rfl fun cx => (cx.anc 12 rfl)
          · exact s2 rfl fun cx => (cx.anc 12 rfl)
          · exact s2 rfl fun cx => (cx.anc 12 rfl)
          · exact s1 rfl (fun cx => (cx.anc 8 rfl)) fun cx => run_pick_t rfl (cx.anc 12 rfl) (cx.sees.const _)
          · exact s0 rfl fun cx => run_pick_t rfl (cx.anc 8 rfl) (cx.anc 16 rfl)
          · exact s0 rfl fun cx => run_move' rfl (cx.anc 17 rfl)
          · exact s1 rfl (fun cx => (cx.anc 18 rfl)) fun cx => run_move' rfl (Eq.trans (cx.out 3 rfl) (congrArg Value.bool hs33))
          · exact s0 rfl fun cx => run_pick_t rfl (cx.anc 18 rfl) (cx.anc 19 rfl)
          · exact s0 rfl fun cx => run_move' rfl (cx.anc 20 rfl)
          · exact s1 rfl (fun cx => (cx.anc 21 rfl)) fun cx => run_move' rfl (cx.out 4 rfl)
          · exact s0 rfl fun cx => run_pick_t rfl (cx.anc 21 rfl) (cx.anc 22 rfl)
          · exact s0 rfl fun cx => run_assign' rfl (cx.anc 23 rfl)
        intro σ β X W34 hD hX hst34 fr hfr
        simp only [zM, exq 0 (hX 0 _ rfl)] at hst34
        simp only [zP, ed 43 (hD 0 lq), ed 44 (hD 1 lq), ed 45 (hD 2 lq), ed 46 (hD 3 lq), ed 47 (hD 4 lq), ed 48 (hD 5 lq), ed 49 (hD 6 lq), ed 50 (hD 7 lq), ed 51 (hD 8 lq), ed 52 (hD 9 lq), ed 53 (hD 10 lq), ed 54 (hD 11 lq), ed 55 (hD 12 lq), ed 56 (hD 13 lq), ed 57 (hD 14 lq), ed 58 (hD 15 lq), ed 59 (hD 16 lq), ed 60 (hD 17 lq), ed 61 (hD 18 lq), ed 62 (hD 19 lq), ed 63 (hD 20 lq), ed 64 (hD 21 lq), ed 65 (hD 22 lq), ed 66 (hD 23 lq), ed 2 (hD 24 lq)] at hfr
        clear hX hD; subst hfr; clear σ β X
        refine then_normal ?_
        refine wp_ret ?_
        refine bodyPost_ret (v := .bool (rrightF r)) (by simp [results, Tryd.results55, go_sem]) rfl ?_
        exact Ret.bool (by simp [trightF, onZ, hs29, hs31, hs33]) hst34.ext
      refine wp_region_X [0, 1, 3, 7, 15, 31, 63, 127, 255, 511, 1023, 2047, 4095, 8191, 16383, 32767, 65535, 131071, 262143, 524287, 1048575, 2097151, 4194303, 8388607, 16777215] [[], [0], [], [], [], [], [], [], [], [], [0]] [] [] (fun ix σ β X => match ix with | 0 => σ 43 = .pointer (some ⟨B1_1, 0, none⟩) | 1 => σ 44 = .int .i64 a | 2 => σ 45 = .bool (a == 2) | 3 => σ 46 = .bool true | 4 => σ 47 = undef | 5 => σ 48 = undef | 6 => σ 49 = undef | 7 => σ 50 = .bool true | 8 => σ 51 = .bool true | 9 => σ 52 = .pointer (some ⟨B1_1, 1, none⟩) | 10 => σ 53 = .int .i64 b | 11 => σ 54 = .bool (b == 0) | 12 => σ 55 = .bool true | 13 => σ 56 = undef | 14 => σ 57 = undef | 15 => σ 58 = undef | 16 => σ 59 = .bool true | 17 => σ 60 = .bool true | 18 => σ 61 = .bool true | 19 => σ 62 = .bool false | 20 => σ 63 = .bool false | 21 => σ 64 = .bool false | 22 => σ 65 = undef | 23 => σ 66 = .bool false | 24 => σ 2 = .bool false | _ => True) [0] [43, 44, 45, 46, 47, 48, 49, 50, 51, 52, 53, 54, 55, 56, 57, 58, 59, 60, 61, 62, 63, 64, 65, 66, 2] hst21 ?_ ?_ ?_
      · exact fun ix _ _ _ _ _ _ hs hb hx h => match ix, h with
        | 0, h | 1, h | 2, h | 3, h | 4, h | 5, h | 6, h | 7, h | 8, h | 9, h | 10, h | 11, h | 12, h | 13, h | 14, h | 15, h | 16, h | 17, h | 18, h | 19, h | 20, h | 21, h | 22, h | 23, h | 24, h => (hs _ rfl).symm.trans h
        | _ + 25, _ => trivial
      · refine ⟨⟨⟨⟨⟨⟨⟨⟨⟨⟨⟨⟨⟨⟨⟨⟨⟨⟨⟨⟨⟨⟨⟨⟨⟨trivial, ?_⟩, ?_⟩, ?_⟩, ?_⟩, ?_⟩, ?_⟩, ?_⟩, ?_⟩, ?_⟩, ?_⟩, ?_⟩, ?_⟩, ?_⟩, ?_⟩, ?_⟩, ?_⟩, ?_⟩, ?_⟩, ?_⟩, ?_⟩, ?_⟩, ?_⟩, ?_⟩, ?_⟩, ?_⟩
        · exact s0 rfl fun cx => run_fieldAddr' (k := 0) (n := 0) rfl (by kernel_rfl) (cx.out 1 rfl) rfl
        · exact s0 rfl fun cx => run_load1 rfl (by kernel_rfl) (cx.anc 0 rfl) ((cx.blk (cx.init 0 _ rfl) rfl).cell 0)
        · exact s0 rfl fun cx => run_bin rfl (cx.anc 1 rfl) (cx.sees.const _) rfl
        · exact s0 rfl fun cx => run_move' rfl (Eq.trans (cx.anc 2 rfl) (congrArg Value.bool hs29))
        · exact s2 rfl fun cx => (cx.anc 3 rfl)
        · exact s2 rfl fun cx => (cx.anc 3 rfl)
        · exact s2 rfl fun cx => (cx.anc 3 rfl)
        · exact s0 rfl fun cx => run_pick_t rfl (cx.anc 3 rfl) (cx.sees.const _)
        · exact s0 rfl fun cx => run_move' rfl (cx.anc 7 rfl)
        · exact s1 rfl (fun cx => (cx.anc 8 rfl)) fun cx => run_fieldAddr' (k := 1) (n := 1) rfl (by kernel_rfl) (cx.out 1 rfl) rfl
        · exact s1 rfl (fun cx => (cx.anc 8 rfl)) fun cx => run_load1 rfl (by kernel_rfl) (cx.anc 9 rfl) ((cx.blk (cx.init 0 _ rfl) rfl).cell 1)
        · exact s1 rfl (fun cx => (cx.anc 8 rfl)) fun cx => run_bin rfl (cx.anc 10 rfl) (cx.sees.const _) rfl
        · exact s1 rfl (fun cx => (cx.anc 8 rfl)) fun cx => run_move' rfl (Eq.trans (cx.anc 11 rfl) (congrArg Value.bool hs31))
        · exact s2 rfl fun cx => (cx.anc 12 rfl)
        · exact s2 rfl fun cx => (cx.anc 12 rfl)
        · exact s2 rfl fun cx => (cx.anc 12 rfl)
        · exact s1 rfl (fun cx => (cx.anc 8 rfl)) fun cx => run_pick_t rfl (cx.anc 12 rfl) (cx.sees.const _)
        · exact s0 rfl fun cx => run_pick_t rfl (cx.anc 8 rfl) (cx.anc 16 rfl)
        · exact s0 rfl fun cx => run_move' rfl (cx.anc 17 rfl)
        · exact s1 rfl (fun cx => (cx.anc 18 rfl)) fun cx => run_move' rfl (Eq.trans (cx.out 3 rfl) (congrArg Value.bool hs33))
        · exact s0 rfl fun cx => run_pick_t rfl (cx.anc 18 rfl) (cx.anc 19 rfl)
        · exact s0 rfl fun cx => run_move' rfl (cx.anc 20 rfl)
        · exact s2 rfl fun cx => (cx.anc 21 rfl)
        · exact s0 rfl fun cx => run_pick_f rfl (cx.anc 21 rfl) (cx.sees.const _)
        · exact s0 rfl fun cx => run_assign' rfl (cx.anc 23 rfl)
      intro σ β X W35 hD hX hst35 fr hfr
      simp only [zM, exq 0 (hX 0 _ rfl)] at hst35
      simp only [zP, ed 43 (hD 0 lq), ed 44 (hD 1 lq), ed 45 (hD 2 lq), ed 46 (hD 3 lq), ed 47 (hD 4 lq), ed 48 (hD 5 lq), ed 49 (hD 6 lq), ed 50 (hD 7 lq), ed 51 (hD 8 lq), ed 52 (hD 9 lq), ed 53 (hD 10 lq), ed 54 (hD 11 lq), ed 55 (hD 12 lq), ed 56 (hD 13 lq), ed 57 (hD 14 lq), ed 58 (hD 15 lq), ed 59 (hD 16 lq), ed 60 (hD 17 lq), ed 61 (hD 18 lq), ed 62 (hD 19 lq), ed 63 (hD 20 lq), ed 64 (hD 21 lq), ed 65 (hD 22 lq), ed 66 (hD 23 lq), ed 2 (hD 24 lq)] at hfr
      clear hX hD; subst hfr; clear σ β X
      refine then_normal ?_
      refine wp_ret ?_
      refine bodyPost_ret (v := .bool false) (by simp [results, Tryd.results55, go_sem]) rfl ?_
      exact Ret.bool (by simp [trightF, onZ, hs29, hs31, hs33]) hst35.ext
    have hs31p : b ≠ 0 := by simpa using hs31
    rcases Bool.eq_false_or_eq_true (onF b) with hs37 | hs37
    · skip
      rcases Bool.eq_false_or_eq_true (tnextF n1 n2) with hs39 | hs39
      · skip
        refine wp_region_X [0, 1, 3, 7, 15, 31, 63, 127, 255, 511, 1023, 2047, 4095, 8191, 16383, 32767, 65535, 131071, 262143, 524287, 1048575, 2097151, 4194303, 8388607, 16777215] [[], [0], [], [], [], [], [], [], [], [], [0], [], [], [], [0]] [] [] (fun ix σ β X => match ix with | 0 => σ 43 = .pointer (some ⟨B1_1, 0, none⟩) | 1 => σ 44 = .int .i64 a | 2 => σ 45 = .bool (a == 2) | 3 => σ 46 = .bool true | 4 => σ 47 = undef | 5 => σ 48 = undef | 6 => σ 49 = undef | 7 => σ 50 = .bool true | 8 => σ 51 = .bool true | 9 => σ 52 = .pointer (some ⟨B1_1, 1, none⟩) | 10 => σ 53 = .int .i64 b | 11 => σ 54 = .bool (b == 0) | 12 => σ 55 = .bool false | 13 => σ 56 = .pointer (some ⟨B1_1, 1, none⟩) | 14 => σ 57 = .int .i64 b | 15 => σ 58 = .bool (onF b) | 16 => σ 59 = .bool true | 17 => σ 60 = .bool true | 18 => σ 61 = .bool true | 19 => σ 62 = .bool true | 20 => σ 63 = .bool true | 21 => σ 64 = .bool true | 22 => σ 65 = .bool (rrightF r) | 23 => σ 66 = .bool (rrightF r) | 24 => σ 2 = .bool (rrightF r) | _ => True) [0] [43, 44, 45, 46, 47, 48, 49, 50, 51, 52, 53, 54, 55, 56, 57, 58, 59, 60, 61, 62, 63, 64, 65, 66, 2] hst21 ?_ ?_ ?_
        · exact fun ix _ _ _ _ _ _ hs hb hx h => match ix, h with
          | 0, h | 1, h | 2, h | 3, h | 4, h | 5, h | 6, h | 7, h | 8, h | 9, h | 10, h | 11, h | 12, h | 13, h | 14, h | 15, h | 16, h | 17, h | 18, h | 19, h | 20, h | 21, h | 22, h | 23, h | 24, h => (hs _ rfl).symm.trans h
          | _ + 25, _ => trivial
        · refine ⟨⟨⟨⟨⟨⟨⟨⟨⟨⟨⟨⟨⟨⟨⟨⟨⟨⟨⟨⟨⟨⟨⟨⟨⟨trivial, ?_⟩, ?_⟩, ?_⟩, ?_⟩, ?_⟩, ?_⟩, ?_⟩, ?_⟩, ?_⟩, ?_⟩, ?_⟩, ?_⟩, ?_⟩, ?_⟩, ?_⟩, ?_⟩, ?_⟩, ?_⟩, ?_⟩, ?_⟩, ?_⟩, ?_⟩, ?_⟩, ?_⟩, ?_⟩
          · exact s0 rfl fun cx => run_fieldAddr' (k := 0) (n := 0) rfl (by kernel_rfl) (cx.out 1 rfl) rfl
          · exact s0 rfl fun cx => run_load1 rfl (by kernel_rfl) (cx.anc 0 rfl) ((cx.blk (cx.init 0 _ rfl) rfl).cell 0)
          · exact s0 rfl fun cx => run_bin rfl (cx.anc 1 rfl) (cx.sees.const _) rfl
          · exact s0 rfl fun cx => run_move' rfl (Eq.trans (cx.anc 2 rfl) (congrArg Value.bool hs29))
          · exact s2 rfl fun cx => (cx.anc 3 rfl)
          · exact s2 rfl fun cx => (cx.anc 3 rfl)
          · exact s2 rfl fun cx => (cx.anc 3 rfl)
          · exact s0 rfl fun cx => run_pick_t rfl (cx.anc 3 rfl) (cx.sees.const _)
          · exact s0 rfl fun cx => run_move' rfl (cx.anc 7 rfl)
          · exact s1 rfl (fun cx => (cx.anc 8 rfl)) fun cx => run_fieldAddr' (k := 1) (n := 1) rfl (by kernel_rfl) (cx.out 1 rfl) rfl
          · exact s1 rfl (fun cx => (cx.anc 8 rfl)) fun cx => run_load1 rfl (by kernel_rfl) (cx.anc 9 rfl) ((cx.blk (cx.init 0 _ rfl) rfl).cell 1)
          · exact s1 rfl (fun cx => (cx.anc 8 rfl)) fun cx => run_bin rfl (cx.anc 10 rfl) (cx.sees.const _) rfl
          · exact s1 rfl (fun cx => (cx.anc 8 rfl)) fun cx => run_move' rfl (Eq.trans (cx.anc 11 rfl) (congrArg Value.bool hs31))
          · exact s1 rfl (fun cx => (cx.anc 12 rfl)) fun cx => run_fieldAddr' (k := 1) (n := 1) rfl (by kernel_rfl) (cx.out 1 rfl) rfl
          · exact s1 rfl (fun cx => (cx.anc 12 rfl)) fun cx => run_load1 rfl (by kernel_rfl) (cx.anc 13 rfl) ((cx.blk (cx.init 0 _ rfl) rfl).cell 1)
          · exact sv_call_on rfl rfl rfl rfl rfl rfl (fun _ _ _ h => h) (fun _ _ _ _ cx => (cx.anc 12 rfl)) fun ρ β W X cx => ⟨_, _, run_callF (args := #[.int .i64 b]) rfl cx.sees rfl (by kernel_rfl) (map1 (cx.anc 14 rfl)), ton_any b _⟩
          · exact s1 rfl (fun cx => (cx.anc 8 rfl)) fun cx => run_pick_f rfl (cx.anc 12 rfl) (Eq.trans (cx.anc 15 rfl) (congrArg Value.bool hs37))
          · exact s0 rfl fun cx => run_pick_t rfl (cx.anc 8 rfl) (cx.anc 16 rfl)
          · exact s0 rfl fun cx => run_move' rfl (cx.anc 17 rfl)
          · exact s1 rfl (fun cx => (cx.anc 18 rfl)) fun cx => run_move' rfl (Eq.trans (cx.out 3 rfl) (congrArg Value.bool hs39))
          · exact s0 rfl fun cx => run_pick_t rfl (cx.anc 18 rfl) (cx.anc 19 rfl)
          · exact s0 rfl fun cx => run_move' rfl (cx.anc 20 rfl)
          · exact s1 rfl (fun cx => (cx.anc 21 rfl)) fun cx => run_move' rfl (cx.out 4 rfl)
          · exact s0 rfl fun cx => run_pick_t rfl (cx.anc 21 rfl) (cx.anc 22 rfl)
          · exact s0 rfl fun cx => run_assign' rfl (cx.anc 23 rfl)
        intro σ β X W40 hD hX hst40 fr hfr
        simp only [zM, exq 0 (hX 0 _ rfl)] at hst40
        simp only [zP, ed 43 (hD 0 lq), ed 44 (hD 1 lq), ed 45 (hD 2 lq), ed 46 (hD 3 lq), ed 47 (hD 4 lq), ed 48 (hD 5 lq), ed 49 (hD 6 lq), ed 50 (hD 7 lq), ed 51 (hD 8 lq), ed 52 (hD 9 lq), ed 53 (hD 10 lq), ed 54 (hD 11 lq), ed 55 (hD 12 lq), ed 56 (hD 13 lq), ed 57 (hD 14 lq), ed 58 (hD 15 lq), ed 59 (hD 16 lq), ed 60 (hD 17 lq), ed 61 (hD 18 lq), ed 62 (hD 19 lq), ed 63 (hD 20 lq), ed 64 (hD 21 lq), ed 65 (hD 22 lq), ed 66 (hD 23 lq), ed 2 (hD 24 lq)] at hfr
        clear hX hD; subst hfr; clear σ β X
        refine then_normal ?_
        refine wp_ret ?_
        refine bodyPost_ret (v := .bool (rrightF r)) (by simp [results, Tryd.results55, go_sem]) rfl ?_
        exact Ret.bool (by simp [trightF, onZ, hs29, hs31, hs37, hs39]) hst40.ext
      refine wp_region_X [0, 1, 3, 7, 15, 31, 63, 127, 255, 511, 1023, 2047, 4095, 8191, 16383, 32767, 65535, 131071, 262143, 524287, 1048575, 2097151, 4194303, 8388607, 16777215] [[], [0], [], [], [], [], [], [], [], [], [0], [], [], [], [0]] [] [] (fun ix σ β X => match ix with | 0 => σ 43 = .pointer (some ⟨B1_1, 0, none⟩) | 1 => σ 44 = .int .i64 a | 2 => σ 45 = .bool (a == 2) | 3 => σ 46 = .bool true | 4 => σ 47 = undef | 5 => σ 48 = undef | 6 => σ 49 = undef | 7 => σ 50 = .bool true | 8 => σ 51 = .bool true | 9 => σ 52 = .pointer (some ⟨B1_1, 1, none⟩) | 10 => σ 53 = .int .i64 b | 11 => σ 54 = .bool (b == 0) | 12 => σ 55 = .bool false | 13 => σ 56 = .pointer (some ⟨B1_1, 1, none⟩) | 14 => σ 57 = .int .i64 b | 15 => σ 58 = .bool (onF b) | 16 => σ 59 = .bool true | 17 => σ 60 = .bool true | 18 => σ 61 = .bool true | 19 => σ 62 = .bool false | 20 => σ 63 = .bool false | 21 => σ 64 = .bool false | 22 => σ 65 = undef | 23 => σ 66 = .bool false | 24 => σ 2 = .bool false | _ => True) [0] [43, 44, 45, 46, 47, 48, 49, 50, 51, 52, 53, 54, 55, 56, 57, 58, 59, 60, 61, 62, 63, 64, 65, 66, 2] hst21 ?_ ?_ ?_
      · exact fun ix _ _ _ _ _ _ hs hb hx h => match ix, h with
        | 0, h | 1, h | 2, h | 3, h | 4, h | 5, h | 6, h | 7, h | 8, h | 9, h | 10, h | 11, h | 12, h | 13, h | 14, h | 15, h | 16, h | 17, h | 18, h | 19, h | 20, h | 21, h | 22, h | 23, h | 24, h => (hs _ rfl).symm.trans h
        | _ + 25, _ => trivial
      · refine ⟨⟨⟨⟨⟨⟨⟨⟨⟨⟨⟨⟨⟨⟨⟨⟨⟨⟨⟨⟨⟨⟨⟨⟨⟨trivial, ?_⟩, ?_⟩, ?_⟩, ?_⟩, ?_⟩, ?_⟩, ?_⟩, ?_⟩, ?_⟩, ?_⟩, ?_⟩, ?_⟩, ?_⟩, ?_⟩, ?_⟩, ?_⟩, ?_⟩, ?_⟩, ?_⟩, ?_⟩, ?_⟩, ?_⟩, ?_⟩, ?_⟩, ?_⟩
        · exact s0 rfl fun cx => run_fieldAddr' (k := 0) (n := 0) rfl (by kernel_rfl) (cx.out 1 rfl) rfl
        · exact s0 rfl fun cx => run_load1 rfl (by kernel_rfl) (cx.anc 0 rfl) ((cx.blk (cx.init 0 _ rfl) rfl).cell 0)
        · exact s0 rfl fun cx => run_bin rfl (cx.anc 1 rfl) (cx.sees.const _) rfl
        · exact s0 rfl fun cx => run_move' rfl (Eq.trans (cx.anc 2 rfl) (congrArg Value.bool hs29))
        · exact s2 rfl fun cx => (cx.anc 3 rfl)
        · exact s2 rfl fun cx => (cx.anc 3 rfl)
        · exact s2 rfl fun cx => (cx.anc 3 rfl)
        · exact s0 rfl fun cx => run_pick_t rfl (cx.anc 3 rfl) (cx.sees.const _)
        · exact s0 rfl fun cx => run_move' rfl (cx.anc 7 rfl)
        · exact s1 rfl (fun cx => (cx.anc 8 rfl)) fun cx => run_fieldAddr' (k := 1) (n := 1) rfl (by kernel_rfl) (cx.out 1 rfl) rfl
        · exact s1 rfl (fun cx => (cx.anc 8 rfl)) fun cx => run_load1 rfl (by kernel_rfl) (cx.anc 9 rfl) ((cx.blk (cx.init 0 _ rfl) rfl).cell 1)
        · exact s1 rfl (fun cx => (cx.anc 8 rfl)) fun cx => run_bin rfl (cx.anc 10 rfl) (cx.sees.const _) rfl
        · exact s1 rfl (fun cx => (cx.anc 8 rfl)) fun cx => run_move' rfl (Eq.trans (cx.anc 11 rfl) (congrArg Value.bool hs31))
        · exact s1 rfl (fun cx => (cx.anc 12 rfl)) fun cx => run_fieldAddr' (k := 1) (n := 1) rfl (by kernel_rfl) (cx.out 1 rfl) rfl
        · exact s1 rfl (fun cx => (cx.anc 12 rfl)) fun cx => run_load1 rfl (by kernel_rfl) (cx.anc 13 rfl) ((cx.blk (cx.init 0 _ rfl) rfl).cell 1)
        · exact sv_call_on rfl rfl rfl rfl rfl rfl (fun _ _ _ h => h) (fun _ _ _ _ cx => (cx.anc 12 rfl)) fun ρ β W X cx => ⟨_, _, run_callF (args := #[.int .i64 b]) rfl cx.sees rfl (by kernel_rfl) (map1 (cx.anc 14 rfl)), ton_any b _⟩
        · exact s1 rfl (fun cx => (cx.anc 8 rfl)) fun cx => run_pick_f rfl (cx.anc 12 rfl) (Eq.trans (cx.anc 15 rfl) (congrArg Value.bool hs37))
        · exact s0 rfl fun cx => run_pick_t rfl (cx.anc 8 rfl) (cx.anc 16 rfl)
        · exact s0 rfl fun cx => run_move' rfl (cx.anc 17 rfl)
        · exact s1 rfl (fun cx => (cx.anc 18 rfl)) fun cx => run_move' rfl (Eq.trans (cx.out 3 rfl) (congrArg Value.bool hs39))
        · exact s0 rfl fun cx => run_pick_t rfl (cx.anc 18 rfl) (cx.anc 19 rfl)
        · exact s0 rfl fun cx => run_move' rfl (cx.anc 20 rfl)
        · exact s2 rfl fun cx => (cx.anc 21 rfl)
        · exact s0 rfl fun cx => run_pick_f rfl (cx.anc 21 rfl) (cx.sees.const _)
        · exact s0 rfl fun cx => run_assign' rfl (cx.anc 23 rfl)
      intro σ β X W41 hD hX hst41 fr hfr
      simp only [zM, exq 0 (hX 0 _ rfl)] at hst41
      simp only [zP, ed 43 (hD 0 lq), ed 44 (hD 1 lq), ed 45 (hD 2 lq), ed 46 (hD 3 lq), ed 47 (hD 4 lq), ed 48 (hD 5 lq), ed 49 (hD 6 lq), ed 50 (hD 7 lq), ed 51 (hD 8 lq), ed 52 (hD 9 lq), ed 53 (hD 10 lq), ed 54 (hD 11 lq), ed 55 (hD 12 lq), ed 56 (hD 13 lq), ed 57 (hD 14 lq), ed 58 (hD 15 lq), ed 59 (hD 16 lq), ed 60 (hD 17 lq), ed 61 (hD 18 lq), ed 62 (hD 19 lq), ed 63 (hD 20 lq), ed 64 (hD 21 lq), ed 65 (hD 22 lq), ed 66 (hD 23 lq), ed 2 (hD 24 lq)] at hfr
      clear hX hD; subst hfr; clear σ β X
      refine then_normal ?_
      refine wp_ret ?_
      refine bodyPost_ret (v := .bool false) (by simp [results, Tryd.results55, go_sem]) rfl ?_
      exact Ret.bool (by simp [trightF, onZ, hs29, hs31, hs37, hs39]) hst41.ext
    refine wp_region_X [0, 1, 3, 7, 15, 31, 63, 127, 255, 511, 1023, 2047, 4095, 8191, 16383, 32767, 65535, 131071, 262143, 524287, 1048575, 2097151, 4194303, 8388607, 16777215] [[], [0], [], [], [], [], [], [], [], [], [0], [], [], [], [0]] [] [] (fun ix σ β X => match ix with | 0 => σ 43 = .pointer (some ⟨B1_1, 0, none⟩) | 1 => σ 44 = .int .i64 a | 2 => σ 45 = .bool (a == 2) | 3 => σ 46 = .bool true | 4 => σ 47 = undef | 5 => σ 48 = undef | 6 => σ 49 = undef | 7 => σ 50 = .bool true | 8 => σ 51 = .bool true | 9 => σ 52 = .pointer (some ⟨B1_1, 1, none⟩) | 10 => σ 53 = .int .i64 b | 11 => σ 54 = .bool (b == 0) | 12 => σ 55 = .bool false | 13 => σ 56 = .pointer (some ⟨B1_1, 1, none⟩) | 14 => σ 57 = .int .i64 b | 15 => σ 58 = .bool (onF b) | 16 => σ 59 = .bool false | 17 => σ 60 = .bool false | 18 => σ 61 = .bool false | 19 => σ 62 = undef | 20 => σ 63 = .bool false | 21 => σ 64 = .bool false | 22 => σ 65 = undef | 23 => σ 66 = .bool false | 24 => σ 2 = .bool false | _ => True) [0] [43, 44, 45, 46, 47, 48, 49, 50, 51, 52, 53, 54, 55, 56, 57, 58, 59, 60, 61, 62, 63, 64, 65, 66, 2] hst21 ?_ ?_ ?_
    · exact fun ix _ _ _ _ _ _ hs hb hx h => match ix, h with
      | 0, h | 1, h | 2, h | 3, h | 4, h | 5, h | 6, h | 7, h | 8, h | 9, h | 10, h | 11, h | 12, h | 13, h | 14, h | 15, h | 16, h | 17, h | 18, h | 19, h | 20, h | 21, h | 22, h | 23, h | 24, h => (hs _ rfl).symm.trans h
      | _ + 25, _ => trivial
    · refine ⟨⟨⟨⟨⟨⟨⟨⟨⟨⟨⟨⟨⟨⟨⟨⟨⟨⟨⟨⟨⟨⟨⟨⟨⟨trivial, ?_⟩, ?_⟩, ?_⟩, ?_⟩, ?_⟩, ?_⟩, ?_⟩, ?_⟩, ?_⟩, ?_⟩, ?_⟩, ?_⟩, ?_⟩, ?_⟩, ?_⟩, ?_⟩, ?_⟩, ?_⟩, ?_⟩, ?_⟩, ?_⟩, ?_⟩, ?_⟩, ?_⟩, ?_⟩
      · exact s0 rfl fun cx => run_fieldAddr' (k := 0) (n := 0) rfl (by kernel_rfl) (cx.out 1 rfl) rfl
      · exact s0 rfl fun cx => run_load1 rfl (by kernel_rfl) (cx.anc 0 rfl) ((cx.blk (cx.init 0 _ rfl) rfl).cell 0)
      · exact s0 rfl fun cx => run_bin rfl (cx.anc 1 rfl) (cx.sees.const _) rfl
      · exact s0 rfl fun cx => run_move' rfl (Eq.trans (cx.anc 2 rfl) (congrArg Value.bool hs29))
      · exact s2 rfl fun cx => (cx.anc 3 rfl)
      · exact s2 rfl fun cx => (cx.anc 3 rfl)
      · exact s2 rfl fun cx => (cx.anc 3 rfl)
      · exact s0 rfl fun cx => run_pick_t rfl (cx.anc 3 rfl) (cx.sees.const _)
      · exact s0 rfl fun cx => run_move' rfl (cx.anc 7 rfl)
      · exact s1 rfl (fun cx => (cx.anc 8 rfl)) fun cx => run_fieldAddr' (k := 1) (n := 1) rfl (by kernel_rfl) (cx.out 1 rfl) rfl
      · exact s1 rfl (fun cx => (cx.anc 8 rfl)) fun cx => run_load1 rfl (by kernel_rfl) (cx.anc 9 rfl) ((cx.blk (cx.init 0 _ rfl) rfl).cell 1)
      · exact s1 rfl (fun cx => (cx.anc 8 rfl)) fun cx => run_bin rfl (cx.anc 10 rfl) (cx.sees.const _) rfl
      · exact s1 rfl (fun cx => (cx.anc 8 rfl)) fun cx => run_move' rfl (Eq.trans (cx.anc 11 rfl) (congrArg Value.bool hs31))
      · exact s1 rfl (fun cx => (cx.anc 12 rfl)) fun cx => run_fieldAddr' (k := 1) (n := 1) rfl (by kernel_rfl) (cx.out 1 rfl) rfl
      · exact s1 rfl (fun cx => (cx.anc 12 rfl)) fun cx => run_load1 rfl (by kernel_rfl) (cx.anc 13 rfl) ((cx.blk (cx.init 0 _ rfl) rfl).cell 1)
      · exact sv_call_on rfl rfl rfl rfl rfl rfl (fun _ _ _ h => h) (fun _ _ _ _ cx => (cx.anc 12 rfl)) fun ρ β W X cx => ⟨_, _, run_callF (args := #[.int .i64 b]) rfl cx.sees rfl (by kernel_rfl) (map1 (cx.anc 14 rfl)), ton_any b _⟩
      · exact s1 rfl (fun cx => (cx.anc 8 rfl)) fun cx => run_pick_f rfl (cx.anc 12 rfl) (Eq.trans (cx.anc 15 rfl) (congrArg Value.bool hs37))
      · exact s0 rfl fun cx => run_pick_t rfl (cx.anc 8 rfl) (cx.anc 16 rfl)
      · exact s0 rfl fun cx => run_move' rfl (cx.anc 17 rfl)
      · exact s2 rfl fun cx => (cx.anc 18 rfl)
      · exact s0 rfl fun cx => run_pick_f rfl (cx.anc 18 rfl) (cx.sees.const _)
      · exact s0 rfl fun cx => run_move' rfl (cx.anc 20 rfl)
      · exact s2 rfl fun cx => (cx.anc 21 rfl)
      · exact s0 rfl fun cx => run_pick_f rfl (cx.anc 21 rfl) (cx.sees.const _)
      · exact s0 rfl fun cx => run_assign' rfl (cx.anc 23 rfl)
    intro σ β X W42 hD hX hst42 fr hfr
    simp only [zM, exq 0 (hX 0 _ rfl)] at hst42
    simp only [zP, ed 43 (hD 0 lq), ed 44 (hD 1 lq), ed 45 (hD 2 lq), ed 46 (hD 3 lq), ed 47 (hD 4 lq), ed 48 (hD 5 lq), ed 49 (hD 6 lq), ed 50 (hD 7 lq), ed 51 (hD 8 lq), ed 52 (hD 9 lq), ed 53 (hD 10 lq), ed 54 (hD 11 lq), ed 55 (hD 12 lq), ed 56 (hD 13 lq), ed 57 (hD 14 lq), ed 58 (hD 15 lq), ed 59 (hD 16 lq), ed 60 (hD 17 lq), ed 61 (hD 18 lq), ed 62 (hD 19 lq), ed 63 (hD 20 lq), ed 64 (hD 21 lq), ed 65 (hD 22 lq), ed 66 (hD 23 lq), ed 2 (hD 24 lq)] at hfr
    clear hX hD; subst hfr; clear σ β X
    refine then_normal ?_
    refine wp_ret ?_
    refine bodyPost_ret (v := .bool false) (by simp [results, Tryd.results55, go_sem]) rfl ?_
    exact Ret.bool (by simp [trightF, onZ, hs29, hs31, hs37]) hst42.ext
  have hs29p : a ≠ 2 := by simpa using hs29
  rcases Bool.eq_false_or_eq_true (onF a) with hs44 | hs44
  · skip
    rcases Bool.eq_false_or_eq_true (b == 0) with hs46 | hs46
    · skip
      have hs46p : b = 0 := by simpa using hs46
      rcases Bool.eq_false_or_eq_true (tnextF n1 n2) with hs48 | hs48
      · skip
        refine wp_region_X [0, 1, 3, 7, 15, 31, 63, 127, 255, 511, 1023, 2047, 4095, 8191, 16383, 32767, 65535, 131071, 262143, 524287, 1048575, 2097151, 4194303, 8388607, 16777215] [[], [0], [], [], [], [0], [], [], [], [], [0]] [] [] (fun ix σ β X => match ix with | 0 => σ 43 = .pointer (some ⟨B1_1, 0, none⟩) | 1 => σ 44 = .int .i64 a | 2 => σ 45 = .bool (a == 2) | 3 => σ 46 = .bool false | 4 => σ 47 = .pointer (some ⟨B1_1, 0, none⟩) | 5 => σ 48 = .int .i64 a | 6 => σ 49 = .bool (onF a) | 7 => σ 50 = .bool true | 8 => σ 51 = .bool true | 9 => σ 52 = .pointer (some ⟨B1_1, 1, none⟩) | 10 => σ 53 = .int .i64 b | 11 => σ 54 = .bool (b == 0) | 12 => σ 55 = .bool true | 13 => σ 56 = undef | 14 => σ 57 = undef | 15 => σ 58 = undef | 16 => σ 59 = .bool true | 17 => σ 60 = .bool true | 18 => σ 61 = .bool true | 19 => σ 62 = .bool true | 20 => σ 63 = .bool true | 21 => σ 64 = .bool true | 22 => σ 65 = .bool (rrightF r) | 23 => σ 66 = .bool (rrightF r) | 24 => σ 2 = .bool (rrightF r) | _ => True) [0] [43, 44, 45, 46, 47, 48, 49, 50, 51, 52, 53, 54, 55, 56, 57, 58, 59, 60, 61, 62, 63, 64, 65, 66, 2] hst21 ?_ ?_ ?_
        · exact fun ix _ _ _ _ _ _ hs hb hx h => match ix, h with
          | 0, h | 1, h | 2, h | 3, h | 4, h | 5, h | 6, h | 7, h | 8, h | 9, h | 10, h | 11, h | 12, h | 13, h | 14, h | 15, h | 16, h | 17, h | 18, h | 19, h | 20, h | 21, h | 22, h | 23, h | 24, h => (hs _ rfl).symm.trans h
          | _ + 25, _ => trivial
        · refine ⟨⟨⟨⟨⟨⟨⟨⟨⟨⟨⟨⟨⟨⟨⟨⟨⟨⟨⟨⟨⟨⟨⟨⟨⟨trivial, ?_⟩, ?_⟩, ?_⟩, ?_⟩, ?_⟩, ?_⟩, ?_⟩, ?_⟩, ?_⟩, ?_⟩, ?_⟩, ?_⟩, ?_⟩, ?_⟩, ?_⟩, ?_⟩, ?_⟩, ?_⟩, ?_⟩, ?_⟩, ?_⟩, ?_⟩, ?_⟩, ?_⟩, ?_⟩
          · exact s0 rfl fun cx => run_fieldAddr' (k := 0) (n := 0) rfl (by kernel_rfl) (cx.out 1 rfl) rfl
          · exact s0 rfl fun cx => run_load1 rfl (by kernel_rfl) (cx.anc 0 rfl) ((cx.blk (cx.init 0 _ rfl) rfl).cell 0)
          · exact s0 rfl fun cx => run_bin rfl (cx.anc 1 rfl) (cx.sees.const _) rfl
          · exact s0 rfl fun cx => run_move' rfl (Eq.trans (cx.anc 2 rfl) (congrArg Value.bool hs29))
          · exact s1 rfl (fun cx => (cx.anc 3 rfl)) fun cx => run_fieldAddr' (k := 0) (n := 0) rfl (by kernel_rfl) (cx.out 1 rfl) rfl
          · exact s1 rfl (fun cx => (cx.anc 3 rfl)) fun cx => run_load1 rfl (by kernel_rfl) (cx.anc 4 rfl) ((cx.blk (cx.init 0 _ rfl) rfl).cell 0)
          · exact sv_call_on rfl rfl rfl rfl rfl rfl (fun _ _ _ h => h) (fun _ _ _ _ cx => (cx.anc 3 rfl)) fun ρ β W X cx => ⟨_, _, run_callF (args := #[.int .i64 a]) rfl cx.sees rfl (by kernel_rfl) (map1 (cx.anc 5 rfl)), ton_any a _⟩
          · exact s0 rfl fun cx => run_pick_f rfl (cx.anc 3 rfl) (Eq.trans (cx.anc 6 rfl) (congrArg Value.bool hs44))
          · exact s0 rfl fun cx => run_move' rfl (cx.anc 7 rfl)
          · exact s1 rfl (fun cx => (cx.anc 8 rfl)) fun cx => run_fieldAddr' (k := 1) (n := 1) rfl (by kernel_rfl) (cx.out 1 rfl) rfl
          · exact s1 rfl (fun cx => (cx.anc 8 rfl)) fun cx => run_load1 rfl (by kernel_rfl) (cx.anc 9 rfl) ((cx.blk (cx.init 0 _ rfl) rfl).cell 1)
          · exact s1 rfl (fun cx => (cx.anc 8 rfl)) fun cx => run_bin rfl (cx.anc 10 rfl) (cx.sees.const _) rfl
          · exact s1 rfl (fun cx => (cx.anc 8 rfl)) fun cx => run_move' rfl (Eq.trans (cx.anc 11 rfl) (congrArg Value.bool hs46))
          · exact s2 rfl fun cx => (cx.anc 12 rfl)
          · exact s2 rfl fun cx => (cx.anc 12 rfl)
          · exact s2 rfl fun cx => (cx.anc 12 rfl)
          · exact s1 rfl (fun cx => (cx.anc 8 rfl)) fun cx => run_pick_t rfl (cx.anc 12 rfl) (cx.sees.const _)
          · exact s0 rfl fun cx => run_pick_t rfl (cx.anc 8 rfl) (cx.anc 16 rfl)
          · exact s0 rfl fun cx => run_move' rfl (cx.anc 17 rfl)
          · exact s1 rfl (fun cx => (cx.anc 18 rfl)) fun cx => run_move' rfl (Eq.trans (cx.out 3 rfl) (congrArg Value.bool hs48))
          · exact s0 rfl fun cx => run_pick_t rfl (cx.anc 18 rfl) (cx.anc 19 rfl)
          · exact s0 rfl fun cx => run_move' rfl (cx.anc 20 rfl)
          · exact s1 rfl (fun cx => (cx.anc 21 rfl)) fun cx => run_move' rfl (cx.out 4 rfl)
          · exact s0 rfl fun cx => run_pick_t rfl (cx.anc 21 rfl) (cx.anc 22 rfl)
          · exact s0 rfl fun cx => run_assign' rfl (cx.anc 23 rfl)
        intro σ β X W49 hD hX hst49 fr hfr
        simp only [zM, exq 0 (hX 0 _ rfl)] at hst49
        simp only [zP, ed 43 (hD 0 lq), ed 44 (hD 1 lq), ed 45 (hD 2 lq), ed 46 (hD 3 lq), ed 47 (hD 4 lq), ed 48 (hD 5 lq), ed 49 (hD 6 lq), ed 50 (hD 7 lq), ed 51 (hD 8 lq), ed 52 (hD 9 lq), ed 53 (hD 10 lq), ed 54 (hD 11 lq), ed 55 (hD 12 lq), ed 56 (hD 13 lq), ed 57 (hD 14 lq), ed 58 (hD 15 lq), ed 59 (hD 16 lq), ed 60 (hD 17 lq), ed 61 (hD 18 lq), ed 62 (hD 19 lq), ed 63 (hD 20 lq), ed 64 (hD 21 lq), ed 65 (hD 22 lq), ed 66 (hD 23 lq), ed 2 (hD 24 lq)] at hfr
        clear hX hD; subst hfr; clear σ β X
        refine then_normal ?_
        refine wp_ret ?_
        refine bodyPost_ret (v := .bool (rrightF r)) (by simp [results, Tryd.results55, go_sem]) rfl ?_
        exact Ret.bool (by simp [trightF, onZ, hs29, hs44, hs46, hs48]) hst49.ext
      refine wp_region_X [0, 1, 3, 7, 15, 31, 63, 127, 255, 511, 1023, 2047, 4095, 8191, 16383, 32767, 65535, 131071, 262143, 524287, 1048575, 2097151, 4194303, 8388607, 16777215] [[], [0], [], [], [], [0], [], [], [], [], [0]] [] [] (fun ix σ β X => match ix with | 0 => σ 43 = .pointer (some ⟨B1_1, 0, none⟩) | 1 => σ 44 = .int .i64 a | 2 => σ 45 = .bool (a == 2) | 3 => σ 46 = .bool false | 4 => σ 47 = .pointer (some ⟨B1_1, 0, none⟩) | 5 => σ 48 = .int .i64 a | 6 => σ 49 = .bool (onF a) | 7 => σ 50 = .bool true | 8 => σ 51 = .bool true | 9 => σ 52 = .pointer (some ⟨B1_1, 1, none⟩) | 10 => σ 53 = .int .i64 b | 11 => σ 54 = .bool (b == 0) | 12 => σ 55 = .bool true | 13 => σ 56 = undef | 14 => σ 57 = undef | 15 => σ 58 = undef | 16 => σ 59 = .bool true | 17 => σ 60 = .bool true | 18 => σ 61 = .bool true | 19 => σ 62 = .bool false | 20 => σ 63 = .bool false | 21 => σ 64 = .bool false | 22 => σ 65 = undef | 23 => σ 66 = .bool false | 24 => σ 2 = .bool false | _ => True) [0] [43, 44, 45, 46, 47, 48, 49, 50, 51, 52, 53, 54, 55, 56, 57, 58, 59, 60, 61, 62, 63, 64, 65, 66, 2] hst21 ?_ ?_ ?_
      · exact fun ix _ _ _ _ _ _ hs hb hx h => match ix, h with
        | 0, h | 1, h | 2, h | 3, h | 4, h | 5, h | 6, h | 7, h | 8, h | 9, h | 10, h | 11, h | 12, h | 13, h | 14, h | 15, h | 16, h | 17, h | 18, h | 19, h | 20, h | 21, h | 22, h | 23, h | 24, h => (hs _ rfl).symm.trans h
        | _ + 25, _ => trivial
      · refine ⟨⟨⟨⟨⟨⟨⟨⟨⟨⟨⟨⟨⟨⟨⟨⟨⟨⟨⟨⟨⟨⟨⟨⟨⟨trivial, ?_⟩, ?_⟩, ?_⟩, ?_⟩, ?_⟩, ?_⟩, ?_⟩, ?_⟩, ?_⟩, ?_⟩, ?_⟩, ?_⟩, ?_⟩, ?_⟩, ?_⟩, ?_⟩, ?_⟩, ?_⟩, ?_⟩, ?_⟩, ?_⟩, ?_⟩, ?_⟩, ?_⟩, ?_⟩
        · exact s0 rfl fun cx => run_fieldAddr' (k := 0) (n := 0) rfl (by kernel_rfl) (cx.out 1 rfl) rfl
        · exact s0 rfl fun cx => run_load1 rfl (by kernel_rfl) (cx.anc 0 rfl) ((cx.blk (cx.init 0 _ rfl) rfl).cell 0)
        · exact s0 rfl fun cx => run_bin rfl (cx.anc 1 rfl) (cx.sees.const _) rfl
        · exact s0 rfl fun cx => run_move' rfl (Eq.trans (cx.anc 2 rfl) (congrArg Value.bool hs29))
        · exact s1 rfl (fun cx => (cx.anc 3 rfl)) fun cx => run_fieldAddr' (k := 0) (n := 0) rfl (by kernel_rfl) (cx.out 1 rfl) rfl
        · exact s1 rfl (fun cx => (cx.anc 3 rfl)) fun cx => run_load1 rfl (by kernel_rfl) (cx.anc 4 rfl) ((cx.blk (cx.init 0 _ rfl) rfl).cell 0)
        · exact sv_call_on rfl rfl rfl rfl rfl rfl (fun _ _ _ h => h) (fun _ _ _ _ cx => (cx.anc 3 rfl)) fun ρ β W X cx => ⟨_, _, run_callF (args := #[.int .i64 a]) rfl cx.sees rfl (by kernel_rfl) (map1 (cx.anc 5 rfl)), ton_any a _⟩
        · exact s0 rfl fun cx => run_pick_f rfl (cx.anc 3 rfl) (Eq.trans (cx.anc 6 rfl) (congrArg Value.bool hs44))
        · exact s0 rfl fun cx => run_move' rfl (cx.anc 7 rfl)
        · exact s1 rfl (fun cx => (cx.anc 8 rfl)) fun cx => run_fieldAddr' (k := 1) (n := 1) rfl (by kernel_rfl) (cx.out 1 rfl) rfl
        · exact s1 rfl (fun cx => (cx.anc 8 rfl)) fun cx => run_load1 rfl (by kernel_rfl) (cx.anc 9 rfl) ((cx.blk (cx.init 0 _ rfl) rfl).cell 1)
        · exact s1 rfl (fun cx => (cx.anc 8 rfl)) fun cx => run_bin rfl (cx.anc 10 rfl) (cx.sees.const _) rfl
        · exact s1 rfl (fun cx => (cx.anc 8 rfl)) fun cx => run_move' rfl (Eq.trans (cx.anc 11 rfl) (congrArg Value.bool hs46))
        · exact s2 rfl fun cx => (cx.anc 12 rfl)
        · exact s2 rfl fun cx => (cx.anc 12 rfl)
        · exact s2 rfl fun cx => (cx.anc 12 rfl)
        · exact s1 rfl (fun cx => (cx.anc 8 rfl)) fun cx => run_pick_t rfl (cx.anc 12 rfl) (cx.sees.const _)
        · exact s0 rfl fun cx => run_pick_t rfl (cx.anc 8 rfl) (cx.anc 16 rfl)
        · exact s0 rfl fun cx => run_move' rfl (cx.anc 17 rfl)
        · exact s1 rfl (fun cx => (cx.anc 18 rfl)) fun cx => run_move' rfl (Eq.trans (cx.out 3 rfl) (congrArg Value.bool hs48))
        · exact s0 rfl fun cx => run_pick_t rfl (cx.anc 18 rfl) (cx.anc 19 rfl)
        · exact s0 rfl fun cx => run_move' rfl (cx.anc 20 rfl)
        · exact s2 rfl fun cx => (cx.anc 21 rfl)
        · exact s0 rfl fun cx => run_pick_f rfl (cx.anc 21 rfl) (cx.sees.const _)
        · exact s0 rfl fun cx => run_assign' rfl (cx.anc 23 rfl)
      intro σ β X W50 hD hX hst50 fr hfr
      simp only [zM, exq 0 (hX 0 _ rfl)] at hst50
      simp only [zP, ed 43 (hD 0 lq), ed 44 (hD 1 lq), ed 45 (hD 2 lq), ed 46 (hD 3 lq), ed 47 (hD 4 lq), ed 48 (hD 5 lq), ed 49 (hD 6 lq), ed 50 (hD 7 lq), ed 51 (hD 8 lq), ed 52 (hD 9 lq), ed 53 (hD 10 lq), ed 54 (hD 11 lq), ed 55 (hD 12 lq), ed 56 (hD 13 lq), ed 57 (hD 14 lq), ed 58 (hD 15 lq), ed 59 (hD 16 lq), ed 60 (hD 17 lq), ed 61 (hD 18 lq), ed 62 (hD 19 lq), ed 63 (hD 20 lq), ed 64 (hD 21 lq), ed 65 (hD 22 lq), ed 66 (hD 23 lq), ed 2 (hD 24 lq)] at hfr
      clear hX hD; subst hfr; clear σ β X
      refine then_normal ?_
      refine wp_ret ?_
      refine bodyPost_ret (v := .bool false) (by simp [results, Tryd.results55, go_sem]) rfl ?_
      exact Ret.bool (by simp [trightF, onZ, hs29, hs44, hs46, hs48]) hst50.ext
    have hs46p : b ≠ 0 := by simpa using hs46
    rcases Bool.eq_false_or_eq_true (onF b) with hs52 | hs52
    · skip
      rcases Bool.eq_false_or_eq_true (tnextF n1 n2) with hs54 | hs54
      · skip
        refine wp_region_X [0, 1, 3, 7, 15, 31, 63, 127, 255, 511, 1023, 2047, 4095, 8191, 16383, 32767, 65535, 131071, 262143, 524287, 1048575, 2097151, 4194303, 8388607, 16777215] [[], [0], [], [], [], [0], [], [], [], [], [0], [], [], [], [0]] [] [] (fun ix σ β X => match ix with | 0 => σ 43 = .pointer (some ⟨B1_1, 0, none⟩) | 1 => σ 44 = .int .i64 a | 2 => σ 45 = .bool (a == 2) | 3 => σ 46 = .bool false | 4 => σ 47 = .pointer (some ⟨B1_1, 0, none⟩) | 5 => σ 48 = .int .i64 a | 6 => σ 49 = .bool (onF a) | 7 => σ 50 = .bool true | 8 => σ 51 = .bool true | 9 => σ 52 = .pointer (some ⟨B1_1, 1, none⟩) | 10 => σ 53 = .int .i64 b | 11 => σ 54 = .bool (b == 0) | 12 => σ 55 = .bool false | 13 => σ 56 = .pointer (some ⟨B1_1, 1, none⟩) | 14 => σ 57 = .int .i64 b | 15 => σ 58 = .bool (onF b) | 16 => σ 59 = .bool true | 17 => σ 60 = .bool true | 18 => σ 61 = .bool true | 19 => σ 62 = .bool true | 20 => σ 63 = .bool true | 21 => σ 64 = .bool true | 22 => σ 65 = .bool (rrightF r) | 23 => σ 66 = .bool (rrightF r) | 24 => σ 2 = .bool (rrightF r) | _ => True) [0] [43, 44, 45, 46, 47, 48, 49, 50, 51, 52, 53, 54, 55, 56, 57, 58, 59, 60, 61, 62, 63, 64, 65, 66, 2] hst21 ?_ ?_ ?_
        · exact fun ix _ _ _ _ _ _ hs hb hx h => match ix, h with
          | 0, h | 1, h | 2, h | 3, h | 4, h | 5, h | 6, h | 7, h | 8, h | 9, h | 10, h | 11, h | 12, h | 13, h | 14, h | 15, h | 16, h | 17, h | 18, h | 19, h | 20, h | 21, h | 22, h | 23, h | 24, h => (hs _ rfl).symm.trans h
          | _ + 25, _ => trivial
        · refine ⟨⟨⟨⟨⟨⟨⟨⟨⟨⟨⟨⟨⟨⟨⟨⟨⟨⟨⟨⟨⟨⟨⟨⟨⟨trivial, ?_⟩, ?_⟩, ?_⟩, ?_⟩, ?_⟩, ?_⟩, ?_⟩, ?_⟩, ?_⟩, ?_⟩, ?_⟩, ?_⟩, ?_⟩, ?_⟩, ?_⟩, ?_⟩, ?_⟩, ?_⟩, ?_⟩, ?_⟩, ?_⟩, ?_⟩, ?_⟩, ?_⟩, ?_⟩
          · exact s0 rfl fun cx => run_fieldAddr' (k := 0) (n := 0) rfl (by kernel_rfl) (cx.out 1 rfl) rfl
          · exact s0 rfl fun cx => run_load1 rfl (by kernel_rfl) (cx.anc 0 rfl) ((cx.blk (cx.init 0 _ rfl) rfl).cell 0)
          · exact s0 rfl fun cx => run_bin rfl (cx.anc 1 rfl) (cx.sees.const _) rfl
          · exact s0 rfl fun cx => run_move' rfl (Eq.trans (cx.anc 2 rfl) (congrArg Value.bool hs29))
          · exact s1 rfl (fun cx => (cx.anc 3 rfl)) fun cx => run_fieldAddr' (k := 0) (n := 0) rfl (by kernel_rfl) (cx.out 1 rfl) rfl
          · exact s1 rfl (fun cx => (cx.anc 3 rfl)) fun cx => run_load1 rfl (by kernel_rfl) (cx.anc 4 rfl) ((cx.blk (cx.init 0 _ rfl) rfl).cell 0)
          · exact sv_call_on rfl rfl rfl rfl rfl rfl (fun _ _ _ h => h) (fun _ _ _ _ cx => (cx.anc 3 rfl)) fun ρ β W X cx => ⟨_, _, run_callF (args := #[.int .i64 a]) rfl cx.sees rfl (by kernel_rfl) (map1 (cx.anc 5 rfl)), ton_any a _⟩
          · exact s0 rfl fun cx => run_pick_f rfl (cx.anc 3 rfl) (Eq.trans (cx.anc 6 rfl) (congrArg Value.bool hs44))
          · exact s0 rfl fun cx => run_move' rfl (cx.anc 7 rfl)
          · exact s1 rfl (fun cx => (cx.anc 8 rfl)) fun cx => run_fieldAddr' (k := 1) (n := 1) rfl (by kernel_rfl) (cx.out 1 rfl) rfl
          · exact s1 rfl (fun cx => (cx.anc 8 rfl)) fun cx => run_load1 rfl (by kernel_rfl) (cx.anc 9 rfl) ((cx.blk (cx.init 0 _ rfl) rfl).cell 1)
          · exact s1 rfl (fun cx => (cx.anc 8 rfl)) fun cx => run_bin rfl (cx.anc 10 rfl) (cx.sees.const _) rfl
          · exact s1 rfl (fun cx => (cx.anc 8 rfl)) fun cx => run_move' rfl (Eq.trans (cx.anc 11 rfl) (congrArg Value.bool hs46))
          · exact s1 rfl (fun cx => (cx.anc 12 rfl)) fun cx => run_fieldAddr' (k := 1) (n := 1) rfl (by kernel_rfl) (cx.out 1 rfl) rfl
          · exact s1 rfl (fun cx => (cx.anc 12 rfl)) fun cx => run_load1 rfl (by kernel_rfl) (cx.anc 13 rfl) ((cx.blk (cx.init 0 _ rfl) rfl).cell 1)
          · exact sv_call_on rfl rfl rfl rfl rfl rfl (fun _ _ _ h => h) (fun _ _ _ _ cx => (cx.anc 12 rfl)) fun ρ β W X cx => ⟨_, _, run_callF (args := #[.int .i64 b]) rfl cx.sees rfl (by kernel_rfl) (map1 (cx.anc 14 rfl)), ton_any b _⟩
          · exact s1 rfl (fun cx => (cx.anc 8 rfl)) fun cx => run_pick_f rfl (cx.anc 12 rfl) (Eq.trans (cx.anc 15 rfl) (congrArg Value.bool hs52))
          · exact s0 rfl fun cx => run_pick_t rfl (cx.anc 8 rfl) (cx.anc 16 rfl)
          · exact s0 rfl fun cx => run_move' rfl (cx.anc 17 rfl)
          · exact s1 rfl (fun cx => (cx.anc 18 rfl)) fun cx => run_move' rfl (Eq.trans (cx.out 3 rfl) (congrArg Value.bool hs54))
          · exact s0 rfl fun cx => run_pick_t rfl (cx.anc 18 rfl) (cx.anc 19 rfl)
          · exact s0 rfl fun cx => run_move' rfl (cx.anc 20 rfl)
          · exact s1 rfl (fun cx => (cx.anc 21 rfl)) fun cx => run_move' rfl (cx.out 4 rfl)
          · exact s0 rfl fun cx => run_pick_t rfl (cx.anc 21 rfl) (cx.anc 22 rfl)
          · exact s0 rfl fun cx => run_assign' rfl (cx.anc 23 rfl)
        intro σ β X W55 hD hX hst55 fr hfr
        simp only [zM, exq 0 (hX 0 _ rfl)] at hst55
        simp only [zP, ed 43 (hD 0 lq), ed 44 (hD 1 lq), ed 45 (hD 2 lq), ed 46 (hD 3 lq), ed 47 (hD 4 lq), ed 48 (hD 5 lq), ed 49 (hD 6 lq), ed 50 (hD 7 lq), ed 51 (hD 8 lq), ed 52 (hD 9 lq), ed 53 (hD 10 lq), ed 54 (hD 11 lq), ed 55 (hD 12 lq), ed 56 (hD 13 lq), ed 57 (hD 14 lq), ed 58 (hD 15 lq), ed 59 (hD 16 lq), ed 60 (hD 17 lq), ed 61 (hD 18 lq), ed 62 (hD 19 lq), ed 63 (hD 20 lq), ed 64 (hD 21 lq), ed 65 (hD 22 lq), ed 66 (hD 23 lq), ed 2 (hD 24 lq)] at hfr
        clear hX hD; subst hfr; clear σ β X
        refine then_normal ?_
        refine wp_ret ?_
        refine bodyPost_ret (v := .bool (rrightF r)) (by simp [results, Tryd.results55, go_sem]) rfl ?_
        exact Ret.bool (by simp [trightF, onZ, hs29, hs44, hs46, hs52, hs54]) hst55.ext
      refine wp_region_X [0, 1, 3, 7, 15, 31, 63, 127, 255, 511, 1023, 2047, 4095, 8191, 16383, 32767, 65535, 131071, 262143, 524287, 1048575, 2097151, 4194303, 8388607, 16777215] [[], [0], [], [], [], [0], [], [], [], [], [0], [], [], [], [0]] [] [] (fun ix σ β X => match ix with | 0 => σ 43 = .pointer (some ⟨B1_1, 0, none⟩) | 1 => σ 44 = .int .i64 a | 2 => σ 45 = .bool (a == 2) | 3 => σ 46 = .bool false | 4 => σ 47 = .pointer (some ⟨B1_1, 0, none⟩) | 5 => σ 48 = .int .i64 a | 6 => σ 49 = .bool (onF a) | 7 => σ 50 = .bool true | 8 => σ 51 = .bool true | 9 => σ 52 = .pointer (some ⟨B1_1, 1, none⟩) | 10 => σ 53 = .int .i64 b | 11 => σ 54 = .bool (b == 0) | 12 => σ 55 = .bool false | 13 => σ 56 = .pointer (some ⟨B1_1, 1, none⟩) | 14 => σ 57 = .int .i64 b | 15 => σ 58 = .bool (onF b) | 16 => σ 59 = .bool true | 17 => σ 60 = .bool true | 18 => σ 61 = .bool true | 19 => σ 62 = .bool false | 20 => σ 63 = .bool false | 21 => σ 64 = .bool false | 22 => σ 65 = undef | 23 => σ 66 = .bool false | 24 => σ 2 = .bool false | _ => True) [0] [43, 44, 45, 46, 47, 48, 49, 50, 51, 52, 53, 54, 55, 56, 57, 58, 59, 60, 61, 62, 63, 64, 65, 66, 2] hst21 ?_ ?_ ?_
      · exact fun ix _ _ _ _ _ _ hs hb hx h => match ix, h with
        | 0, h | 1, h | 2, h | 3, h | 4, h | 5, h | 6, h | 7, h | 8, h | 9, h | 10, h | 11, h | 12, h | 13, h | 14, h | 15, h | 16, h | 17, h | 18, h | 19, h | 20, h | 21, h | 22, h | 23, h | 24, h => (hs _ rfl).symm.trans h
        | _ + 25, _ => trivial
      · refine ⟨⟨⟨⟨⟨⟨⟨⟨⟨⟨⟨⟨⟨⟨⟨⟨⟨⟨⟨⟨⟨⟨⟨⟨⟨trivial, ?_⟩, ?_⟩, ?_⟩, ?_⟩, ?_⟩, ?_⟩, ?_⟩, ?_⟩, ?_⟩, ?_⟩, ?_⟩, ?_⟩, ?_⟩, ?_⟩, ?_⟩, ?_⟩, ?_⟩, ?_⟩, ?_⟩, ?_⟩, ?_⟩, ?_⟩, ?_⟩, ?_⟩, ?_⟩
        · exact s0 rfl fun cx => run_fieldAddr' (k := 0) (n := 0) rfl (by kernel_rfl) (cx.out 1 rfl) rfl
        · exact s0 rfl fun cx => run_load1 rfl (by kernel_rfl) (cx.anc 0 rfl) ((cx.blk (cx.init 0 _ rfl) rfl).cell 0)
        · exact s0 rfl fun cx => run_bin rfl (cx.anc 1 rfl) (cx.sees.const _) rfl
        · exact s0 rfl fun cx => run_move' rfl (Eq.trans (cx.anc 2 rfl) (congrArg Value.bool hs29))
        · exact s1 rfl (fun cx => (cx.anc 3 rfl)) fun cx => run_fieldAddr' (k := 0) (n := 0) rfl (by kernel_rfl) (cx.out 1 rfl) rfl
        · exact s1 rfl (fun cx => (cx.anc 3 rfl)) fun cx => run_load1 rfl (by kernel_rfl) (cx.anc 4 rfl) ((cx.blk (cx.init 0 _ rfl) rfl).cell 0)
        · exact sv_call_on rfl rfl rfl rfl rfl rfl (fun _ _ _ h => h) (fun _ _ _ _ cx => (cx.anc 3 rfl)) fun ρ β W X cx => ⟨_, _, run_callF (args := #[.int .i64 a]) rfl cx.sees rfl (by kernel_rfl) (map1 (cx.anc 5 rfl)), ton_any a _⟩
        · exact s0 rfl fun cx => run_pick_f rfl (cx.anc 3 rfl) (Eq.trans (cx.anc 6 rfl) (congrArg Value.bool hs44))
        · exact s0 rfl fun cx => run_move' rfl (cx.anc 7 rfl)
        · exact s1 rfl (fun cx => (cx.anc 8 rfl)) fun cx => run_fieldAddr' (k := 1) (n := 1) rfl (by kernel_rfl) (cx.out 1 rfl) rfl
        · exact s1 rfl (fun cx => (cx.anc 8 rfl)) fun cx => run_load1 rfl (by kernel_rfl) (cx.anc 9 rfl) ((cx.blk (cx.init 0 _ rfl) rfl).cell 1)
        · exact s1 rfl (fun cx => (cx.anc 8 rfl)) fun cx => run_bin rfl (cx.anc 10 rfl) (cx.sees.const _) rfl
        · exact s1 rfl (fun cx => (cx.anc 8 rfl)) fun cx => run_move' rfl (Eq.trans (cx.anc 11 rfl) (congrArg Value.bool hs46))
        · exact s1 rfl (fun cx => (cx.anc 12 rfl)) fun cx => run_fieldAddr' (k := 1) (n := 1) rfl (by kernel_rfl) (cx.out 1 rfl) rfl
        · exact s1 rfl (fun cx => (cx.anc 12 rfl)) fun cx => run_load1 rfl (by kernel_rfl) (cx.anc 13 rfl) ((cx.blk (cx.init 0 _ rfl) rfl).cell 1)
        · exact sv_call_on rfl rfl rfl rfl rfl rfl (fun _ _ _ h => h) (fun _ _ _ _ cx => (cx.anc 12 rfl)) fun ρ β W X cx => ⟨_, _, run_callF (args := #[.int .i64 b]) rfl cx.sees rfl (by kernel_rfl) (map1 (cx.anc 14 rfl)), ton_any b _⟩
        · exact s1 rfl (fun cx => (cx.anc 8 rfl)) fun cx => run_pick_f rfl (cx.anc 12 rfl) (Eq.trans (cx.anc 15 rfl) (congrArg Value.bool hs52))
        · exact s0 rfl fun cx => run_pick_t rfl (cx.anc 8 rfl) (cx.anc 16 rfl)
        · exact s0 rfl fun cx => run_move' rfl (cx.anc 17 rfl)
        · exact s1 rfl (fun cx => (cx.anc 18 rfl)) fun cx => run_move' rfl (Eq.trans (cx.out 3 rfl) (congrArg Value.bool hs54))
        · exact s0 rfl fun cx => run_pick_t rfl (cx.anc 18 rfl) (cx.anc 19 rfl)
        · exact s0 rfl fun cx => run_move' rfl (cx.anc 20 rfl)
        · exact s2 rfl fun cx => (cx.anc 21 rfl)
        · exact s0 rfl fun cx => run_pick_f rfl (cx.anc 21 rfl) (cx.sees.const _)
        · exact s0 rfl fun cx => run_assign' rfl (cx.anc 23 rfl)
      intro σ β X W56 hD hX hst56 fr hfr
      simp only [zM, exq 0 (hX 0 _ rfl)] at hst56
      simp only [zP, ed 43 (hD 0 lq), ed 44 (hD 1 lq), ed 45 (hD 2 lq), ed 46 (hD 3 lq), ed 47 (hD 4 lq), ed 48 (hD 5 lq), ed 49 (hD 6 lq), ed 50 (hD 7 lq), ed 51 (hD 8 lq), ed 52 (hD 9 lq), ed 53 (hD 10 lq), ed 54 (hD 11 lq), ed 55 (hD 12 lq), ed 56 (hD 13 lq), ed 57 (hD 14 lq), ed 58 (hD 15 lq), ed 59 (hD 16 lq), ed 60 (hD 17 lq), ed 61 (hD 18 lq), ed 62 (hD 19 lq), ed 63 (hD 20 lq), ed 64 (hD 21 lq), ed 65 (hD 22 lq), ed 66 (hD 23 lq), ed 2 (hD 24 lq)] at hfr
      clear hX hD; subst hfr; clear σ β X
      refine then_normal ?_
      refine wp_ret ?_
      refine bodyPost_ret (v := .bool false) (by simp [results, Tryd.results55, go_sem]) rfl ?_
      exact Ret.bool (by simp [trightF, onZ, hs29, hs44, hs46, hs52, hs54]) hst56.ext
    refine wp_region_X [0, 1, 3, 7, 15, 31, 63, 127, 255, 511, 1023, 2047, 4095, 8191, 16383, 32767, 65535, 131071, 262143, 524287, 1048575, 2097151, 4194303, 8388607, 16777215] [[], [0], [], [], [], [0], [], [], [], [], [0], [], [], [], [0]] [] [] (fun ix σ β X => match ix with | 0 => σ 43 = .pointer (some ⟨B1_1, 0, none⟩) | 1 => σ 44 = .int .i64 a | 2 => σ 45 = .bool (a == 2) | 3 => σ 46 = .bool false | 4 => σ 47 = .pointer (some ⟨B1_1, 0, none⟩) | 5 => σ 48 = .int .i64 a | 6 => σ 49 = .bool (onF a) | 7 => σ 50 = .bool true | 8 => σ 51 = .bool true | 9 => σ 52 = .pointer (some ⟨B1_1, 1, none⟩) | 10 => σ 53 = .int .i64 b | 11 => σ 54 = .bool (b == 0) | 12 => σ 55 = .bool false | 13 => σ 56 = .pointer (some ⟨B1_1, 1, none⟩) | 14 => σ 57 = .int .i64 b | 15 => σ 58 = .bool (onF b) | 16 => σ 59 = .bool false | 17 => σ 60 = .bool false | 18 => σ 61 = .bool false | 19 => σ 62 = undef | 20 => σ 63 = .bool false | 21 => σ 64 = .bool false | 22 => σ 65 = undef | 23 => σ 66 = .bool false | 24 => σ 2 = .bool false | _ => True) [0] [43, 44, 45, 46, 47, 48, 49, 50, 51, 52, 53, 54, 55, 56, 57, 58, 59, 60, 61, 62, 63, 64, 65, 66, 2] hst21 ?_ ?_ ?_
    · exact fun ix _ _ _ _ _ _ hs hb hx h => match ix, h with
      | 0, h | 1, h | 2, h | 3, h | 4, h | 5, h | 6, h | 7, h | 8, h | 9, h | 10, h | 11, h | 12, h | 13, h | 14, h | 15, h | 16, h | 17, h | 18, h | 19, h | 20, h | 21, h | 22, h | 23, h | 24, h => (hs _ rfl).symm.trans h
      | _ + 25, _ => trivial
    · refine ⟨⟨⟨⟨⟨⟨⟨⟨⟨⟨⟨⟨⟨⟨⟨⟨⟨⟨⟨⟨⟨⟨⟨⟨⟨trivial, ?_⟩, ?_⟩, ?_⟩, ?_⟩, ?_⟩, ?_⟩, ?_⟩, ?_⟩, ?_⟩, ?_⟩, ?_⟩, ?_⟩, ?_⟩, ?_⟩, ?_⟩, ?_⟩, ?_⟩, ?_⟩, ?_⟩, ?_⟩, ?_⟩, ?_⟩, ?_⟩, ?_⟩, ?_⟩
      · exact s0 rfl fun cx => run_fieldAddr' (k := 0) (n := 0) rfl (by kernel_rfl) (cx.out 1 rfl) rfl
      · exact s0 rfl fun cx => run_load1 rfl (by kernel_rfl) (cx.anc 0 rfl) ((cx.blk (cx.init 0 _ rfl) rfl).cell 0)
      · exact s0 rfl fun cx => run_bin rfl (cx.anc 1 rfl) (cx.sees.const _) rfl
      · exact s0 rfl fun cx => run_move' rfl (Eq.trans (cx.anc 2 rfl) (congrArg Value.bool hs29))
      · exact s1 rfl (fun cx => (cx.anc 3 rfl)) fun cx => run_fieldAddr' (k := 0) (n := 0) rfl (by kernel_rfl) (cx.out 1 rfl) rfl
      · exact s1 rfl (fun cx => (cx.anc 3 rfl)) fun cx => run_load1 rfl (by kernel_rfl) (cx.anc 4 rfl) ((cx.blk (cx.init 0 _ rfl) rfl).cell 0)
      · exact sv_call_on rfl rfl rfl rfl rfl rfl (fun _ _ _ h => h) (fun _ _ _ _ cx => (cx.anc 3 rfl)) fun ρ β W X cx => ⟨_, _, run_callF (args := #[.int .i64 a]) rfl cx.sees rfl (by kernel_rfl) (map1 (cx.anc 5 rfl)), ton_any a _⟩
      · exact s0 rfl fun cx => run_pick_f rfl (cx.anc 3 rfl) (Eq.trans (cx.anc 6 rfl) (congrArg Value.bool hs44))
      · exact s0 rfl fun cx => run_move' rfl (cx.anc 7 rfl)
      · exact s1 rfl (fun cx => (cx.anc 8 rfl)) fun cx => run_fieldAddr' (k := 1) (n := 1) rfl (by kernel_rfl) (cx.out 1 rfl) rfl
      · exact s1 rfl (fun cx => (cx.anc 8 rfl)) fun cx => run_load1 rfl (by kernel_rfl) (cx.anc 9 rfl) ((cx.blk (cx.init 0 _ rfl) rfl).cell 1)
      · exact s1 rfl (fun cx => (cx.anc 8 rfl)) fun cx => run_bin rfl (cx.anc 10 rfl) (cx.sees.const _) rfl
      · exact s1 rfl (fun cx => (cx.anc 8 rfl)) fun cx => run_move' rfl (Eq.trans (cx.anc 11 rfl) (congrArg Value.bool hs46))
      · exact s1 rfl (fun cx => (cx.anc 12 rfl)) fun cx => run_fieldAddr' (k := 1) (n := 1) rfl (by kernel_rfl) (cx.out 1 rfl) rfl
      · exact s1 rfl (fun cx => (cx.anc 12 rfl)) fun cx => run_load1 rfl (by kernel_rfl) (cx.anc 13 rfl) ((cx.blk (cx.init 0 _ rfl) rfl).cell 1)
      · exact sv_call_on rfl rfl rfl rfl rfl rfl (fun _ _ _ h => h) (fun _ _ _ _ cx => (cx.anc 12 rfl)) fun ρ β W X cx => ⟨_, _, run_callF (args := #[.int .i64 b]) rfl cx.sees rfl (by kernel_rfl) (map1 (cx.anc 14 rfl)), ton_any b _⟩
      · exact s1 rfl (fun cx => (cx.anc 8 rfl)) fun cx => run_pick_f rfl (cx.anc 12 rfl) (Eq.trans (cx.anc 15 rfl) (congrArg Value.bool hs52))
      · exact s0 rfl fun cx => run_pick_t rfl (cx.anc 8 rfl) (cx.anc 16 rfl)
      · exact s0 rfl fun cx => run_move' rfl (cx.anc 17 rfl)
      · exact s2 rfl fun cx => (cx.anc 18 rfl)
      · exact s0 rfl fun cx => run_pick_f rfl (cx.anc 18 rfl) (cx.sees.const _)
      · exact s0 rfl fun cx => run_move' rfl (cx.anc 20 rfl)
      · exact s2 rfl fun cx => (cx.anc 21 rfl)
      · exact s0 rfl fun cx => run_pick_f rfl (cx.anc 21 rfl) (cx.sees.const _)
      · exact s0 rfl fun cx => run_assign' rfl (cx.anc 23 rfl)
    intro σ β X W57 hD hX hst57 fr hfr
    simp only [zM, exq 0 (hX 0 _ rfl)] at hst57
    simp only [zP, ed 43 (hD 0 lq), ed 44 (hD 1 lq), ed 45 (hD 2 lq), ed 46 (hD 3 lq), ed 47 (hD 4 lq), ed 48 (hD 5 lq), ed 49 (hD 6 lq), ed 50 (hD 7 lq), ed 51 (hD 8 lq), ed 52 (hD 9 lq), ed 53 (hD 10 lq), ed 54 (hD 11 lq), ed 55 (hD 12 lq), ed 56 (hD 13 lq), ed 57 (hD 14 lq), ed 58 (hD 15 lq), ed 59 (hD 16 lq), ed 60 (hD 17 lq), ed 61 (hD 18 lq), ed 62 (hD 19 lq), ed 63 (hD 20 lq), ed 64 (hD 21 lq), ed 65 (hD 22 lq), ed 66 (hD 23 lq), ed 2 (hD 24 lq)] at hfr
    clear hX hD; subst hfr; clear σ β X
    refine then_normal ?_
    refine wp_ret ?_
    refine bodyPost_ret (v := .bool false) (by simp [results, Tryd.results55, go_sem]) rfl ?_
    exact Ret.bool (by simp [trightF, onZ, hs29, hs44, hs46, hs52]) hst57.ext
  refine wp_region_X [0, 1, 3, 7, 15, 31, 63, 127, 255, 511, 1023, 2047, 4095, 8191, 16383, 32767, 65535, 131071, 262143, 524287, 1048575, 2097151, 4194303, 8388607, 16777215] [[], [0], [], [], [], [0]] [] [] (fun ix σ β X => match ix with | 0 => σ 43 = .pointer (some ⟨B1_1, 0, none⟩) | 1 => σ 44 = .int .i64 a | 2 => σ 45 = .bool (a == 2) | 3 => σ 46 = .bool false | 4 => σ 47 = .pointer (some ⟨B1_1, 0, none⟩) | 5 => σ 48 = .int .i64 a | 6 => σ 49 = .bool (onF a) | 7 => σ 50 = .bool false | 8 => σ 51 = .bool false | 9 => σ 52 = undef | 10 => σ 53 = undef | 11 => σ 54 = undef | 12 => σ 55 = undef | 13 => σ 56 = undef | 14 => σ 57 = undef | 15 => σ 58 = undef | 16 => σ 59 = undef | 17 => σ 60 = .bool false | 18 => σ 61 = .bool false | 19 => σ 62 = undef | 20 => σ 63 = .bool false | 21 => σ 64 = .bool false | 22 => σ 65 = undef | 23 => σ 66 = .bool false | 24 => σ 2 = .bool false | _ => True) [0] [43, 44, 45, 46, 47, 48, 49, 50, 51, 52, 53, 54, 55, 56, 57, 58, 59, 60, 61, 62, 63, 64, 65, 66, 2] hst21 ?_ ?_ ?_
  · exact fun ix _ _ _ _ _ _ hs hb hx h => match ix, h with
    | 0, h | 1, h | 2, h | 3, h | 4, h | 5, h | 6, h | 7, h | 8, h | 9, h | 10, h | 11, h | 12, h | 13, h | 14, h | 15, h | 16, h | 17, h | 18, h | 19, h | 20, h | 21, h | 22, h | 23, h | 24, h => (hs _ rfl).symm.trans h
    | _ + 25, _ => trivial
  · refine ⟨⟨⟨⟨⟨⟨⟨⟨⟨⟨⟨⟨⟨⟨⟨⟨⟨⟨⟨⟨⟨⟨⟨⟨⟨trivial, ?_⟩, ?_⟩, ?_⟩, ?_⟩, ?_⟩, ?_⟩, ?_⟩, ?_⟩, ?_⟩, ?_⟩, ?_⟩, ?_⟩, ?_⟩, ?_⟩, ?_⟩, ?_⟩, ?_⟩, ?_⟩, ?_⟩, ?_⟩, ?_⟩, ?_⟩, ?_⟩, ?_⟩, ?_⟩
    · exact s0 rfl fun cx => run_fieldAddr' (k := 0) (n := 0) rfl (by kernel_rfl) (cx.out 1 rfl) rfl
    · exact s0 rfl fun cx => run_load1 rfl (by kernel_rfl) (cx.anc 0 rfl) ((cx.blk (cx.init 0 _ rfl) rfl).cell 0)
    · exact s0 rfl fun cx => run_bin rfl (cx.anc 1 rfl) (cx.sees.const _) rfl
    · exact s0 rfl fun cx => run_move' rfl (Eq.trans (cx.anc 2 rfl) (congrArg Value.bool hs29))
    · exact s1 rfl (fun cx => (cx.anc 3 rfl)) fun cx => run_fieldAddr' (k := 0) (n := 0) rfl (by kernel_rfl) (cx.out 1 rfl) rfl
    · exact s1 rfl (fun cx => (cx.anc 3 rfl)) fun cx => run_load1 rfl (by kernel_rfl) (cx.anc 4 rfl) ((cx.blk (cx.init 0 _ rfl) rfl).cell 0)
    · exact sv_call_on rfl rfl rfl rfl rfl rfl (fun _ _ _ h => h) (fun _ _ _ _ cx => (cx.anc 3 rfl)) fun ρ β W X cx => ⟨_, _, run_callF (args := #[.int .i64 a]) rfl cx.sees rfl (by kernel_rfl) (map1 (cx.anc 5 rfl)), ton_any a _⟩
    · exact s0 rfl fun cx => run_pick_f rfl (cx.anc 3 rfl) (Eq.trans (cx.anc 6 rfl) (congrArg Value.bool hs44))
    · exact s0 rfl fun cx => run_move' rfl (cx.anc 7 rfl)
    · exact s2 rfl fun cx => (cx.anc 8 rfl)
    · exact s2 rfl fun cx => (cx.anc 8 rfl)
    · exact s2 rfl fun cx => (cx.anc 8 rfl)
    · exact s2 rfl fun cx => (cx.anc 8 rfl)
    · exact s3 rfl fun cx => cx.anc 12 rfl
    · exact s3 rfl fun cx => cx.anc 12 rfl
    · exact s3 rfl fun cx => cx.anc 12 rfl
    · exact s2 rfl fun cx => (cx.anc 8 rfl)
    · exact s0 rfl fun cx => run_pick_f rfl (cx.anc 8 rfl) (cx.sees.const _)
    · exact s0 rfl fun cx => run_move' rfl (cx.anc 17 rfl)
    · exact s2 rfl fun cx => (cx.anc 18 rfl)
    · exact s0 rfl fun cx => run_pick_f rfl (cx.anc 18 rfl) (cx.sees.const _)
    · exact s0 rfl fun cx => run_move' rfl (cx.anc 20 rfl)
    · exact s2 rfl fun cx => (cx.anc 21 rfl)
    · exact s0 rfl fun cx => run_pick_f rfl (cx.anc 21 rfl) (cx.sees.const _)
    · exact s0 rfl fun cx => run_assign' rfl (cx.anc 23 rfl)
  intro σ β X W58 hD hX hst58 fr hfr
  simp only [zM, exq 0 (hX 0 _ rfl)] at hst58
  simp only [zP, ed 43 (hD 0 lq), ed 44 (hD 1 lq), ed 45 (hD 2 lq), ed 46 (hD 3 lq), ed 47 (hD 4 lq), ed 48 (hD 5 lq), ed 49 (hD 6 lq), ed 50 (hD 7 lq), ed 51 (hD 8 lq), ed 52 (hD 9 lq), ed 53 (hD 10 lq), ed 54 (hD 11 lq), ed 55 (hD 12 lq), ed 56 (hD 13 lq), ed 57 (hD 14 lq), ed 58 (hD 15 lq), ed 59 (hD 16 lq), ed 60 (hD 17 lq), ed 61 (hD 18 lq), ed 62 (hD 19 lq), ed 63 (hD 20 lq), ed 64 (hD 21 lq), ed 65 (hD 22 lq), ed 66 (hD 23 lq), ed 2 (hD 24 lq)] at hfr
  clear hX hD; subst hfr; clear σ β X
  refine then_normal ?_
  refine wp_ret ?_
  refine bodyPost_ret (v := .bool false) (by simp [results, Tryd.results55, go_sem]) rfl ?_
  exact Ret.bool (by simp [trightF, onZ, hs29, hs44]) hst58.ext

end Go.Proofs.YtfjpglohcppjeaaDoor

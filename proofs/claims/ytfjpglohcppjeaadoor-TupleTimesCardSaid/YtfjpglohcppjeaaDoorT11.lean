/- value.Read's closures: must, take, one, the deferred one. -/
import Derived.Test.YtfjpglohcppjeaaDoorT10b
import Derived.Recover
namespace Go.Proofs.YtfjpglohcppjeaaDoor
open Go.RowKit
set_option linter.unusedVariables false
set_option linter.unusedSimpArgs false

theorem strL_size (l : List UInt8) : (strL l).size = l.length := by show l.toArray.size = _; simp
theorem strL_ext (l : List UInt8) (a b : Nat) : (strL l).extract a b = strL ((l.drop a).take (b - a)) := by
  apply ByteArray.ext
  rw [ByteArray.data_extract]
  apply Array.ext'
  simp [strL, List.extract_eq_take_drop]
theorem strL_take (l : List UInt8) (n : Nat) : (strL l).extract 0 n = strL (l.take n) := by rw [strL_ext]; simp
theorem strL_drop (l : List UInt8) (n : Nat) : (strL l).extract n (strL l).size = strL (l.drop n) := by
  rw [strL_ext, strL_size, List.take_of_length_le (by simp)]
theorem Upd.less {b c : Nat} {w W : World} (h : Upd [b, c] w W) (hc : W.heap[c]? = w.heap[c]?) : Upd [b] w W := ⟨h.os, h.tape, h.output, h.size, fun k hk hn => by
  by_cases e : k = c
  · rw [e]; exact hc
  · exact h.block k hk (by simp at hn ⊢; exact ⟨hn, e⟩)⟩
def byteI (l : List UInt8) (m : Nat) : Int := ((l.getD m 0).toNat : Int)
theorem St.lent1 {w : World} {b t : Nat} {cs : Array Value} (hb : Blk w b t cs) : St w [b] [eB b t cs] w := by
  refine ⟨Upd.refl _ _, fun x hx => ?_, List.pairwise_singleton _ _⟩
  simp only [List.mem_cons, List.not_mem_nil, or_false] at hx
  subst hx
  exact ⟨hb, eB_loc _ _ _, fun k hk => ⟨.inl (by simp [eB] at hk; simp [hk]), by simp [eB] at hk; subst hk; exact hb.lt⟩⟩
theorem St.lentB2 {w : World} {b t c u : Nat} {cs ds : Array Value} (hb : Blk w b t cs) (hc : Blk w c u ds) (hne : b ≠ c) : St w [b, c] [eB b t cs, eB c u ds] w := by
  refine ⟨Upd.refl _ _, fun x hx => ?_, List.pairwise_pair.2 fun k hk hk' => by simp [eB] at hk hk'; omega⟩
  simp only [List.mem_cons, List.not_mem_nil, or_false] at hx
  rcases hx with rfl | rfl
  · exact ⟨hb, eB_loc _ _ _, fun k hk => ⟨.inl (by simp [eB] at hk; simp [hk]), by simp [eB] at hk; subst hk; exact hb.lt⟩⟩
  · exact ⟨hc, eB_loc _ _ _, fun k hk => ⟨.inl (by simp [eB] at hk; simp [hk]), by simp [eB] at hk; subst hk; exact hc.lt⟩⟩
section
variable {P : Program} {o : Oper} {ρ : Operand → Value} {W : World}
theorem run_indexStr {t : TypeId} {x y : Operand} {l : List UInt8} {k : IntKind} {j : Int} {m : Nat} (h : o.op = .index t x y) (ht : P.underlying t = some .string) (hx : ρ x = .string (strL l)) (hy : ρ y = .int k j) (hj : j = (m : Int)) (hm : m < l.length) :
    (execOp ρ o).run P W = .ok (.value (.int .u8 (byteI l m))) W := by
  subst hj
  unfold execOp; rw [h]
  have h1 : (0 : Int) ≤ (m : Int) := by omega
  have h2 : (strL l)[m]? = some (l.getD m 0) := by
    rw [getElem?_pos (strL l) m (by rw [strL_size]; exact hm)]
    simp [strL, ByteArray.getElem_eq_getElem_data, hm]
  simp only [hx, hy, Instr.index, asIntOf, Sem.run_bind, Sem.run_pure, Result.andThen_ok, run_underlying ht, h1, if_true, Int.toNat_natCast, h2]
  rfl
end
set_option maxRecDepth 100000 in
set_option maxHeartbeats 2000000 in
theorem must_true (e : Int) (w : World) :
    Calls Tryd.prog 99 #[.bool true, .int .i64 e] w (Ret (.tuple #[]) w) := by
  go_enter Tryd.func99, Tryd.ntmps99
  have hst0 := St.start w
  refine wp_seq ?_
  refine wp_region_P [0, 1] [.k 4 (.bool true), .k 5 (.bool false)] [(4, 0, 2, 6)] hst0 fun W1 hst1 => ?_
  refine then_normal ?_
  refine wp_cond_false (show Act.eval _ _ = .bool false from rfl) ?_
  refine wp_skip ?_
  refine bodyPost_end (v := .tuple #[]) (by simp [results, Tryd.results99, go_sem]) rfl ?_
  exact Ret.of rfl hst1.ext

def TakePost (b : Nat) (v : Value) (l : List UInt8) (w : World) (e : Ending) (w' : World) : Prop := e = .returned v ∧ Blk w' b 9 #[.string (strL l)] ∧ Upd [b] w w'

set_option maxRecDepth 100000 in
set_option maxHeartbeats 2000000 in
theorem take_any (n : Nat) (b : Nat) (l : List UInt8) (w : World) (hb : Blk w b 9 #[.string (strL l)]) (hn : n ≤ l.length) :
    Calls Tryd.prog 98 #[.int .i64 ((n : Int)), .pointer (some ⟨b, 0, none⟩)] w (TakePost b (.string (strL (l.take n))) (l.drop n) w) := by
  have st0 := St.lent1 hb
  have hsl := strL_size l
  go_enter Tryd.func98, Tryd.ntmps98
  have hst0 := st0
  refine wp_seq ?_
  refine wp_region_P [0] [.k 3 (.string ⟨#[]⟩)] [(3, 0, 1, 4)] hst0 fun W1 hst1 => ?_
  refine then_normal ?_
  refine wp_seq ?_
  have hd3 : (decide ((n : Int) ≤ ((strL l).size : Int))) = true := by rw [decide_eq_true_eq]; omega
  refine wp_region_T [0, 1, 0, 7, 15] [[0]] [] [] [.c 5 (.string (strL l)), .k 6 (.int .i64 (((strL l).size : Int))), .k 7 (.int .i64 ((n : Int))), .e 8 (.bool (decide ((n : Int) ≤ ((strL l).size : Int)))) (.bool true) (congrArg Value.bool hd3), .c 9 (.tuple #[])] (fun _ _ _ _ => True) [0] [0, 4] [(5, 0, 5, 10)] hst1 ?_ ?_ ?_
  · exact fun _ _ _ _ _ _ _ _ _ _ h => h
  · refine ⟨?_, ?_, trivial⟩
    · exact s4 rfl (fun _ _ _ h => h) fun cx => run_load1 rfl (by kernel_rfl) (cx.out 1 rfl) ((cx.blk (cx.init 0 _ rfl) rfl).cell 0)
    · exact sv_call rfl rfl rfl rfl rfl (fun _ _ _ h => h) fun ρ β W X cx => ⟨_, _, run_callF (args := #[.bool true, .int .i64 10]) rfl cx.sees rfl (by kernel_rfl) (map2 (cx.anc 3 rfl) (cx.sees.const _)), must_true _ _⟩
  intro σ β X W2 hD hX hst2 fr hfr
  simp only [zM, exq 0 (hX 0 _ rfl)] at hst2
  dsimp only [mgT, vals, List.take, List.drop, List.cons_append, List.nil_append] at hfr
  clear hX hD; subst hfr; clear σ β X
  refine then_normal ?_
  refine wp_seq ?_
  refine wp_region_T [0, 0, 3, 7] [[0]] [] [] [.c 10 (.string (strL l)), .k 11 (.int .i64 ((n : Int))), .c 12 (.string (strL (l.take n))), .k 4 (.string (strL (l.take n)))] (fun _ _ _ _ => True) [0] [0, 2] [(4, 3, 1, 5), (5, 0, 3, 8)] hst2 ?_ ?_ ?_
  · exact fun _ _ _ _ _ _ _ _ _ _ h => h
  · refine ⟨?_, ?_, trivial⟩
    · exact s4 rfl (fun _ _ _ h => h) fun cx => run_load1 rfl (by kernel_rfl) (cx.out 1 rfl) ((cx.blk (cx.init 0 _ rfl) rfl).cell 0)
    · exact s4 rfl (fun _ _ _ h => h) fun cx => (by rw [← strL_take]; exact run_slice_hi (l := n) rfl (by kernel_rfl) (cx.anc 0 rfl) (cx.anc 1 rfl) (by omega) (by rw [strL_size]; omega))
  intro σ β X W4 hD hX hst4 fr hfr
  simp only [zM, exq 0 (hX 0 _ rfl)] at hst4
  dsimp only [mgT, vals, List.take, List.drop, List.cons_append, List.nil_append] at hfr
  clear hX hD; subst hfr; clear σ β X
  refine then_normal ?_
  refine wp_seq ?_
  refine wp_region_T [0, 0, 3, 7] [[0], [], [], [0]] [[], [], [], [1]] [[], [], [], [0]] [.c 13 (.string (strL l)), .k 14 (.int .i64 ((n : Int))), .c 15 (.string (strL (l.drop n))), .n] (fun ix σ β X => match ix with | 0 => True | 1 => True | 2 => True | 3 => X 1 = eB b 9 #[.string (strL (l.drop n))] | _ => True) [1] [0, 2, 3] [(13, 0, 3, 16)] hst4 ?_ ?_ ?_
  · exact fun ix _ _ _ _ _ _ hs hb hx h => match ix, h with
    | 3, h => by dsimp only at h ⊢; rw [← hx 1 rfl]; exact h
    | 0, _ | 1, _ | 2, _ | _ + 4, _ => trivial
  · refine ⟨?_, ?_, ?_, trivial⟩
    · exact s4 rfl (fun _ _ _ h => h) fun cx => run_load1 rfl (by kernel_rfl) (cx.out 1 rfl) ((cx.blk (cx.init 0 _ rfl) rfl).cell 0)
    · exact s4 rfl (fun _ _ _ h => h) fun cx => (by rw [← strL_drop]; exact run_slice_lo (l := n) rfl (by kernel_rfl) (cx.anc 0 rfl) (cx.anc 1 rfl) (by omega) (by rw [strL_size]; omega))
    · refine sv_any rfl rfl fun ρ β W X cx => ?_
      exact dv_store (n := 1) rfl (cx.out 1 rfl) (cx.anc 2 rfl) (by kernel_rfl) (by kernel_rfl) (by kernel_rfl) cx (cx.init 0 _ rfl) rfl (Nat.le_of_ble_eq_true rfl) (by kernel_rfl) rfl rfl rfl (fun σ β' X' hs hb hx => hx)
  intro σ β X W5 hD hX hst5 fr hfr
  simp only [zM, exq 1 ((dTn (hD 3 lq)))] at hst5
  dsimp only [mgT, vals, List.take, List.drop, List.cons_append, List.nil_append] at hfr
  clear hX hD; subst hfr; clear σ β X
  refine then_normal ?_
  refine wp_seq ?_
  refine wp_region_P [0, 1] [.k 16 (.string (strL (l.take n))), .k 3 (.string (strL (l.take n)))] [(3, 1, 1, 4), (12, 0, 1, 13)] hst5 fun W6 hst6 => ?_
  refine then_normal ?_
  refine wp_ret ?_
  refine bodyPost_ret (v := .string (strL (l.take n))) (results_tmp Tryd.results98 rfl) rfl ?_
  exact ⟨rfl, hst6.blk 0 rfl, hst6.upd⟩

theorem byte_lt (l : List UInt8) (m : Nat) : 0 ≤ byteI l m ∧ byteI l m < 256 := by
  have := (l.getD m 0).toNat_lt
  unfold byteI; omega

theorem byte_take (l : List UInt8) (h : 1 ≤ l.length) : byteI (l.take 1) 0 = byteI l 0 := by
  cases l with
  | nil => simp at h
  | cons a l => rfl

set_option maxRecDepth 100000 in
set_option maxHeartbeats 2000000 in
theorem one1_any (b c : Nat) (l : List UInt8) (w : World) (hb : Blk w b 9 #[.string (strL l)]) (hc : Blk w c 155 #[.func (.func 98) #[] #[.pointer (some ⟨b, 0, none⟩)]]) (hne : b ≠ c) (hn : 1 ≤ l.length) :
    Calls Tryd.prog 100 #[.pointer (some ⟨c, 0, none⟩)] w (TakePost b (.int .i64 (byteI l 0)) (l.drop 1) w) := by
  have st0 := St.lentB2 hb hc hne
  have hb256 := byte_lt (l.take 1) 0
  go_enter Tryd.func100, Tryd.ntmps100
  have hst0 := st0
  refine wp_seq ?_
  refine wp_region_P [0] [.k 1 (.int .i64 0)] [(1, 0, 1, 2)] hst0 fun W1 hst1 => ?_
  refine then_normal ?_
  refine wp_seq ?_
  refine wp_region_T [0, 1, 3, 7, 15] [[1], [0]] [[], [2]] [[], [0]] [.c 2 (.func (.func 98) #[] #[.pointer (some ⟨b, 0, none⟩)]), .a 3, .c 4 (.int .u8 (byteI (l.take 1) 0)), tW 5 .i64 (byteI (l.take 1) 0) (byteI (l.take 1) 0) (IntWalk.i64_in _ (by omega)), .k 1 (.int .i64 (byteI (l.take 1) 0))] (fun ix σ β X => match ix with | 0 => True | 1 => σ 3 = .string (strL (l.take 1)) ∧ X 2 = eB b 9 #[.string (strL (l.drop 1))] | _ => True) [1, 2] [0, 1, 2] [(1, 4, 1, 2), (0, 0, 4, 4)] hst1 ?_ ?_ ?_
  · exact fun ix _ _ _ _ _ _ hs hb hx h => match ix, h with
    | 1, h => by dsimp only at h ⊢; rw [← hs 3 rfl, ← hx 2 rfl]; exact h
    | 0, _ | _ + 2, _ => trivial
  · refine ⟨?_, ?_, ?_, trivial⟩
    · exact s4 rfl (fun _ _ _ h => h) fun cx => run_load1 rfl (by kernel_rfl) (cx.out 0 rfl) ((cx.blk (cx.init 1 _ rfl) rfl).cell 0)
    · refine sv_any rfl rfl fun ρ β W X cx => ?_
      refine DoesU.call (run_callV (f := 98) (args := #[.int .i64 1]) (args' := #[.int .i64 1, .pointer (some ⟨b, 0, none⟩)]) rfl rfl (cx.anc 0 rfl) (by kernel_rfl) (map1 (cx.sees.const _)) rfl) ?_
      refine (take_any 1 b l _ (cx.blk (cx.init 0 _ rfl) rfl) (by omega)).mono ?_
      rintro e W1 ⟨rfl, hb1, hu⟩
      refine ⟨_, rfl, post_mut (cx.init 0 _ rfl) rfl rfl hu hb1 (fun σ β' X' hs hb hv hx => ?_)⟩
      exact ⟨(hv 3 rfl).1.trans rfl, hx⟩
    · exact s4 rfl (fun _ _ _ h => h) fun cx => run_indexStr (m := 0) rfl (by kernel_rfl) (dTn (cx.anc 1 rfl)).1 (cx.sees.const _) (by omega) (by rw [List.length_take]; omega)
  intro σ β X W2 hD hX hst2 fr hfr
  simp only [zM, exq 1 (hX 1 _ rfl), exq 2 ((dTn (hD 1 lq)).2)] at hst2
  dsimp only [mgT, vals, List.take, List.drop, List.cons_append, List.nil_append] at hfr
  simp only [ed 3 ((dTn (hD 1 lq)).1)] at hfr
  clear hX hD; subst hfr; clear σ β X
  refine then_normal ?_
  refine wp_ret ?_
  refine bodyPost_ret (v := .int .i64 (byteI (l.take 1) 0)) (results_tmp Tryd.results100 rfl) rfl ?_
  exact ⟨by rw [byte_take l hn], hst2.blk 1 rfl, hst2.upd.less ((hst2.blk 0 rfl).trans hc.symm)⟩

end Go.Proofs.YtfjpglohcppjeaaDoor

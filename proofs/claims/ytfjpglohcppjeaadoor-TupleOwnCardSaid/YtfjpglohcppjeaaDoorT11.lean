/- value.Read's closures: must, take, one, the deferred one. -/
import Derived.Test.YtfjpglohcppjeaaDoorT10b
import Derived.Recover
namespace Go.Proofs.YtfjpglohcppjeaaDoor
open Go.RowKit
set_option linter.unusedVariables false

theorem strL_size (l : List UInt8) : (strL l).size = l.length := by show l.toArray.size = _; simp
theorem strL_ext (l : List UInt8) (a b : Nat) : (strL l).extract a b = strL ((l.drop a).take (b - a)) := by
  apply ByteArray.ext
  rw [ByteArray.data_extract]
  apply Array.ext'
  simp [strL, List.extract_eq_take_drop]
theorem strL_take (l : List UInt8) (n : Nat) : (strL l).extract 0 n = strL (l.take n) := by rw [strL_ext]; simp
theorem strL_drop (l : List UInt8) (n : Nat) : (strL l).extract n (strL l).size = strL (l.drop n) := by
  rw [strL_ext, strL_size, List.take_of_length_le (by simp)]
theorem Upd.less {b c : Nat} {w W : World} (h : Upd [b, c] w W) (hc : W.heap[c]? = w.heap[c]?) : Upd [b] w W := ⟨h.os, h.tape, h.output, h.size, fun k hk hn => by
  by_cases e : k = c
  · rw [e]; exact hc
  · exact h.block k hk (by simp at hn ⊢; exact ⟨hn, e⟩)⟩
def byteI (l : List UInt8) (m : Nat) : Int := ((l.getD m 0).toNat : Int)
theorem St.lent1 {w : World} {b t : Nat} {cs : Array Value} (hb : Blk w b t cs) : St w [b] [eB b t cs] w := by
  refine ⟨Upd.refl _ _, fun x hx => ?_, List.pairwise_singleton _ _⟩
  simp only [List.mem_cons, List.not_mem_nil, or_false] at hx
  subst hx
  exact ⟨hb, eB_loc _ _ _, fun k hk => ⟨.inl (by simp [eB] at hk; simp [hk]), by simp [eB] at hk; subst hk; exact hb.lt⟩⟩
theorem St.lentB2 {w : World} {b t c u : Nat} {cs ds : Array Value} (hb : Blk w b t cs) (hc : Blk w c u ds) (hne : b ≠ c) : St w [b, c] [eB b t cs, eB c u ds] w := by
  refine ⟨Upd.refl _ _, fun x hx => ?_, List.pairwise_pair.2 fun k hk hk' => by simp [eB] at hk hk'; omega⟩
  simp only [List.mem_cons, List.not_mem_nil, or_false] at hx
  rcases hx with rfl | rfl
  · exact ⟨hb, eB_loc _ _ _, fun k hk => ⟨.inl (by simp [eB] at hk; simp [hk]), by simp [eB] at hk; subst hk; exact hb.lt⟩⟩
  · exact ⟨hc, eB_loc _ _ _, fun k hk => ⟨.inl (by simp [eB] at hk; simp [hk]), by simp [eB] at hk; subst hk; exact hc.lt⟩⟩
section
variable {P : Program} {o : Oper} {ρ : Operand → Value} {W : World}
theorem run_indexStr {t : TypeId} {x y : Operand} {l : List UInt8} {k : IntKind} {j : Int} {m : Nat} (h : o.op = .index t x y) (ht : P.underlying t = some .string) (hx : ρ x = .string (strL l)) (hy : ρ y = .int k j) (hj : j = (m : Int)) (hm : m < l.length) :
    (execOp ρ o).run P W = .ok (.value (.int .u8 (byteI l m))) W := by
  subst hj
  unfold execOp; rw [h]
  have h1 : (0 : Int) ≤ (m : Int) := by omega
  have h2 : (strL l)[m]? = some (l.getD m 0) := by
    rw [getElem?_pos (strL l) m (by rw [strL_size]; exact hm)]
    simp [strL, ByteArray.getElem_eq_getElem_data, hm]
  simp only [hx, hy, Instr.index, asIntOf, Sem.run_bind, Sem.run_pure, Result.andThen_ok, run_underlying ht, h1, if_true, Int.toNat_natCast, h2]
  rfl
end
set_option maxRecDepth 100000 in
set_option maxHeartbeats 2000000 in
theorem must_true (e : Int) (w : World) :
    Calls Tryd.prog 99 #[.bool true, .int .i64 e] w (Ret (.tuple #[]) w) := by
  go_enter Tryd.func99, Tryd.ntmps99
  have hst0 := St.start w
  refine wp_seq ?_
  refine wp_region_X [0, 1] [] [] [] (fun ix σ β X => match ix with | 0 => σ 4 = .bool true | 1 => σ 5 = .bool false | _ => True) [] [4, 5] hst0 ?_ ?_ ?_
  · exact fun ix _ _ _ _ _ _ hs hb hx h => match ix, h with
    | 0, h | 1, h => (hs _ rfl).symm.trans h
    | _ + 2, _ => trivial
  · refine ⟨⟨trivial, ?_⟩, ?_⟩
    · exact mo rfl
    · exact s0 rfl fun cx => run_not rfl (cx.anc 0 rfl) rfl
  intro σ β X W1 hD hX hst1 fr hfr
  simp only [zM] at hst1
  simp only [zP, ed 4 (hD 0 lq), ed 5 (hD 1 lq)] at hfr
  clear hX hD; subst hfr; clear σ β X
  refine then_normal ?_
  refine wp_cond_false (show Act.eval _ _ = .bool false from rfl) ?_
  refine wp_skip ?_
  refine bodyPost_end (v := .tuple #[]) (by simp [results, Tryd.results99, go_sem]) rfl ?_
  exact Ret.of rfl hst1.ext

def TakePost (b : Nat) (v : Value) (l : List UInt8) (w : World) (e : Ending) (w' : World) : Prop := e = .returned v ∧ Blk w' b 9 #[.string (strL l)] ∧ Upd [b] w w'

set_option maxRecDepth 100000 in
set_option maxHeartbeats 2000000 in
theorem take_any (n : Nat) (b : Nat) (l : List UInt8) (w : World) (hb : Blk w b 9 #[.string (strL l)]) (hn : n ≤ l.length) :
    Calls Tryd.prog 98 #[.int .i64 ((n : Int)), .pointer (some ⟨b, 0, none⟩)] w (TakePost b (.string (strL (l.take n))) (l.drop n) w) := by
  have st0 := St.lent1 hb
  have hsl := strL_size l
  go_enter Tryd.func98, Tryd.ntmps98
  have hst0 := st0
  refine wp_seq ?_
  refine wp_region_X [0] [] [] [] (fun ix σ β X => match ix with | 0 => σ 3 = .string ⟨#[]⟩ | _ => True) [0] [3] hst0 ?_ ?_ ?_
  · exact fun ix _ _ _ _ _ _ hs hb hx h => match ix, h with
    | 0, h => (hs _ rfl).symm.trans h
    | _ + 1, _ => trivial
  · refine ⟨trivial, ?_⟩
    · exact s0 rfl fun cx => run_assign' rfl (cx.sees.const _)
  intro σ β X W1 hD hX hst1 fr hfr
  simp only [zM, exq 0 (hX 0 _ rfl)] at hst1
  simp only [zP, ed 3 (hD 0 lq)] at hfr
  clear hX hD; subst hfr; clear σ β X
  refine then_normal ?_
  refine wp_seq ?_
  have hd3 : (decide ((n : Int) ≤ ((strL l).size : Int))) = true := by rw [decide_eq_true_eq]; omega
  refine wp_region_X [0, 1, 0, 7, 15] [[0]] [] [] (fun ix σ β X => match ix with | 0 => σ 5 = .string (strL l) | 1 => σ 6 = .int .i64 (((strL l).size : Int)) | 2 => σ 7 = .int .i64 ((n : Int)) | 3 => σ 8 = .bool (decide ((n : Int) ≤ ((strL l).size : Int))) | 4 => σ 9 = .tuple #[] | _ => True) [0] [5, 6, 7, 8, 9] hst1 ?_ ?_ ?_
  · exact fun ix _ _ _ _ _ _ hs hb hx h => match ix, h with
    | 0, h | 1, h | 2, h | 3, h | 4, h => (hs _ rfl).symm.trans h
    | _ + 5, _ => trivial
  · refine ⟨⟨⟨⟨⟨trivial, ?_⟩, ?_⟩, ?_⟩, ?_⟩, ?_⟩
    · exact s0 rfl fun cx => run_load1 rfl (by kernel_rfl) (cx.out 1 rfl) ((cx.blk (cx.init 0 _ rfl) rfl).cell 0)
    · exact s0 rfl fun cx => run_len_s rfl (by kernel_rfl) (cx.anc 0 rfl)
    · exact mo rfl
    · exact s0 rfl fun cx => run_bin rfl (cx.anc 1 rfl) (cx.anc 2 rfl) rfl
    · exact sv_call rfl rfl rfl rfl rfl (fun _ _ _ h => h) fun ρ β W X cx => ⟨_, _, run_callF (args := #[.bool true, .int .i64 10]) rfl cx.sees rfl (by kernel_rfl) (map2 (Eq.trans (cx.anc 3 rfl) (congrArg Value.bool hd3)) (cx.sees.const _)), must_true _ _⟩
  intro σ β X W2 hD hX hst2 fr hfr
  simp only [zM, exq 0 (hX 0 _ rfl)] at hst2
  simp only [zP, ed 5 (hD 0 lq), ed 6 (hD 1 lq), ed 7 (hD 2 lq), ed 8 (hD 3 lq), ed 9 (hD 4 lq)] at hfr
  clear hX hD; subst hfr; clear σ β X
  refine then_normal ?_
  refine wp_seq ?_
  refine wp_region_X [0, 0, 3, 7] [[0]] [] [] (fun ix σ β X => match ix with | 0 => σ 10 = .string (strL l) | 1 => σ 11 = .int .i64 ((n : Int)) | 2 => σ 12 = .string (strL (l.take n)) | 3 => σ 4 = .string (strL (l.take n)) | _ => True) [0] [10, 11, 12, 4] hst2 ?_ ?_ ?_
  · exact fun ix _ _ _ _ _ _ hs hb hx h => match ix, h with
    | 0, h | 1, h | 2, h | 3, h => (hs _ rfl).symm.trans h
    | _ + 4, _ => trivial
  · refine ⟨⟨⟨⟨trivial, ?_⟩, ?_⟩, ?_⟩, ?_⟩
    · exact s0 rfl fun cx => run_load1 rfl (by kernel_rfl) (cx.out 1 rfl) ((cx.blk (cx.init 0 _ rfl) rfl).cell 0)
    · exact mo rfl
    · exact s4 rfl (fun _ _ _ h => h) fun cx => (by rw [← strL_take]; exact run_slice_hi (l := n) rfl (by kernel_rfl) (cx.anc 0 rfl) (cx.anc 1 rfl) (by omega) (by rw [strL_size]; omega))
    · exact s0 rfl fun cx => run_assign' rfl (cx.anc 2 rfl)
  intro σ β X W4 hD hX hst4 fr hfr
  simp only [zM, exq 0 (hX 0 _ rfl)] at hst4
  simp only [zP, ed 10 (hD 0 lq), ed 11 (hD 1 lq), ed 12 (hD 2 lq), ed 4 (hD 3 lq)] at hfr
  clear hX hD; subst hfr; clear σ β X
  refine then_normal ?_
  refine wp_seq ?_
  refine wp_region_X [0, 0, 3, 7] [[0], [], [], [0]] [[], [], [], [1]] [[], [], [], [0]] (fun ix σ β X => match ix with | 0 => σ 13 = .string (strL l) | 1 => σ 14 = .int .i64 ((n : Int)) | 2 => σ 15 = .string (strL (l.drop n)) | 3 => X 1 = eB b 9 #[.string (strL (l.drop n))] | _ => True) [1] [13, 14, 15] hst4 ?_ ?_ ?_
  · exact fun ix _ _ _ _ _ _ hs hb hx h => match ix, h with
    | 0, h | 1, h | 2, h => (hs _ rfl).symm.trans h
    | 3, h => by dsimp only at h ⊢; rw [← hx 1 rfl]; exact h
    | _ + 4, _ => trivial
  · refine ⟨⟨⟨⟨trivial, ?_⟩, ?_⟩, ?_⟩, ?_⟩
    · exact s0 rfl fun cx => run_load1 rfl (by kernel_rfl) (cx.out 1 rfl) ((cx.blk (cx.init 0 _ rfl) rfl).cell 0)
    · exact mo rfl
    · exact s4 rfl (fun _ _ _ h => h) fun cx => (by rw [← strL_drop]; exact run_slice_lo (l := n) rfl (by kernel_rfl) (cx.anc 0 rfl) (cx.anc 1 rfl) (by omega) (by rw [strL_size]; omega))
    · refine sv_any rfl rfl fun ρ β W X cx => ?_
      exact dv_store (n := 1) rfl (cx.out 1 rfl) (cx.anc 2 rfl) (by kernel_rfl) rfl rfl cx (cx.init 0 _ rfl) rfl (Nat.le_of_ble_eq_true rfl) rfl rfl rfl rfl (fun σ β' X' hs hb hx => hx)
  intro σ β X W5 hD hX hst5 fr hfr
  simp only [zM, exq 1 ((hD 3 lq))] at hst5
  simp only [zP, ed 13 (hD 0 lq), ed 14 (hD 1 lq), ed 15 (hD 2 lq)] at hfr
  clear hX hD; subst hfr; clear σ β X
  refine then_normal ?_
  refine wp_seq ?_
  refine wp_region_X [0, 1] [] [] [] (fun ix σ β X => match ix with | 0 => σ 16 = .string (strL (l.take n)) | 1 => σ 3 = .string (strL (l.take n)) | _ => True) [0] [16, 3] hst5 ?_ ?_ ?_
  · exact fun ix _ _ _ _ _ _ hs hb hx h => match ix, h with
    | 0, h | 1, h => (hs _ rfl).symm.trans h
    | _ + 2, _ => trivial
  · refine ⟨⟨trivial, ?_⟩, ?_⟩
    · exact mo rfl
    · exact s0 rfl fun cx => run_assign' rfl (cx.anc 0 rfl)
  intro σ β X W6 hD hX hst6 fr hfr
  simp only [zM, exq 0 (hX 0 _ rfl)] at hst6
  simp only [zP, ed 16 (hD 0 lq), ed 3 (hD 1 lq)] at hfr
  clear hX hD; subst hfr; clear σ β X
  refine then_normal ?_
  refine wp_ret ?_
  refine bodyPost_ret (v := .string (strL (l.take n))) (by simp [results, Tryd.results98, go_sem]) rfl ?_
  exact ⟨rfl, hst6.blk 0 rfl, hst6.upd⟩

theorem byte_lt (l : List UInt8) (m : Nat) : 0 ≤ byteI l m ∧ byteI l m < 256 := by
  have := (l.getD m 0).toNat_lt
  unfold byteI; omega

theorem byte_take (l : List UInt8) (h : 1 ≤ l.length) : byteI (l.take 1) 0 = byteI l 0 := by
  cases l with
  | nil => simp at h
  | cons a l => rfl

set_option maxRecDepth 100000 in
set_option maxHeartbeats 2000000 in
theorem one1_any (b c : Nat) (l : List UInt8) (w : World) (hb : Blk w b 9 #[.string (strL l)]) (hc : Blk w c 155 #[.func (.func 98) #[] #[.pointer (some ⟨b, 0, none⟩)]]) (hne : b ≠ c) (hn : 1 ≤ l.length) :
    Calls Tryd.prog 100 #[.pointer (some ⟨c, 0, none⟩)] w (TakePost b (.int .i64 (byteI l 0)) (l.drop 1) w) := by
  have st0 := St.lentB2 hb hc hne
  have hb256 := byte_lt (l.take 1) 0
  go_enter Tryd.func100, Tryd.ntmps100
  have hst0 := st0
  refine wp_seq ?_
  refine wp_region_X [0] [] [] [] (fun ix σ β X => match ix with | 0 => σ 1 = .int .i64 0 | _ => True) [0, 1] [1] hst0 ?_ ?_ ?_
  · exact fun ix _ _ _ _ _ _ hs hb hx h => match ix, h with
    | 0, h => (hs _ rfl).symm.trans h
    | _ + 1, _ => trivial
  · refine ⟨trivial, ?_⟩
    · exact s0 rfl fun cx => run_assign' rfl (cx.sees.const _)
  intro σ β X W1 hD hX hst1 fr hfr
  simp only [zM, exq 0 (hX 0 _ rfl), exq 1 (hX 1 _ rfl)] at hst1
  simp only [zP, ed 1 (hD 0 lq)] at hfr
  clear hX hD; subst hfr; clear σ β X
  refine then_normal ?_
  refine wp_seq ?_
  refine wp_region_X [0, 1, 3, 7, 15] [[1], [0]] [[], [2]] [[], [0]] (fun ix σ β X => match ix with | 0 => σ 2 = .func (.func 98) #[] #[.pointer (some ⟨b, 0, none⟩)] | 1 => σ 3 = .string (strL (l.take 1)) ∧ X 2 = eB b 9 #[.string (strL (l.drop 1))] | 2 => σ 4 = .int .u8 (byteI (l.take 1) 0) | 3 => σ 5 = .int .i64 (byteI (l.take 1) 0) | 4 => σ 1 = .int .i64 (byteI (l.take 1) 0) | _ => True) [1, 2] [2, 3, 4, 5, 1] hst1 ?_ ?_ ?_
  · exact fun ix _ _ _ _ _ _ hs hb hx h => match ix, h with
    | 0, h | 2, h | 3, h | 4, h => (hs _ rfl).symm.trans h
    | 1, h => by dsimp only at h ⊢; rw [← hs 3 rfl, ← hx 2 rfl]; exact h
    | _ + 5, _ => trivial
  · refine ⟨⟨⟨⟨⟨trivial, ?_⟩, ?_⟩, ?_⟩, ?_⟩, ?_⟩
    · exact s0 rfl fun cx => run_load1 rfl (by kernel_rfl) (cx.out 0 rfl) ((cx.blk (cx.init 1 _ rfl) rfl).cell 0)
    · refine sv_any rfl rfl fun ρ β W X cx => ?_
      refine DoesU.call (run_callV (f := 98) (args := #[.int .i64 1]) (args' := #[.int .i64 1, .pointer (some ⟨b, 0, none⟩)]) rfl rfl (cx.anc 0 rfl) (by kernel_rfl) (map1 (cx.sees.const _)) rfl) ?_
      refine (take_any 1 b l _ (cx.blk (cx.init 0 _ rfl) rfl) (by omega)).mono ?_
      rintro e W1 ⟨rfl, hb1, hu⟩
      refine ⟨_, rfl, post_mut (cx.init 0 _ rfl) rfl rfl hu hb1 (fun σ β' X' hs hb hv hx => ?_)⟩
      exact ⟨(hv 3 rfl).1.trans rfl, hx⟩
    · exact s4 rfl (fun _ _ _ h => h) fun cx => run_indexStr (m := 0) rfl (by kernel_rfl) (cx.anc 1 rfl).1 (cx.sees.const _) (by omega) (by rw [List.length_take]; omega)
    · exact s4 rfl (fun _ _ _ h => h) fun cx => run_convI rfl (by kernel_rfl) (by kernel_rfl) (cx.anc 2 rfl) (IntWalk.i64_in _ (by omega))
    · exact s0 rfl fun cx => run_assign' rfl (cx.anc 3 rfl)
  intro σ β X W2 hD hX hst2 fr hfr
  simp only [zM, exq 1 (hX 1 _ rfl), exq 2 ((hD 1 lq).2)] at hst2
  simp only [zP, ed 2 (hD 0 lq), ed 3 ((hD 1 lq).1), ed 4 (hD 2 lq), ed 5 (hD 3 lq), ed 1 (hD 4 lq)] at hfr
  clear hX hD; subst hfr; clear σ β X
  refine then_normal ?_
  refine wp_ret ?_
  refine bodyPost_ret (v := .int .i64 (byteI (l.take 1) 0)) (by simp [results, Tryd.results100, go_sem]) rfl ?_
  exact ⟨by rw [byte_take l hn], hst2.blk 1 rfl, hst2.upd.less ((hst2.blk 0 rfl).trans hc.symm)⟩

end Go.Proofs.YtfjpglohcppjeaaDoor

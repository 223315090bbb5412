/- value.Read of the bytes of a valid row. -/
import Derived.Test.YtfjpglohcppjeaaDoorT11b
namespace Go.Proofs.YtfjpglohcppjeaaDoor
open Go.RowKit
set_option linter.unusedVariables false
set_option linter.unusedSimpArgs false

theorem or_low {X b : Nat} (h : b < 256) : X * 256 ||| b = X * 256 + b := by
  have := Nat.shiftLeft_add_eq_or_of_lt (i := 8) (b := b) (by simpa using h) X
  rw [Nat.shiftLeft_eq] at this
  exact this.symm
theorem wrap_or {x b : Int} (hb : 0 ≤ b ∧ b < 256) : IntKind.i64.wrap ((BitVec.ofInt IntKind.i64.bits (IntKind.i64.wrap (IntKind.i64.wrap x * 2 ^ 8)) ||| BitVec.ofInt IntKind.i64.bits b).toNat : Int) = IntKind.i64.wrap (x * 256 + b) := by
  show IntKind.i64.wrap ((BitVec.ofInt 64 (IntKind.i64.wrap (IntKind.i64.wrap x * 2 ^ 8)) ||| BitVec.ofInt 64 b).toNat : Int) = _
  rw [BitVec.toNat_or, BitVec.toNat_ofInt, BitVec.toNat_ofInt]
  have e1 : ((IntKind.i64.wrap (IntKind.i64.wrap x * 2 ^ 8)) % ((2 ^ 64 : Nat) : Int)).toNat = (x % 72057594037927936).toNat * 256 := by
    rw [IntKind.wrap_i64, IntKind.wrap_i64]
    have : ((2 ^ 64 : Nat) : Int) = 18446744073709551616 := by decide
    rw [this]
    omega
  have e2 : (b % ((2 ^ 64 : Nat) : Int)).toNat = b.toNat := by
    have : ((2 ^ 64 : Nat) : Int) = 18446744073709551616 := by decide
    rw [this]; omega
  rw [e1, e2, or_low (by omega), IntKind.wrap_i64, IntKind.wrap_i64]
  omega
def accN (N : Int) (j : Nat) : Int := IntKind.i64.wrap (IntKind.u64.wrap N / 256 ^ (8 - j))
theorem u64_bd (N : Int) : 0 ≤ IntKind.u64.wrap N ∧ IntKind.u64.wrap N < 18446744073709551616 := by rw [IntKind.wrap_u64]; omega
theorem acc_0 (N : Int) : accN N 0 = 0 := by
  have h := u64_bd N
  unfold accN
  rw [show IntKind.u64.wrap N / 256 ^ (8 - 0) = 0 by simp only [Nat.reduceSub, Int.reducePow]; omega]
  decide
theorem acc_8 {N : Int} (h : -9223372036854775808 ≤ N ∧ N ≤ 9223372036854775807) : accN N 8 = N := by
  unfold accN
  simp only [Nat.reduceSub, Int.reducePow, Int.ediv_one]
  rw [IntKind.wrap_u64, IntKind.wrap_i64]
  omega
theorem oct8_bd (N : Int) (j : Nat) : 0 ≤ (oct8 N).getD j 0 ∧ (oct8 N).getD j 0 < 256 := by
  unfold oct8
  rcases Nat.lt_or_ge j 8 with h | h
  · rcases (by omega : j = 0 ∨ j = 1 ∨ j = 2 ∨ j = 3 ∨ j = 4 ∨ j = 5 ∨ j = 6 ∨ j = 7) with rfl | rfl | rfl | rfl | rfl | rfl | rfl | rfl <;> simp only [List.getD_cons_zero, List.getD_cons_succ] <;> omega
  · rw [List.getD_eq_getElem?_getD, List.getElem?_eq_none (by simpa using h)]; simp
theorem acc_step (N : Int) {j : Nat} (hj : j < 8) : IntKind.i64.wrap ((BitVec.ofInt IntKind.i64.bits (IntKind.i64.wrap (accN N j * 2 ^ 8)) ||| BitVec.ofInt IntKind.i64.bits ((oct8 N).getD j 0)).toNat : Int) = accN N (j + 1) := by
  rw [accN, wrap_or (oct8_bd N j), accN]
  congr 1
  unfold oct8
  have h := u64_bd N
  generalize IntKind.u64.wrap N = u at *
  rcases (by omega : j = 0 ∨ j = 1 ∨ j = 2 ∨ j = 3 ∨ j = 4 ∨ j = 5 ∨ j = 6 ∨ j = 7) with rfl | rfl | rfl | rfl | rfl | rfl | rfl | rfl <;> simp only [List.getD_cons_zero, List.getD_cons_succ, Nat.reduceSub, Nat.reduceAdd, Int.reducePow] <;> omega
theorem bI_put (N : Int) : bI (putS N 8) = oct8 N := by
  unfold putS
  rw [show 8 - 8 = 0 from rfl, List.drop_zero]
  unfold bI strOfNums
  rw [List.toList_toArray, List.map_map]
  have : ∀ l : List Int, (∀ b ∈ l, 0 ≤ b ∧ b < 256) → l.map ((fun b : UInt8 => (b.toNat : Int)) ∘ fun n : Int => UInt8.ofNat n.toNat) = l := by
    intro l
    induction l with
    | nil => intro _; rfl
    | cons a l ih =>
      intro h
      rw [List.map_cons, ih fun b hb => h b (List.mem_cons_of_mem _ hb)]
      congr 1
      have := h a (List.mem_cons_self ..)
      show (((UInt8.ofNat a.toNat).toNat : Nat) : Int) = a
      rw [UInt8.toNat_ofNat']
      omega
  refine this _ fun b hb => ?_
  obtain ⟨j, hj⟩ := List.mem_iff_getElem?.1 hb
  have := oct8_bd N j
  rw [List.getD_eq_getElem?_getD, hj] at this
  exact this
theorem u8_int {x : Int} (h : 0 ≤ x ∧ x < 256) : (((UInt8.ofNat x.toNat).toNat : Nat) : Int) = x := by rw [UInt8.toNat_ofNat']; omega
theorem strL_data (x : ByteArray) : strL x.data.toList = x := by show ByteArray.mk x.data.toList.toArray = x; rw [Array.toArray_toList]
def plainV (v : Val) : Val := (v.1, if v.1 = 1 then v.2.1 else 0, if v.1 = 2 then v.2.2 else ByteArray.empty)
def tailB (v : Val) : List UInt8 := if v.1 = 1 then (putS v.2.1 8).data.toList else if v.1 = 2 then UInt8.ofNat ((v.2.2.size : Nat) : Int).toNat :: v.2.2.data.toList else []
abbrev valsB (rs : List Val) : List UInt8 := rs.flatMap valB
abbrev plainR (rs : List Val) : List Val := rs.map plainV
theorem valsB_at {rs : List Val} {k : Nat} (h : k < rs.length) : valsB (rs.drop k) = UInt8.ofNat (rs.getD k v0).1.toNat :: (tailB (rs.getD k v0) ++ valsB (rs.drop (k + 1))) := by
  rw [List.getD_eq_getElem?_getD, List.getElem?_eq_getElem h, Option.getD_some]
  rw [valsB, List.drop_eq_getElem_cons h, List.flatMap_cons]
  rfl
theorem plain_snoc {rs : List Val} {k : Nat} {c : List Value} (h : k < rs.length) (hc : cellsV (plainV (rs.getD k v0)) = c) : flatR (plainR (rs.take k)) ++ c = flatR (plainR (rs.take (k + 1))) := by
  rw [← hc, plainR, plainR, List.take_add_one, List.getElem?_eq_getElem h, List.getD_eq_getElem?_getD, List.getElem?_eq_getElem h, List.map_append, flatR, flatR, List.flatMap_append]
  congr 1
theorem vbytes_eq {rs : List Val} (h : rrightF rs = true) : vbytesF rs = strL (UInt8.ofNat ((rs.length : Nat) : Int).toNat :: valsB rs) := by
  rw [vbytesF, if_pos h, bytesTo, List.take_length]
theorem nilrowN {w0 W : World} {bor : List Nat} {L : List Ent} (h : St w0 bor L W) (e sz : Nat) : St w0 bor (L ++ [eO e sz (.slice none 0 0) 0 []]) W := by
  refine ⟨h.upd, fun x hx => ?_, ?_⟩
  · rcases List.mem_append.1 hx with hx | hx
    · exact h.ok x hx
    · rw [List.mem_singleton] at hx
      subst hx
      exact ⟨World.ownsRow_nil _ _ _ _, eO_loc _ _ _ _ _, fun k hk => by cases hk⟩
  · rw [List.pairwise_append]
    refine ⟨h.apart, List.pairwise_singleton _ _, fun a _ b hb => ?_⟩
    rw [List.mem_singleton] at hb
    subst hb
    exact fun k _ hk => by cases hk
section
variable {P : Program} {o : Oper} {ρ : Operand → Value} {W : World}
theorem run_shl {t t' : TypeId} {x y : Operand} {k k' : IntKind} {a b z : Int} (h : o.op = .binOp .shl t x y t') (hx : ρ x = .int k a) (hy : ρ y = .int k' b) (hb : 0 ≤ b) (hz : k.wrap (a * 2 ^ min b.toNat k.bits) = z) : (execOp ρ o).run P W = .ok (.value (.int k z)) W := by
  subst hz
  unfold execOp; rw [h]
  have : ¬ b < 0 := by omega
  simp [hx, hy, eqGuard, binOp, Op.shift, this]
theorem run_or {t t' : TypeId} {x y : Operand} {k : IntKind} {a b z : Int} (h : o.op = .binOp .or t x y t') (hx : ρ x = .int k a) (hy : ρ y = .int k b) (hz : k.wrap ((BitVec.ofInt k.bits a ||| BitVec.ofInt k.bits b).toNat : Int) = z) : (execOp ρ o).run P W = .ok (.value (.int k z)) W := by
  subst hz
  unfold execOp; rw [h]
  simp [hx, hy, eqGuard, binOp, Op.intBits]
end
theorem one_cons (b c : Nat) (a : UInt8) (l : List UInt8) (w : World) (hb : Blk w b 9 #[.string (strL (a :: l))]) (hc : Blk w c 155 #[.func (.func 98) #[] #[.pointer (some ⟨b, 0, none⟩)]]) (hne : b ≠ c) :
    Calls Tryd.prog 100 #[.pointer (some ⟨c, 0, none⟩)] w (TakePost b (.int .i64 ((a.toNat : Nat) : Int)) l w) := one1_any b c (a :: l) w hb hc hne (by simp)

theorem take_app (n b : Nat) (A R : List UInt8) (w : World) (hb : Blk w b 9 #[.string (strL (A ++ R))]) (hn : A.length = n) :
    Calls Tryd.prog 98 #[.int .i64 (n : Int), .pointer (some ⟨b, 0, none⟩)] w (TakePost b (.string (strL A)) R w) := by
  have h := take_any n b (A ++ R) w hb (by rw [List.length_append]; omega)
  rw [List.take_left' hn, List.drop_left' hn] at h
  exact h

def VReadPost (rs : List Val) (w : World) (e : Ending) (w' : World) : Prop := ∃ A c, e = .returned (.tuple #[.slice A rs.length c, .int .i64 0]) ∧ w'.ownsRow w.heap.size 103 3 (.slice A rs.length c) rs.length (flatR (plainR rs)) ∧ Ext w w'

set_option maxRecDepth 100000 in
set_option maxHeartbeats 8000000 in
theorem vread_any (rs : List Val) (h0 : UInt8) (w : World) (hr : rrightF rs = true) (hrN : ∀ v ∈ rs, v.1 = 1 → -9223372036854775808 ≤ v.2.1 ∧ v.2.1 ≤ 9223372036854775807) (hh0 : ((h0.toNat : Nat) : Int) = (rs.length : Int)) :
    Calls Tryd.prog 54 #[.string (strL (h0 :: valsB rs))] w (VReadPost rs w) := by
  have hl6 := rright_len hr
  go_enter_defers Tryd.func54, Tryd.ntmps54
  have hst0 := St.start w
  refine wp_seq ?_
  refine wp_region_T [0, 0, 0] [] [[0], [1], [2]] [] [.a 1, .a 2, .a 3] (fun ix σ β X => match ix with | 0 => σ 1 = .pointer (some ⟨(pb (β 1)), 0, none⟩) ∧ X 0 = eB (pb (β 1)) 9 #[.string (strL (h0 :: valsB rs))] | 1 => σ 2 = .pointer (some ⟨(pb (β 2)), 0, none⟩) ∧ X 1 = eB (pb (β 2)) 25 #[.slice none 0 0] | 2 => σ 3 = .pointer (some ⟨(pb (β 3)), 0, none⟩) ∧ X 2 = eB (pb (β 3)) 32 #[.int .i64 0] | _ => True) [0, 1, 2] [0, 1, 2] [(1, 0, 3, 4)] hst0 ?_ ?_ ?_
  · exact fun ix _ _ _ _ _ _ hs hb hx h => match ix, h with
    | 0, h => by dsimp only at h ⊢; rw [← hs 1 rfl, ← hb 1 rfl, ← hx 0 rfl]; exact h
    | 1, h => by dsimp only at h ⊢; rw [← hs 2 rfl, ← hb 2 rfl, ← hx 1 rfl]; exact h
    | 2, h => by dsimp only at h ⊢; rw [← hs 3 rfl, ← hb 3 rfl, ← hx 2 rfl]; exact h
    | _ + 3, _ => trivial
  · refine ⟨?_, ?_, ?_, trivial⟩
    · refine sv_any rfl rfl fun ρ β W X cx => ?_
      exact dv_box (cs := #[.string (strL (h0 :: valsB rs))]) rfl (cx.out 0 rfl) rfl rfl rfl (fun σ β' X' hs hb hv hx => ⟨hv, hx⟩)
    · refine sv_any rfl rfl fun ρ β W X cx => ?_
      exact dv_alloc (cs := #[.slice none 0 0]) rfl (by kernel_rfl) rfl rfl (fun σ β' X' hs hb hv hx => ⟨hv, hx⟩)
    · refine sv_any rfl rfl fun ρ β W X cx => ?_
      exact dv_alloc (cs := #[.int .i64 0]) rfl (by kernel_rfl) rfl rfl (fun σ β' X' hs hb hv hx => ⟨hv, hx⟩)
  intro σ β X W1 hD hX hst1 fr hfr
  obtain ⟨B1_1, hu_B1_1⟩ : ∃ z, pb (β 1) = z := ⟨_, rfl⟩
  obtain ⟨B2_1, hu_B2_1⟩ : ∃ z, pb (β 2) = z := ⟨_, rfl⟩
  obtain ⟨B3_1, hu_B3_1⟩ : ∃ z, pb (β 3) = z := ⟨_, rfl⟩
  simp only [zM, exq 0 ((dTn (hD 0 lq)).2), exq 1 ((dTn (hD 1 lq)).2), exq 2 ((dTn (hD 2 lq)).2), hu_B1_1, hu_B2_1, hu_B3_1] at hst1
  dsimp only [mgT, vals, List.take, List.drop, List.cons_append, List.nil_append] at hfr
  simp only [ed 1 ((dTn (hD 0 lq)).1), ed 2 ((dTn (hD 1 lq)).1), ed 3 ((dTn (hD 2 lq)).1), hu_B1_1, hu_B2_1, hu_B3_1] at hfr
  clear hX hD hu_B1_1 hu_B2_1 hu_B3_1; subst hfr; clear σ β X
  refine then_normal ?_
  refine wp_seq ?_
  refine wp_mkdefer (v := .func (.func 97) #[] #[.pointer (some ⟨B2_1, 0, none⟩), .pointer (some ⟨B3_1, 0, none⟩)]) (d := { target := .fn (.func 97) #[.pointer (some ⟨B2_1, 0, none⟩), .pointer (some ⟨B3_1, 0, none⟩)], args := #[] }) rfl rfl (by simp [go_sem, Instr.makeFunc, Act.eval]) (by simp [go_sem, Act.eval, Act.put]) rfl ?_
  simp only [Act.put, List.setIfInBounds_toArray, List.set_cons_succ, List.set_cons_zero]
  refine then_normal ?_
  refine wp_seq ?_
  refine wp_region_T [0, 0, 3] [[], [], [3]] [[], [3], [4]] [[], [], [3]] [.c 12 (.func (.func 98) #[] #[.pointer (some ⟨B1_1, 0, none⟩)]), .a 4, .n] (fun ix σ β X => match ix with | 0 => True | 1 => σ 4 = .pointer (some ⟨(pb (β 4)), 0, none⟩) ∧ X 3 = eB (pb (β 4)) 155 #[.nilFunc] | 2 => X 4 = eB (pb (β 4)) 155 #[.func (.func 98) #[] #[.pointer (some ⟨B1_1, 0, none⟩)]] | _ => True) [0, 1, 2, 4] [0, 1, 2] [(4, 1, 1, 5), (7, 0, 1, 8)] hst1 ?_ ?_ ?_
  · exact fun ix _ _ _ _ _ _ hs hb hx h => match ix, h with
    | 1, h => by dsimp only at h ⊢; rw [← hs 4 rfl, ← hb 4 rfl, ← hx 3 rfl]; exact h
    | 2, h => by dsimp only at h ⊢; rw [← hb 4 rfl, ← hx 4 rfl]; exact h
    | 0, _ | _ + 3, _ => trivial
  · refine ⟨?_, ?_, ?_, trivial⟩
    · exact sv0 rfl rfl rfl rfl rfl (fun _ _ _ h => h) fun ρ β W X cx => by
        have fF1 : ρ (.tmp 1) = .pointer (some ⟨B1_1, 0, none⟩) := (cx.out 1 rfl)
        simp [go_sem, Instr.makeFunc, fF1]
    · refine sv_any rfl rfl fun ρ β W X cx => ?_
      exact dv_alloc (cs := #[.nilFunc]) rfl (by kernel_rfl) rfl rfl (fun σ β' X' hs hb hv hx => ⟨hv, hx⟩)
    · refine sv_any rfl rfl fun ρ β W X cx => ?_
      exact dv_store (n := 1) rfl (dTn (cx.anc 1 rfl)).1 (cx.anc 0 rfl) (by kernel_rfl) (by kernel_rfl) (by kernel_rfl) cx (dTn (cx.anc 1 rfl)).2 rfl (Nat.le_of_ble_eq_true rfl) (by kernel_rfl) rfl rfl rfl (fun σ β' X' hs hb hx => by rw [hb 4]; exact hx)
  intro σ β X W2 hD hX hst2 fr hfr
  obtain ⟨B4_2, hu_B4_2⟩ : ∃ z, pb (β 4) = z := ⟨_, rfl⟩
  simp only [zM, exq 0 (hX 0 _ rfl), exq 1 (hX 1 _ rfl), exq 2 (hX 2 _ rfl), exq 4 ((dTn (hD 2 lq))), hu_B4_2] at hst2
  dsimp only [mgT, vals, List.take, List.drop, List.cons_append, List.nil_append] at hfr
  simp only [ed 4 ((dTn (hD 1 lq)).1), hu_B4_2] at hfr
  clear hX hD hu_B4_2; subst hfr; clear σ β X
  refine then_normal ?_
  refine wp_seq ?_
  refine wp_region_T [0, 1] [] [] [] [.c 13 (.func (.func 100) #[] #[.pointer (some ⟨B4_2, 0, none⟩)]), .k 5 (.func (.func 100) #[] #[.pointer (some ⟨B4_2, 0, none⟩)])] (fun _ _ _ _ => True) [0, 1, 2, 3] [0] [(5, 1, 1, 6), (7, 0, 1, 8)] hst2 ?_ ?_ ?_
  · exact fun _ _ _ _ _ _ _ _ _ _ h => h
  · refine ⟨?_, trivial⟩
    · exact sv0 rfl rfl rfl rfl rfl (fun _ _ _ h => h) fun ρ β W X cx => by
        have fF4 : ρ (.tmp 4) = .pointer (some ⟨B4_2, 0, none⟩) := (cx.out 4 rfl)
        simp [go_sem, Instr.makeFunc, fF4]
  intro σ β X W3 hD hX hst3 fr hfr
  simp only [zM, exq 0 (hX 0 _ rfl), exq 1 (hX 1 _ rfl), exq 2 (hX 2 _ rfl), exq 3 (hX 3 _ rfl)] at hst3
  dsimp only [mgT, vals, List.take, List.drop, List.cons_append, List.nil_append] at hfr
  clear hX hD; subst hfr; clear σ β X
  refine then_normal ?_
  refine wp_seq ?_
  refine wp_region_T [0, 1, 3] [[], [0, 3]] [[], [4]] [[], [0]] [.k 14 (.func (.func 100) #[] #[.pointer (some ⟨B4_2, 0, none⟩)]), .a 15, .c 6 (.int .i64 ((rs.length : Int)))] (fun ix σ β X => match ix with | 0 => True | 1 => σ 15 = .int .i64 ((rs.length : Int)) ∧ X 4 = eB B1_1 9 #[.string (strL (valsB rs))] | _ => True) [1, 2, 3, 4] [1, 2] [(6, 2, 1, 7), (7, 0, 2, 9)] hst3 ?_ ?_ ?_
  · exact fun ix _ _ _ _ _ _ hs hb hx h => match ix, h with
    | 1, h => by dsimp only at h ⊢; rw [← hs 15 rfl, ← hx 4 rfl]; exact h
    | 0, _ | _ + 2, _ => trivial
  · refine ⟨?_, ?_, trivial⟩
    · refine sv_any rfl rfl fun ρ β W X cx => ?_
      refine DoesU.call (run_callV (f := 100) (args := #[]) (args' := #[.pointer (some ⟨B4_2, 0, none⟩)]) rfl rfl (cx.anc 0 rfl) (by kernel_rfl) map0 rfl) ?_
      refine (one_cons _ _ h0 (valsB rs) _ (cx.blk (cx.init 0 _ rfl) rfl) (cx.blk (cx.init 3 _ rfl) rfl) (by have h_ := cx.ap 0 3 rfl rfl (by decide); rw [(cx.init 0 _ rfl), (cx.init 3 _ rfl)] at h_; intro e_; exact h_ _ (List.mem_singleton.2 rfl) (List.mem_singleton.2 e_))).mono ?_
      rintro e W1 ⟨rfl, hb1, hu⟩
      refine ⟨_, rfl, post_mut (cx.init 0 _ rfl) rfl rfl hu hb1 (fun σ β' X' hs hb hv hx => ?_)⟩
      exact ⟨(hv 15 rfl).1.trans (congrArg (Value.int .i64) hh0), hx⟩
    · exact s4 rfl (fun _ _ _ h => h) fun cx => run_assign' rfl (dTn (cx.anc 1 rfl)).1
  intro σ β X W4 hD hX hst4 fr hfr
  simp only [zM, exq 1 (hX 1 _ rfl), exq 2 (hX 2 _ rfl), exq 3 (hX 3 _ rfl), exq 4 ((dTn (hD 1 lq)).2)] at hst4
  dsimp only [mgT, vals, List.take, List.drop, List.cons_append, List.nil_append] at hfr
  simp only [ed 15 ((dTn (hD 1 lq)).1)] at hfr
  clear hX hD; subst hfr; clear σ β X
  refine then_normal ?_
  refine wp_seq ?_
  have hd6 : (decide ((rs.length : Int) ≤ 6)) = true := decide_eq_true (by omega)
  refine wp_region_T [0, 1, 3] [] [] [] [.k 16 (.int .i64 ((rs.length : Int))), .e 17 (.bool (decide ((rs.length : Int) ≤ 6))) (.bool true) (congrArg Value.bool hd6), .c 18 (.tuple #[])] (fun _ _ _ _ => True) [0, 1, 2, 3] [2] [(16, 0, 3, 19)] hst4 ?_ ?_ ?_
  · exact fun _ _ _ _ _ _ _ _ _ _ h => h
  · refine ⟨?_, trivial⟩
    · exact sv_call rfl rfl rfl rfl rfl (fun _ _ _ h => h) fun ρ β W X cx => ⟨_, _, run_callF (args := #[.bool true, .int .i64 2]) rfl cx.sees rfl (by kernel_rfl) (map2 (cx.anc 1 rfl) (cx.sees.const _)), must_true _ _⟩
  intro σ β X W5 hD hX hst5 fr hfr
  simp only [zM, exq 0 (hX 0 _ rfl), exq 1 (hX 1 _ rfl), exq 2 (hX 2 _ rfl), exq 3 (hX 3 _ rfl)] at hst5
  dsimp only [mgT, vals, List.take, List.drop, List.cons_append, List.nil_append] at hfr
  clear hX hD; subst hfr; clear σ β X
  refine then_normal ?_
  refine wp_seq ?_
  refine wp_seq ?_
  refine wp_region_P [0, 0] [.k 19 (.int .i64 ((rs.length : Int))), .k 20 (.int .i64 0)] [(19, 0, 2, 21)] hst5 fun W7 hst7 => ?_
  refine then_normal ?_
  refine wp_block ?_
  have hn_8 := nilrowN hst7 103 3
  refine wp_loopN (fun mz az W => ∃ k : Nat, ∃ RA : Option Addr, ∃ RC : Nat, ∃ u9_ : List Value, k ≤ rs.length ∧ mz = rs.length - k ∧ az = ⟨#[.string (strL (h0 :: valsB rs)), .pointer (some ⟨B1_1, 0, none⟩), .pointer (some ⟨B2_1, 0, none⟩), .pointer (some ⟨B3_1, 0, none⟩), .pointer (some ⟨B4_2, 0, none⟩), .func (.func 100) #[] #[.pointer (some ⟨B4_2, 0, none⟩)], .int .i64 ((rs.length : Int)), (u9_.getD 0 undef), undef, (u9_.getD 1 undef), (u9_.getD 2 undef), .func (.func 97) #[] #[.pointer (some ⟨B2_1, 0, none⟩), .pointer (some ⟨B3_1, 0, none⟩)], .func (.func 98) #[] #[.pointer (some ⟨B1_1, 0, none⟩)], .func (.func 100) #[] #[.pointer (some ⟨B4_2, 0, none⟩)], .func (.func 100) #[] #[.pointer (some ⟨B4_2, 0, none⟩)], .int .i64 ((rs.length : Int)), .int .i64 ((rs.length : Int)), .bool true, .tuple #[], .int .i64 ((rs.length : Int)), .int .i64 ((k : Int)), (u9_.getD 3 undef), (u9_.getD 4 undef), (u9_.getD 5 undef), (u9_.getD 6 undef), (u9_.getD 7 undef), (u9_.getD 8 undef), (u9_.getD 9 undef), (u9_.getD 10 undef), (u9_.getD 11 undef), (u9_.getD 12 undef), (u9_.getD 13 undef), (u9_.getD 14 undef), (u9_.getD 15 undef), (u9_.getD 16 undef), (u9_.getD 17 undef), (u9_.getD 18 undef), (u9_.getD 19 undef), (u9_.getD 20 undef), (u9_.getD 21 undef), (u9_.getD 22 undef), (u9_.getD 23 undef), (u9_.getD 24 undef), (u9_.getD 25 undef), (u9_.getD 26 undef), (u9_.getD 27 undef), (u9_.getD 28 undef), (u9_.getD 29 undef), (u9_.getD 30 undef), (u9_.getD 31 undef), (u9_.getD 32 undef), (u9_.getD 33 undef), (u9_.getD 34 undef), (u9_.getD 35 undef), (u9_.getD 36 undef), (u9_.getD 37 undef), (u9_.getD 38 undef), (u9_.getD 39 undef), (u9_.getD 40 undef), (u9_.getD 41 undef), (u9_.getD 42 undef), (u9_.getD 43 undef), (u9_.getD 44 undef), (u9_.getD 45 undef), (u9_.getD 46 undef), undef, undef, undef, undef], [{ target := .fn (.func 97) #[.pointer (some ⟨B2_1, 0, none⟩), .pointer (some ⟨B3_1, 0, none⟩)], args := #[] }]⟩ ∧ St w [] [eB B1_1 9 #[.string (strL (valsB (rs.drop k)))], eB B2_1 25 #[.slice RA k RC], eO 103 3 (.slice RA k RC) k (flatR (plainR (rs.take k))), eB B3_1 32 #[.int .i64 0], eB B4_2 155 #[.func (.func 98) #[] #[.pointer (some ⟨B1_1, 0, none⟩)]]] W) (rs.length - 0) ?_ ?_
  · -- the loop begins
    have hp10 := hn_8.pick [3, 0, 4, 1, 2] (by decide) rfl
    exact ⟨0, none, 0, [undef, undef, undef, undef, undef, undef, undef, undef, undef, undef, undef, undef, undef, undef, undef, undef, undef, undef, undef, undef, undef, undef, undef, undef, undef, undef, undef, undef, undef, undef, undef, undef, undef, undef, undef, undef, undef, undef, undef, undef, undef, undef, undef, undef, undef, undef, undef], by omega, rfl, rfl, hp10⟩
  rintro n9 a9 W9 ⟨k, RA, RC, u9_, hk, rfl, rfl, hst9⟩
  refine wp_seq ?_
  refine wp_region_P [0] [.k 21 (.bool (decide ((k : Int) < (rs.length : Int))))] [(21, 0, 1, 22)] hst9 fun W11 hst11 => ?_
  refine then_normal ?_
  refine wp_seq ?_
  rcases Bool.eq_false_or_eq_true (decide ((k : Int) < (rs.length : Int))) with hs12 | hs12
  · skip
    have hs12p : (k : Int) < (rs.length : Int) := by simpa using hs12
    refine wp_cond_true (show Act.eval _ _ = .bool true from (congrArg Value.bool hs12)) ?_
    refine wp_skip ?_
    refine then_normal ?_
    refine wp_seq ?_
    refine wp_block ?_
    refine wp_seq ?_
    obtain ⟨u, hu⟩ : ∃ z, rs.getD k v0 = z := ⟨_, rfl⟩
    have hvu : vrightF u = true := by rw [← hu]; exact rright_at hr (by omega)
    have hpu := vright_parts hvu
    have hkn : knownF u.1 = true := by simp only [knownF, Bool.and_eq_true, decide_eq_true_eq]; omega
    have huN : u.1 = 1 → -9223372036854775808 ≤ u.2.1 ∧ u.2.1 ≤ 9223372036854775807 := by rw [← hu]; exact hrN _ (by rw [List.getD_eq_getElem?_getD, List.getElem?_eq_getElem (by omega), Option.getD_some]; exact List.getElem_mem _)
    obtain ⟨hd, hhd⟩ : ∃ z, UInt8.ofNat u.1.toNat = z := ⟨_, rfl⟩
    have hdv : ((hd.toNat : Nat) : Int) = u.1 := by rw [← hhd]; exact u8_int (by omega)
    obtain ⟨TB, hTB⟩ : ∃ z, tailB u = z := ⟨_, rfl⟩
    obtain ⟨R, hR⟩ : ∃ z, valsB (rs.drop (k + 1)) = z := ⟨_, rfl⟩
    have hl_ : valsB (rs.drop k) = hd :: (TB ++ R) := by rw [valsB_at (by omega), hu, hhd, hTB, hR]
    rw [hl_] at hst11
    refine wp_region_T [0, 1, 3, 0, 15] [[], [0, 4], [], [], [6]] [[], [5], [], [6], [7]] [[], [0], [], [], [6]] [.k 22 (.func (.func 100) #[] #[.pointer (some ⟨B4_2, 0, none⟩)]), .a 23, .c 24 (.agg #[.int .i64 u.1, .int .i64 0, .string ByteArray.empty]), .a 7, .n] (fun ix σ β X => match ix with | 0 => True | 1 => σ 23 = .int .i64 u.1 ∧ X 5 = eB B1_1 9 #[.string (strL (TB ++ R))] | 2 => True | 3 => σ 7 = .pointer (some ⟨(pb (β 7)), 0, none⟩) ∧ X 6 = eB (pb (β 7)) 103 #[.int .i64 0, .int .i64 0, .string ByteArray.empty] | 4 => X 7 = eB (pb (β 7)) 103 #[.int .i64 u.1, .int .i64 0, .string ByteArray.empty] | _ => True) [1, 2, 3, 4, 5, 7] [1, 2, 3, 4] [(7, 3, 1, 8), (14, 0, 3, 17)] hst11 ?_ ?_ ?_
    · exact fun ix _ _ _ _ _ _ hs hb hx h => match ix, h with
      | 1, h => by dsimp only at h ⊢; rw [← hs 23 rfl, ← hx 5 rfl]; exact h
      | 3, h => by dsimp only at h ⊢; rw [← hs 7 rfl, ← hb 7 rfl, ← hx 6 rfl]; exact h
      | 4, h => by dsimp only at h ⊢; rw [← hb 7 rfl, ← hx 7 rfl]; exact h
      | 0, _ | 2, _ | _ + 5, _ => trivial
    · refine ⟨?_, ?_, ?_, ?_, trivial⟩
      · refine sv_any rfl rfl fun ρ β W X cx => ?_
        refine DoesU.call (run_callV (f := 100) (args := #[]) (args' := #[.pointer (some ⟨B4_2, 0, none⟩)]) rfl rfl (cx.anc 0 rfl) (by kernel_rfl) map0 rfl) ?_
        refine (one_cons _ _ hd ((TB ++ R)) _ (cx.blk (cx.init 0 _ rfl) rfl) (cx.blk (cx.init 4 _ rfl) rfl) (by have h_ := cx.ap 0 4 rfl rfl (by decide); rw [(cx.init 0 _ rfl), (cx.init 4 _ rfl)] at h_; intro e_; exact h_ _ (List.mem_singleton.2 rfl) (List.mem_singleton.2 e_))).mono ?_
        rintro e W1 ⟨rfl, hb1, hu⟩
        refine ⟨_, rfl, post_mut (cx.init 0 _ rfl) rfl rfl hu hb1 (fun σ β' X' hs hb hv hx => ?_)⟩
        exact ⟨(hv 23 rfl).1.trans (congrArg (Value.int .i64) hdv), hx⟩
      · exact s4 rfl (fun _ _ _ h => h) fun cx => run_buildL rfl (pmc (dTn (cx.anc 1 rfl)).1 pmn) (by kernel_rfl)
      · refine sv_any rfl rfl fun ρ β W X cx => ?_
        exact dv_alloc (cs := #[.int .i64 0, .int .i64 0, .string ByteArray.empty]) rfl (by kernel_rfl) rfl rfl (fun σ β' X' hs hb hv hx => ⟨hv, hx⟩)
      · refine sv_any rfl rfl fun ρ β W X cx => ?_
        exact dv_store (n := 3) rfl (dTn (cx.anc 3 rfl)).1 (cx.anc 2 rfl) (by kernel_rfl) (by kernel_rfl) (by kernel_rfl) cx (dTn (cx.anc 3 rfl)).2 rfl (Nat.le_of_ble_eq_true rfl) (by kernel_rfl) rfl rfl rfl (fun σ β' X' hs hb hx => by rw [hb 7]; exact hx)
    intro σ β X W13 hD hX hst13 fr hfr
    obtain ⟨B7_13, hu_B7_13⟩ : ∃ z, pb (β 7) = z := ⟨_, rfl⟩
    simp only [zM, exq 1 (hX 1 _ rfl), exq 2 (hX 2 _ rfl), exq 3 (hX 3 _ rfl), exq 4 (hX 4 _ rfl), exq 5 ((dTn (hD 1 lq)).2), exq 7 ((dTn (hD 4 lq))), hu_B7_13] at hst13
    dsimp only [mgT, vals, List.take, List.drop, List.cons_append, List.nil_append] at hfr
    simp only [ed 23 ((dTn (hD 1 lq)).1), ed 7 ((dTn (hD 3 lq)).1), hu_B7_13] at hfr
    clear hX hD hu_B7_13; subst hfr; clear σ β X
    refine then_normal ?_
    refine wp_seq ?_
    have hd15 : (knownF u.1) = true := hkn
    refine wp_region_T [0, 1, 3, 7] [[], [5]] [] [] [.k 25 (.pointer (some ⟨B7_13, 0, none⟩)), .c 26 (.int .i64 u.1), .c 27 (.bool true), .c 28 (.tuple #[])] (fun _ _ _ _ => True) [0, 1, 2, 3, 4, 5] [1, 2, 3] [(25, 0, 4, 29)] hst13 ?_ ?_ ?_
    · exact fun _ _ _ _ _ _ _ _ _ _ h => h
    · refine ⟨?_, ?_, ?_, trivial⟩
      · exact s4 rfl (fun _ _ _ h => h) fun cx => run_load1 rfl (by kernel_rfl) (cx.anc 0 rfl) ((cx.blk (cx.init 5 _ rfl) rfl).cell 0)
      · exact sv_call rfl rfl rfl rfl rfl (fun _ _ _ h => h.trans (congrArg Value.bool hd15)) fun ρ β W X cx => ⟨_, _, run_callF (args := #[.int .i64 u.1]) rfl cx.sees rfl (by kernel_rfl) (map1 (cx.anc 1 rfl)), vknown_any u.1 _⟩
      · exact sv_call rfl rfl rfl rfl rfl (fun _ _ _ h => h) fun ρ β W X cx => ⟨_, _, run_callF (args := #[.bool true, .int .i64 11]) rfl cx.sees rfl (by kernel_rfl) (map2 (cx.anc 2 rfl) (cx.sees.const _)), must_true _ _⟩
    intro σ β X W14 hD hX hst14 fr hfr
    simp only [zM, exq 0 (hX 0 _ rfl), exq 1 (hX 1 _ rfl), exq 2 (hX 2 _ rfl), exq 3 (hX 3 _ rfl), exq 4 (hX 4 _ rfl), exq 5 (hX 5 _ rfl)] at hst14
    dsimp only [mgT, vals, List.take, List.drop, List.cons_append, List.nil_append] at hfr
    clear hX hD; subst hfr; clear σ β X
    refine then_normal ?_
    refine wp_seq ?_
    refine wp_seq ?_
    refine wp_region_T [0, 1] [[], [5]] [] [] [.k 29 (.pointer (some ⟨B7_13, 0, none⟩)), .c 30 (.int .i64 u.1)] (fun _ _ _ _ => True) [0, 1, 2, 3, 4, 5] [1] [(29, 0, 2, 31)] hst14 ?_ ?_ ?_
    · exact fun _ _ _ _ _ _ _ _ _ _ h => h
    · refine ⟨?_, trivial⟩
      · exact s4 rfl (fun _ _ _ h => h) fun cx => run_load1 rfl (by kernel_rfl) (cx.anc 0 rfl) ((cx.blk (cx.init 5 _ rfl) rfl).cell 0)
    intro σ β X W16 hD hX hst16 fr hfr
    simp only [zM, exq 0 (hX 0 _ rfl), exq 1 (hX 1 _ rfl), exq 2 (hX 2 _ rfl), exq 3 (hX 3 _ rfl), exq 4 (hX 4 _ rfl), exq 5 (hX 5 _ rfl)] at hst16
    dsimp only [mgT, vals, List.take, List.drop, List.cons_append, List.nil_append] at hfr
    clear hX hD; subst hfr; clear σ β X
    refine then_normal ?_
    refine wp_block ?_
    refine wp_seq ?_
    refine wp_region_P [0, 1] [.k 32 (.bool (u.1 == 1)), .k 31 (.bool (u.1 == 1))] [(31, 1, 1, 32), (0, 0, 1, 1)] hst16 fun W17 hst17 => ?_
    refine then_normal ?_
    rcases Bool.eq_false_or_eq_true (u.1 == 1) with hs18 | hs18
    · skip
      have hs18p : u.1 = 1 := by simpa using hs18
      refine wp_cond_true (show Act.eval _ _ = .bool true from (congrArg Value.bool hs18)) ?_
      refine wp_seq ?_
      have h8 : TB = (putS u.2.1 8).data.toList := by rw [← hTB, tailB, if_pos (by assumption)]
      have hp8 : (putS u.2.1 8).size = 8 := putS_size _ 8 (by omega)
      rw [h8] at hst17
      refine wp_region_T [0, 1, 3, 7, 0] [[3], [4]] [[], [6], [7]] [[], [4]] [.c 33 (.func (.func 98) #[] #[.pointer (some ⟨B1_1, 0, none⟩)]), .a 34, .a 35, .c 36 (.int .i64 ((((putS u.2.1 8)).size : Int))), .k 37 (.int .i64 0)] (fun ix σ β X => match ix with | 0 => True | 1 => σ 34 = .string ((putS u.2.1 8)) ∧ X 6 = eB B1_1 9 #[.string (strL R)] | 2 => σ 35 = .slice ((some ⟨(pb' (β 35)), 0, none⟩)) (((putS u.2.1 8)).size) (((putS u.2.1 8)).size + (sK (β 35))) ∧ X 7 = eW (pb' (β 35)) 5 (bI (putS u.2.1 8)) | _ => True) [0, 1, 2, 3, 5, 6, 7] [0, 1, 2, 3] [(33, 0, 5, 38)] hst17 ?_ ?_ ?_
      · exact fun ix _ _ _ _ _ _ hs hb hx h => match ix, h with
        | 1, h => by dsimp only at h ⊢; rw [← hs 34 rfl, ← hx 6 rfl]; exact h
        | 2, h => by dsimp only at h ⊢; rw [← hs 35 rfl, ← hb 35 rfl, ← hx 7 rfl]; exact h
        | 0, _ | _ + 3, _ => trivial
      · refine ⟨?_, ?_, ?_, ?_, trivial⟩
        · exact s4 rfl (fun _ _ _ h => h) fun cx => run_load1 rfl (by kernel_rfl) (cx.out 4 rfl) ((cx.blk (cx.init 3 _ rfl) rfl).cell 0)
        · refine sv_any rfl rfl fun ρ β W X cx => ?_
          refine DoesU.call (run_callV (f := 98) (args := #[.int .i64 8]) (args' := #[.int .i64 8, .pointer (some ⟨B1_1, 0, none⟩)]) rfl rfl (cx.anc 0 rfl) (by kernel_rfl) (map1 (cx.sees.const _)) rfl) ?_
          refine (take_app 8 B1_1 ((putS u.2.1 8).data.toList) R _ (cx.blk (cx.init 4 _ rfl) rfl) (by rw [Array.length_toList]; exact putS_size _ 8 (by omega))).mono ?_
          rintro e W1 ⟨rfl, hb1, hu⟩
          refine ⟨_, rfl, post_mut (cx.init 4 _ rfl) rfl rfl hu hb1 (fun σ β' X' hs hb hv hx => ?_)⟩
          exact ⟨(hv 34 rfl).1.trans (congrArg Value.string (strL_data _)), hx⟩
        · refine sv_any rfl rfl fun ρ β W X cx => ?_
          exact dv_convS (e := 5) (s := (putS u.2.1 8)) rfl (by kernel_rfl) (by kernel_rfl) (by kernel_rfl) (dTn (cx.anc 1 rfl)).1 rfl rfl (fun σ β' X' hs hb hv hx => ⟨hv, hx⟩)
        · exact s4 rfl (fun _ _ _ h => h) fun cx => run_len_l (e := 5) rfl (by kernel_rfl) (dTn (cx.anc 2 rfl)).1
      intro σ β X W19 hD hX hst19 fr hfr
      obtain ⟨B35_19, hu_B35_19⟩ : ∃ z, pb' (β 35) = z := ⟨_, rfl⟩
      obtain ⟨c35_19, hu_c35_19⟩ : ∃ z, sK (β 35) = z := ⟨_, rfl⟩
      simp only [zM, exq 0 (hX 0 _ rfl), exq 1 (hX 1 _ rfl), exq 2 (hX 2 _ rfl), exq 3 (hX 3 _ rfl), exq 5 (hX 5 _ rfl), exq 6 ((dTn (hD 1 lq)).2), exq 7 ((dTn (hD 2 lq)).2), hu_B35_19, hu_c35_19] at hst19
      dsimp only [mgT, vals, List.take, List.drop, List.cons_append, List.nil_append] at hfr
      simp only [ed 34 ((dTn (hD 1 lq)).1), ed 35 ((dTn (hD 2 lq)).1), hu_B35_19, hu_c35_19] at hfr
      clear hX hD hu_B35_19 hu_c35_19; subst hfr; clear σ β X
      refine then_normal ?_
      refine wp_block ?_
      rw [show eB B7_13 103 #[.int .i64 u.1, .int .i64 0, .string ByteArray.empty] = eB B7_13 103 #[.int .i64 u.1, .int .i64 (accN u.2.1 0), .string ByteArray.empty] from by rw [acc_0], bI_put] at hst19
      refine wp_loopN (fun mz az W => ∃ j : Nat, ∃ u20_ : List Value, j ≤ 8 ∧ mz = 8 - j ∧ az = ⟨#[.string (strL (h0 :: valsB rs)), .pointer (some ⟨B1_1, 0, none⟩), .pointer (some ⟨B2_1, 0, none⟩), .pointer (some ⟨B3_1, 0, none⟩), .pointer (some ⟨B4_2, 0, none⟩), .func (.func 100) #[] #[.pointer (some ⟨B4_2, 0, none⟩)], .int .i64 ((rs.length : Int)), .pointer (some ⟨B7_13, 0, none⟩), undef, (u20_.getD 0 undef), (u9_.getD 2 undef), .func (.func 97) #[] #[.pointer (some ⟨B2_1, 0, none⟩), .pointer (some ⟨B3_1, 0, none⟩)], .func (.func 98) #[] #[.pointer (some ⟨B1_1, 0, none⟩)], .func (.func 100) #[] #[.pointer (some ⟨B4_2, 0, none⟩)], .func (.func 100) #[] #[.pointer (some ⟨B4_2, 0, none⟩)], .int .i64 ((rs.length : Int)), .int .i64 ((rs.length : Int)), .bool true, .tuple #[], .int .i64 ((rs.length : Int)), .int .i64 ((k : Int)), .bool (decide ((k : Int) < (rs.length : Int))), .func (.func 100) #[] #[.pointer (some ⟨B4_2, 0, none⟩)], .int .i64 u.1, .agg #[.int .i64 u.1, .int .i64 0, .string ByteArray.empty], .pointer (some ⟨B7_13, 0, none⟩), .int .i64 u.1, .bool true, .tuple #[], .pointer (some ⟨B7_13, 0, none⟩), .int .i64 u.1, .bool (u.1 == 1), .bool (u.1 == 1), .func (.func 98) #[] #[.pointer (some ⟨B1_1, 0, none⟩)], .string ((putS u.2.1 8)), .slice ((some ⟨B35_19, 0, none⟩)) (((putS u.2.1 8)).size) (((putS u.2.1 8)).size + c35_19), .int .i64 ((((putS u.2.1 8)).size : Int)), .int .i64 ((j : Int)), (u20_.getD 1 undef), (u20_.getD 2 undef), (u20_.getD 3 undef), (u20_.getD 4 undef), (u20_.getD 5 undef), (u20_.getD 6 undef), (u20_.getD 7 undef), (u20_.getD 8 undef), (u20_.getD 9 undef), (u20_.getD 10 undef), (u20_.getD 11 undef), (u9_.getD 31 undef), (u9_.getD 32 undef), (u9_.getD 33 undef), (u9_.getD 34 undef), (u9_.getD 35 undef), (u9_.getD 36 undef), (u9_.getD 37 undef), (u9_.getD 38 undef), (u9_.getD 39 undef), (u9_.getD 40 undef), (u9_.getD 41 undef), (u9_.getD 42 undef), (u9_.getD 43 undef), (u9_.getD 44 undef), (u9_.getD 45 undef), (u9_.getD 46 undef), undef, undef, undef, undef], [{ target := .fn (.func 97) #[.pointer (some ⟨B2_1, 0, none⟩), .pointer (some ⟨B3_1, 0, none⟩)], args := #[] }]⟩ ∧ St w [] [eB B2_1 25 #[.slice RA k RC], eO 103 3 (.slice RA k RC) k (flatR (plainR (rs.take k))), eB B3_1 32 #[.int .i64 0], eB B4_2 155 #[.func (.func 98) #[] #[.pointer (some ⟨B1_1, 0, none⟩)]], eB B7_13 103 #[.int .i64 u.1, .int .i64 (accN u.2.1 j), .string ByteArray.empty], eB B1_1 9 #[.string (strL R)], eW B35_19 5 (oct8 u.2.1)] W) (8 - 0) ?_ ?_
      · -- the loop begins
        have hp21 := hst19.pick [0, 1, 2, 3, 4, 5, 6] (by decide) rfl
        exact ⟨0, [(u9_.getD 1 undef), (u9_.getD 20 undef), (u9_.getD 21 undef), (u9_.getD 22 undef), (u9_.getD 23 undef), (u9_.getD 24 undef), (u9_.getD 25 undef), (u9_.getD 26 undef), (u9_.getD 27 undef), (u9_.getD 28 undef), (u9_.getD 29 undef), (u9_.getD 30 undef)], by omega, rfl, rfl, hp21⟩
      rintro n20 a20 W20 ⟨j, u20_, hj, rfl, rfl, hst20⟩
      refine wp_seq ?_
      refine wp_region_P [0] [.k 38 (.bool (decide ((j : Int) < (((putS u.2.1 8)).size : Int))))] [(38, 0, 1, 39)] hst20 fun W22 hst22 => ?_
      refine then_normal ?_
      refine wp_seq ?_
      rcases Bool.eq_false_or_eq_true (decide ((j : Int) < (((putS u.2.1 8)).size : Int))) with hs23 | hs23
      · skip
        have hs23p : (j : Int) < (((putS u.2.1 8)).size : Int) := by simpa using hs23
        refine wp_cond_true (show Act.eval _ _ = .bool true from (congrArg Value.bool hs23)) ?_
        refine wp_skip ?_
        refine then_normal ?_
        refine wp_seq ?_
        refine wp_block ?_
        refine wp_seq ?_
        refine wp_region_T [0, 1, 3] [[], [6]] [] [] [.c 39 (.pointer (some ⟨B35_19, j, none⟩)), .c 40 (.int .u8 ((oct8 u.2.1).getD j 0)), .k 9 (.int .u8 ((oct8 u.2.1).getD j 0))] (fun _ _ _ _ => True) [0, 1, 2, 3, 4, 5, 6] [0, 1] [(9, 2, 1, 10), (29, 0, 2, 31)] hst22 ?_ ?_ ?_
        · exact fun _ _ _ _ _ _ _ _ _ _ h => h
        · refine ⟨?_, ?_, trivial⟩
          · exact s4 rfl (fun _ _ _ h => h) fun cx => run_indexW (e := 5) (m := j) rfl (by kernel_rfl) (by kernel_rfl) (cx.out 35 rfl) (cx.out 37 rfl) (by omega) (by omega)
          · exact s4 rfl (fun _ _ _ h => h) fun cx => run_load1 rfl (by kernel_rfl) (cx.anc 0 rfl) (BRow.cell (cx.brow (cx.init 6 _ rfl) rfl) (by first | omega | (show _ < 8; omega)))
        intro σ β X W24 hD hX hst24 fr hfr
        simp only [zM, exq 0 (hX 0 _ rfl), exq 1 (hX 1 _ rfl), exq 2 (hX 2 _ rfl), exq 3 (hX 3 _ rfl), exq 4 (hX 4 _ rfl), exq 5 (hX 5 _ rfl), exq 6 (hX 6 _ rfl)] at hst24
        dsimp only [mgT, vals, List.take, List.drop, List.cons_append, List.nil_append] at hfr
        clear hX hD; subst hfr; clear σ β X
        refine then_normal ?_
        have hob := oct8_bd u.2.1 j
        refine wp_region_T [0, 1, 3, 0, 8, 31, 63, 127] [[], [4], [], [], [], [], [], [4]] [[], [], [], [], [], [], [], [7]] [[], [], [], [], [], [], [], [4]] [.k 41 (.pointer (some ⟨B7_13, 1, none⟩)), .c 42 (.int .i64 (accN u.2.1 j)), .c 43 (.int .i64 (IntKind.i64.wrap (accN u.2.1 j * 2 ^ 8))), .k 44 (.int .u8 ((oct8 u.2.1).getD j 0)), tW 45 .i64 ((oct8 u.2.1).getD j 0) ((oct8 u.2.1).getD j 0) (IntWalk.i64_in _ (by omega)), .c 46 (.int .i64 (accN u.2.1 (j + 1))), .k 47 (.pointer (some ⟨B7_13, 1, none⟩)), .n] (fun ix σ β X => match ix with | 0 => True | 1 => True | 2 => True | 3 => True | 4 => True | 5 => True | 6 => True | 7 => X 7 = eB B7_13 103 #[.int .i64 u.1, .int .i64 (accN u.2.1 (j + 1)), .string ByteArray.empty] | _ => True) [0, 1, 2, 3, 5, 6, 7] [1, 2, 5, 7] [(41, 0, 7, 48)] hst24 ?_ ?_ ?_
        · exact fun ix _ _ _ _ _ _ hs hb hx h => match ix, h with
          | 7, h => by dsimp only at h ⊢; rw [← hx 7 rfl]; exact h
          | 0, _ | 1, _ | 2, _ | 3, _ | 4, _ | 5, _ | 6, _ | _ + 8, _ => trivial
        · refine ⟨?_, ?_, ?_, ?_, trivial⟩
          · exact s4 rfl (fun _ _ _ h => h) fun cx => run_load1 rfl (by kernel_rfl) (cx.anc 0 rfl) ((cx.blk (cx.init 4 _ rfl) rfl).cell 1)
          · exact s4 rfl (fun _ _ _ h => h) fun cx => run_shl rfl (cx.anc 1 rfl) (cx.sees.const _) (by decide) rfl
          · exact s4 rfl (fun _ _ _ h => h) fun cx => run_or rfl (cx.anc 2 rfl) (cx.anc 4 rfl) (acc_step _ (by omega))
          · refine sv_any rfl rfl fun ρ β W X cx => ?_
            exact dv_store (n := 1) rfl (cx.anc 6 rfl) (cx.anc 5 rfl) (by kernel_rfl) (by kernel_rfl) (by kernel_rfl) cx (cx.init 4 _ rfl) rfl (Nat.le_of_ble_eq_true rfl) (by kernel_rfl) rfl rfl rfl (fun σ β' X' hs hb hx => hx)
        intro σ β X W25 hD hX hst25 fr hfr
        simp only [zM, exq 0 (hX 0 _ rfl), exq 1 (hX 1 _ rfl), exq 2 (hX 2 _ rfl), exq 3 (hX 3 _ rfl), exq 5 (hX 5 _ rfl), exq 6 (hX 6 _ rfl), exq 7 ((dTn (hD 7 lq)))] at hst25
        dsimp only [mgT, vals, List.take, List.drop, List.cons_append, List.nil_append] at hfr
        clear hX hD; subst hfr; clear σ β X
        refine blk_normal ?_
        refine then_normal ?_
        refine wp_region_P [0, 1] [tI 48 ((j : Int) + 1) (by omega), .k 37 (.int .i64 ((j : Int) + 1))] [(37, 1, 1, 38), (10, 0, 1, 11)] hst25 fun W26 hst26 => ?_
        refine then_normal ?_
        refine ⟨8 - ((j + 1)), by omega, ?_⟩
        have hp27 := hst26.pick [0, 1, 2, 3, 6, 4, 5] (by decide) rfl
        exact ⟨(j + 1), [.int .u8 ((oct8 u.2.1).getD j 0), .bool (decide ((j : Int) < (((putS u.2.1 8)).size : Int))), .pointer (some ⟨B35_19, j, none⟩), .int .u8 ((oct8 u.2.1).getD j 0), .pointer (some ⟨B7_13, 1, none⟩), .int .i64 (accN u.2.1 j), .int .i64 (IntKind.i64.wrap (accN u.2.1 j * 2 ^ 8)), .int .u8 ((oct8 u.2.1).getD j 0), .int .i64 ((oct8 u.2.1).getD j 0), .int .i64 (accN u.2.1 (j + 1)), .pointer (some ⟨B7_13, 1, none⟩), .int .i64 ((j : Int) + 1)], by omega, rfl, rfl, hp27⟩
      have hs23p : ¬ ((j : Int) < (((putS u.2.1 8)).size : Int)) := by simpa using hs23
      refine wp_cond_false (show Act.eval _ _ = .bool false from (congrArg Value.bool hs23)) ?_
      refine wp_exit ?_
      refine then_exit ?_
      refine then_exit ?_
      refine blk_eq ?_
      refine blk_normal ?_
      refine then_normal ?_
      obtain rfl : j = 8 := by omega
      rw [acc_8 (huN (by assumption))] at hst22
      refine wp_region_T [0, 0, 2, 7, 15] [[0], [4], [], [7, 1], [0]] [[], [], [7], [8], [9]] [[], [], [], [1], [0]] [.c 60 (.slice RA k RC), .c 61 (.agg #[.int .i64 u.1, .int .i64 u.2.1, .string ByteArray.empty]), .a 62, .a 63, .n] (fun ix σ β X => match ix with | 0 => True | 1 => True | 2 => σ 62 = .slice ((some ⟨(pb' (β 62)), 0, none⟩)) 1 1 ∧ X 7 = eO 103 3 (.slice ((some ⟨(pb' (β 62)), 0, none⟩)) 1 1) 1 ([.int .i64 u.1, .int .i64 u.2.1, .string ByteArray.empty]) | 3 => σ 63 = .slice (sA (β 63)) (k + 1) (sC (β 63)) ∧ X 8 = eO 103 3 (.slice (sA (β 63)) (k + 1) (sC (β 63))) (k + 1) (flatR (plainR (rs.take (k + 1)))) | 4 => X 9 = eB B2_1 25 #[.slice (sA (β 63)) (k + 1) (sC (β 63))] | _ => True) [2, 3, 4, 5, 6, 7, 8, 9] [0, 1, 2, 3, 4] [(60, 0, 4, 64)] hst22 ?_ ?_ ?_
      · exact fun ix _ _ _ _ _ _ hs hb hx h => match ix, h with
        | 2, h => by dsimp only at h ⊢; rw [← hs 62 rfl, ← hb 62 rfl, ← hx 7 rfl]; exact h
        | 3, h => by dsimp only at h ⊢; rw [← hs 63 rfl, ← hb 63 rfl, ← hx 8 rfl]; exact h
        | 4, h => by dsimp only at h ⊢; rw [← hb 63 rfl, ← hx 9 rfl]; exact h
        | 0, _ | 1, _ | _ + 5, _ => trivial
      · refine ⟨?_, ?_, ?_, ?_, ?_, trivial⟩
        · exact s4 rfl (fun _ _ _ h => h) fun cx => run_load1 rfl (by kernel_rfl) (cx.out 2 rfl) ((cx.blk (cx.init 0 _ rfl) rfl).cell 0)
        · exact s4 rfl (fun _ _ _ h => h) fun cx => run_loadB (n := 3) rfl (by kernel_rfl) (by kernel_rfl) (cx.out 7 rfl) (cx.blk (cx.init 4 _ rfl) rfl) (Nat.le_of_ble_eq_true rfl) rfl
        · refine sv_any rfl rfl fun ρ β W X cx => ?_
          have fF61 : ρ (.tmp 61) = .agg #[.int .i64 u.1, .int .i64 u.2.1, .string ByteArray.empty] := (cx.anc 1 rfl)
          exact dv_litN (e := 103) (sz := 3) (xs := [.int .i64 u.1, .int .i64 u.2.1, .string ByteArray.empty]) rfl (by simp [go_sem, fF61]) rfl (by decide) rfl rfl (fun σ β' X' hs hb hv hx => ⟨hv, hx⟩)
        · refine sv_any rfl rfl fun ρ β W X cx => ?_
          obtain ⟨i0, hi0, hz0, hz1, hz2⟩ := info_parts Tryd.infoVal
          refine dv_appendN (n := k) (m := 1) (nm := k + 1) (sz := 3) (xs := flatR (plainR (rs.take k))) (news := [.int .i64 u.1, .int .i64 u.2.1, .string ByteArray.empty]) (xs' := flatR (plainR (rs.take (k + 1)))) rfl (ty := 25) rfl (by kernel_rfl) hi0 hz0 hz1 hz2 rfl (by decide) (cx.anc 0 rfl) cx (cx.init 1 _ rfl) rfl (dTn (cx.anc 2 rfl)).1 (by rfl) (At.of_ownN (cx.row (dTn (cx.anc 2 rfl)).2 rfl)) (by simp [Value.oneCell']) (by simp only [maxLen]; omega) (by omega) rfl rfl rfl (by omega) (plain_snoc (by omega) (by rw [hu]; simp [cellsV, plainV, *])) (fun σ β' X' hs hb hv hx => ?_)
          exact ⟨hv, hx⟩
        · refine sv_any rfl rfl fun ρ β W X cx => ?_
          exact dv_store (n := 1) rfl (cx.out 2 rfl) (dTn (cx.anc 3 rfl)).1 (by kernel_rfl) (by kernel_rfl) (by kernel_rfl) cx (cx.init 0 _ rfl) rfl (Nat.le_of_ble_eq_true rfl) (by kernel_rfl) rfl rfl rfl (fun σ β' X' hs hb hx => by rw [hb 63]; exact hx)
      intro σ β X W28 hD hX hst28 fr hfr
      obtain ⟨B62_28, hu_B62_28⟩ : ∃ z, pb' (β 62) = z := ⟨_, rfl⟩
      obtain ⟨A63_28, hu_A63_28⟩ : ∃ z, sA (β 63) = z := ⟨_, rfl⟩
      obtain ⟨c63_28, hu_c63_28⟩ : ∃ z, sC (β 63) = z := ⟨_, rfl⟩
      simp only [zM, exq 2 (hX 2 _ rfl), exq 3 (hX 3 _ rfl), exq 4 (hX 4 _ rfl), exq 5 (hX 5 _ rfl), exq 6 (hX 6 _ rfl), exq 7 ((dTn (hD 2 lq)).2), exq 8 ((dTn (hD 3 lq)).2), exq 9 ((dTn (hD 4 lq))), hu_B62_28, hu_A63_28, hu_c63_28] at hst28
      dsimp only [mgT, vals, List.take, List.drop, List.cons_append, List.nil_append] at hfr
      simp only [ed 62 ((dTn (hD 2 lq)).1), ed 63 ((dTn (hD 3 lq)).1), hu_B62_28, hu_A63_28, hu_c63_28] at hfr
      clear hX hD hu_B62_28 hu_A63_28 hu_c63_28; subst hfr; clear σ β X
      refine blk_normal ?_
      refine then_normal ?_
      refine wp_region_P [0, 1] [tI 64 ((k : Int) + 1) (by omega), .k 20 (.int .i64 ((k : Int) + 1))] [(20, 1, 1, 21), (43, 0, 1, 44)] hst28 fun W29 hst29 => ?_
      refine then_normal ?_
      rw [← hR] at hst29
      refine ⟨rs.length - ((k + 1)), by omega, ?_⟩
      have hp30 := hst29.pick [3, 7, 6, 0, 1] (by decide) rfl
      exact ⟨(k + 1), A63_28, c63_28, [.pointer (some ⟨B7_13, 0, none⟩), (u20_.getD 0 undef), (u9_.getD 2 undef), .bool (decide ((k : Int) < (rs.length : Int))), .func (.func 100) #[] #[.pointer (some ⟨B4_2, 0, none⟩)], .int .i64 u.1, .agg #[.int .i64 u.1, .int .i64 0, .string ByteArray.empty], .pointer (some ⟨B7_13, 0, none⟩), .int .i64 u.1, .bool true, .tuple #[], .pointer (some ⟨B7_13, 0, none⟩), .int .i64 u.1, .bool (u.1 == 1), .bool (u.1 == 1), .func (.func 98) #[] #[.pointer (some ⟨B1_1, 0, none⟩)], .string ((putS u.2.1 8)), .slice ((some ⟨B35_19, 0, none⟩)) (((putS u.2.1 8)).size) (((putS u.2.1 8)).size + c35_19), .int .i64 ((((putS u.2.1 8)).size : Int)), .int .i64 (((8 : Nat) : Int)), .bool (decide (((8 : Nat) : Int) < (((putS u.2.1 8)).size : Int))), (u20_.getD 2 undef), (u20_.getD 3 undef), (u20_.getD 4 undef), (u20_.getD 5 undef), (u20_.getD 6 undef), (u20_.getD 7 undef), (u20_.getD 8 undef), (u20_.getD 9 undef), (u20_.getD 10 undef), (u20_.getD 11 undef), (u9_.getD 31 undef), (u9_.getD 32 undef), (u9_.getD 33 undef), (u9_.getD 34 undef), (u9_.getD 35 undef), (u9_.getD 36 undef), (u9_.getD 37 undef), (u9_.getD 38 undef), (u9_.getD 39 undef), (u9_.getD 40 undef), (u9_.getD 41 undef), .slice RA k RC, .agg #[.int .i64 u.1, .int .i64 u.2.1, .string ByteArray.empty], .slice ((some ⟨B62_28, 0, none⟩)) 1 1, .slice A63_28 (k + 1) c63_28, .int .i64 ((k : Int) + 1)], by omega, rfl, rfl, hp30⟩
    have hs18p : u.1 ≠ 1 := by simpa using hs18
    refine wp_cond_false (show Act.eval _ _ = .bool false from (congrArg Value.bool hs18)) ?_
    refine wp_seq ?_
    refine wp_region_P [0, 1] [.k 50 (.bool (u.1 == 2)), .k 49 (.bool (u.1 == 2))] [(49, 1, 1, 50), (0, 0, 1, 1)] hst17 fun W31 hst31 => ?_
    refine then_normal ?_
    rcases Bool.eq_false_or_eq_true (u.1 == 2) with hs32 | hs32
    · skip
      have hs32p : u.1 = 2 := by simpa using hs32
      refine wp_cond_true (show Act.eval _ _ = .bool true from (congrArg Value.bool hs32)) ?_
      refine wp_seq ?_
      have hs2 : u.2.2.size ≤ 40 := hpu.2.2 (by assumption)
      obtain ⟨h2, hh2⟩ : ∃ z, UInt8.ofNat ((u.2.2.size : Nat) : Int).toNat = z := ⟨_, rfl⟩
      have hv2 : ((h2.toNat : Nat) : Int) = (u.2.2.size : Int) := by rw [← hh2]; exact u8_int (by omega)
      have h8 : TB = h2 :: u.2.2.data.toList := by rw [← hTB, tailB, if_neg (by assumption), if_pos (by assumption), hh2]
      rw [h8, List.cons_append] at hst31
      refine wp_region_T [0, 1, 3] [[], [4, 3]] [[], [6]] [[], [4]] [.k 51 (.func (.func 100) #[] #[.pointer (some ⟨B4_2, 0, none⟩)]), .a 52, .c 10 (.int .i64 ((u.2.2.size : Int)))] (fun ix σ β X => match ix with | 0 => True | 1 => σ 52 = .int .i64 ((u.2.2.size : Int)) ∧ X 6 = eB B1_1 9 #[.string (strL (u.2.2.data.toList ++ R))] | _ => True) [0, 1, 2, 3, 5, 6] [1, 2] [(10, 2, 1, 11), (40, 0, 2, 42)] hst31 ?_ ?_ ?_
      · exact fun ix _ _ _ _ _ _ hs hb hx h => match ix, h with
        | 1, h => by dsimp only at h ⊢; rw [← hs 52 rfl, ← hx 6 rfl]; exact h
        | 0, _ | _ + 2, _ => trivial
      · refine ⟨?_, ?_, trivial⟩
        · refine sv_any rfl rfl fun ρ β W X cx => ?_
          refine DoesU.call (run_callV (f := 100) (args := #[]) (args' := #[.pointer (some ⟨B4_2, 0, none⟩)]) rfl rfl (cx.anc 0 rfl) (by kernel_rfl) map0 rfl) ?_
          refine (one_cons _ _ h2 ((u.2.2.data.toList ++ R)) _ (cx.blk (cx.init 4 _ rfl) rfl) (cx.blk (cx.init 3 _ rfl) rfl) (by have h_ := cx.ap 4 3 rfl rfl (by decide); rw [(cx.init 4 _ rfl), (cx.init 3 _ rfl)] at h_; intro e_; exact h_ _ (List.mem_singleton.2 rfl) (List.mem_singleton.2 e_))).mono ?_
          rintro e W1 ⟨rfl, hb1, hu⟩
          refine ⟨_, rfl, post_mut (cx.init 4 _ rfl) rfl rfl hu hb1 (fun σ β' X' hs hb hv hx => ?_)⟩
          exact ⟨(hv 52 rfl).1.trans (congrArg (Value.int .i64) hv2), hx⟩
        · exact s4 rfl (fun _ _ _ h => h) fun cx => run_assign' rfl (dTn (cx.anc 1 rfl)).1
      intro σ β X W33 hD hX hst33 fr hfr
      simp only [zM, exq 0 (hX 0 _ rfl), exq 1 (hX 1 _ rfl), exq 2 (hX 2 _ rfl), exq 3 (hX 3 _ rfl), exq 5 (hX 5 _ rfl), exq 6 ((dTn (hD 1 lq)).2)] at hst33
      dsimp only [mgT, vals, List.take, List.drop, List.cons_append, List.nil_append] at hfr
      simp only [ed 52 ((dTn (hD 1 lq)).1)] at hfr
      clear hX hD; subst hfr; clear σ β X
      refine then_normal ?_
      refine wp_seq ?_
      have hd35 : (decide ((u.2.2.size : Int) ≤ 40)) = true := decide_eq_true (by omega)
      refine wp_region_T [0, 1, 3] [] [] [] [.k 53 (.int .i64 ((u.2.2.size : Int))), .e 54 (.bool (decide ((u.2.2.size : Int) ≤ 40))) (.bool true) (congrArg Value.bool hd35), .c 55 (.tuple #[])] (fun _ _ _ _ => True) [0, 1, 2, 3, 4, 5] [2] [(53, 0, 3, 56)] hst33 ?_ ?_ ?_
      · exact fun _ _ _ _ _ _ _ _ _ _ h => h
      · refine ⟨?_, trivial⟩
        · exact sv_call rfl rfl rfl rfl rfl (fun _ _ _ h => h) fun ρ β W X cx => ⟨_, _, run_callF (args := #[.bool true, .int .i64 2]) rfl cx.sees rfl (by kernel_rfl) (map2 (cx.anc 1 rfl) (cx.sees.const _)), must_true _ _⟩
      intro σ β X W34 hD hX hst34 fr hfr
      simp only [zM, exq 0 (hX 0 _ rfl), exq 1 (hX 1 _ rfl), exq 2 (hX 2 _ rfl), exq 3 (hX 3 _ rfl), exq 4 (hX 4 _ rfl), exq 5 (hX 5 _ rfl)] at hst34
      dsimp only [mgT, vals, List.take, List.drop, List.cons_append, List.nil_append] at hfr
      clear hX hD; subst hfr; clear σ β X
      refine then_normal ?_
      refine wp_region_T [0, 0, 3, 7, 15] [[3], [], [5], [], [4]] [[], [], [6], [], [7]] [[], [], [5], [], [4]] [.c 56 (.func (.func 98) #[] #[.pointer (some ⟨B1_1, 0, none⟩)]), .k 57 (.int .i64 ((u.2.2.size : Int))), .a 58, .k 59 (.pointer (some ⟨B7_13, 2, none⟩)), .n] (fun ix σ β X => match ix with | 0 => True | 1 => True | 2 => σ 58 = .string u.2.2 ∧ X 6 = eB B1_1 9 #[.string (strL R)] | 3 => True | 4 => X 7 = eB B7_13 103 #[.int .i64 u.1, .int .i64 0, .string u.2.2] | _ => True) [0, 1, 2, 3, 6, 7] [0, 2, 4] [(56, 0, 4, 60)] hst34 ?_ ?_ ?_
      · exact fun ix _ _ _ _ _ _ hs hb hx h => match ix, h with
        | 2, h => by dsimp only at h ⊢; rw [← hs 58 rfl, ← hx 6 rfl]; exact h
        | 4, h => by dsimp only at h ⊢; rw [← hx 7 rfl]; exact h
        | 0, _ | 1, _ | 3, _ | _ + 5, _ => trivial
      · refine ⟨?_, ?_, ?_, trivial⟩
        · exact s4 rfl (fun _ _ _ h => h) fun cx => run_load1 rfl (by kernel_rfl) (cx.out 4 rfl) ((cx.blk (cx.init 3 _ rfl) rfl).cell 0)
        · refine sv_any rfl rfl fun ρ β W X cx => ?_
          refine DoesU.call (run_callV (f := 98) (args := #[.int .i64 ((u.2.2.size : Int))]) (args' := #[.int .i64 ((u.2.2.size : Int)), .pointer (some ⟨B1_1, 0, none⟩)]) rfl rfl (cx.anc 0 rfl) (by kernel_rfl) (map1 (cx.anc 1 rfl)) rfl) ?_
          refine (take_app u.2.2.size B1_1 (u.2.2.data.toList) R _ (cx.blk (cx.init 5 _ rfl) rfl) (by rw [Array.length_toList]; rfl)).mono ?_
          rintro e W1 ⟨rfl, hb1, hu⟩
          refine ⟨_, rfl, post_mut (cx.init 5 _ rfl) rfl rfl hu hb1 (fun σ β' X' hs hb hv hx => ?_)⟩
          exact ⟨(hv 58 rfl).1.trans (congrArg Value.string (strL_data _)), hx⟩
        · refine sv_any rfl rfl fun ρ β W X cx => ?_
          exact dv_store (n := 1) rfl (cx.anc 3 rfl) (dTn (cx.anc 2 rfl)).1 (by kernel_rfl) (by kernel_rfl) (by kernel_rfl) cx (cx.init 4 _ rfl) rfl (Nat.le_of_ble_eq_true rfl) (by kernel_rfl) rfl rfl rfl (fun σ β' X' hs hb hx => hx)
      intro σ β X W36 hD hX hst36 fr hfr
      simp only [zM, exq 0 (hX 0 _ rfl), exq 1 (hX 1 _ rfl), exq 2 (hX 2 _ rfl), exq 3 (hX 3 _ rfl), exq 6 ((dTn (hD 2 lq)).2), exq 7 ((dTn (hD 4 lq)))] at hst36
      dsimp only [mgT, vals, List.take, List.drop, List.cons_append, List.nil_append] at hfr
      simp only [ed 58 ((dTn (hD 2 lq)).1)] at hfr
      clear hX hD; subst hfr; clear σ β X
      refine blk_normal ?_
      refine then_normal ?_
      refine wp_region_T [0, 0, 2, 7, 15] [[0], [5], [], [6, 1], [0]] [[], [], [6], [7], [8]] [[], [], [], [1], [0]] [.c 60 (.slice RA k RC), .c 61 (.agg #[.int .i64 u.1, .int .i64 0, .string u.2.2]), .a 62, .a 63, .n] (fun ix σ β X => match ix with | 0 => True | 1 => True | 2 => σ 62 = .slice ((some ⟨(pb' (β 62)), 0, none⟩)) 1 1 ∧ X 6 = eO 103 3 (.slice ((some ⟨(pb' (β 62)), 0, none⟩)) 1 1) 1 ([.int .i64 u.1, .int .i64 0, .string u.2.2]) | 3 => σ 63 = .slice (sA (β 63)) (k + 1) (sC (β 63)) ∧ X 7 = eO 103 3 (.slice (sA (β 63)) (k + 1) (sC (β 63))) (k + 1) (flatR (plainR (rs.take (k + 1)))) | 4 => X 8 = eB B2_1 25 #[.slice (sA (β 63)) (k + 1) (sC (β 63))] | _ => True) [2, 3, 4, 5, 6, 7, 8] [0, 1, 2, 3, 4] [(60, 0, 4, 64)] hst36 ?_ ?_ ?_
      · exact fun ix _ _ _ _ _ _ hs hb hx h => match ix, h with
        | 2, h => by dsimp only at h ⊢; rw [← hs 62 rfl, ← hb 62 rfl, ← hx 6 rfl]; exact h
        | 3, h => by dsimp only at h ⊢; rw [← hs 63 rfl, ← hb 63 rfl, ← hx 7 rfl]; exact h
        | 4, h => by dsimp only at h ⊢; rw [← hb 63 rfl, ← hx 8 rfl]; exact h
        | 0, _ | 1, _ | _ + 5, _ => trivial
      · refine ⟨?_, ?_, ?_, ?_, ?_, trivial⟩
        · exact s4 rfl (fun _ _ _ h => h) fun cx => run_load1 rfl (by kernel_rfl) (cx.out 2 rfl) ((cx.blk (cx.init 0 _ rfl) rfl).cell 0)
        · exact s4 rfl (fun _ _ _ h => h) fun cx => run_loadB (n := 3) rfl (by kernel_rfl) (by kernel_rfl) (cx.out 7 rfl) (cx.blk (cx.init 5 _ rfl) rfl) (Nat.le_of_ble_eq_true rfl) rfl
        · refine sv_any rfl rfl fun ρ β W X cx => ?_
          have fF61 : ρ (.tmp 61) = .agg #[.int .i64 u.1, .int .i64 0, .string u.2.2] := (cx.anc 1 rfl)
          exact dv_litN (e := 103) (sz := 3) (xs := [.int .i64 u.1, .int .i64 0, .string u.2.2]) rfl (by simp [go_sem, fF61]) rfl (by decide) rfl rfl (fun σ β' X' hs hb hv hx => ⟨hv, hx⟩)
        · refine sv_any rfl rfl fun ρ β W X cx => ?_
          obtain ⟨i0, hi0, hz0, hz1, hz2⟩ := info_parts Tryd.infoVal
          refine dv_appendN (n := k) (m := 1) (nm := k + 1) (sz := 3) (xs := flatR (plainR (rs.take k))) (news := [.int .i64 u.1, .int .i64 0, .string u.2.2]) (xs' := flatR (plainR (rs.take (k + 1)))) rfl (ty := 25) rfl (by kernel_rfl) hi0 hz0 hz1 hz2 rfl (by decide) (cx.anc 0 rfl) cx (cx.init 1 _ rfl) rfl (dTn (cx.anc 2 rfl)).1 (by rfl) (At.of_ownN (cx.row (dTn (cx.anc 2 rfl)).2 rfl)) (by simp [Value.oneCell']) (by simp only [maxLen]; omega) (by omega) rfl rfl rfl (by omega) (plain_snoc (by omega) (by rw [hu]; simp [cellsV, plainV, *])) (fun σ β' X' hs hb hv hx => ?_)
          exact ⟨hv, hx⟩
        · refine sv_any rfl rfl fun ρ β W X cx => ?_
          exact dv_store (n := 1) rfl (cx.out 2 rfl) (dTn (cx.anc 3 rfl)).1 (by kernel_rfl) (by kernel_rfl) (by kernel_rfl) cx (cx.init 0 _ rfl) rfl (Nat.le_of_ble_eq_true rfl) (by kernel_rfl) rfl rfl rfl (fun σ β' X' hs hb hx => by rw [hb 63]; exact hx)
      intro σ β X W37 hD hX hst37 fr hfr
      obtain ⟨B62_37, hu_B62_37⟩ : ∃ z, pb' (β 62) = z := ⟨_, rfl⟩
      obtain ⟨A63_37, hu_A63_37⟩ : ∃ z, sA (β 63) = z := ⟨_, rfl⟩
      obtain ⟨c63_37, hu_c63_37⟩ : ∃ z, sC (β 63) = z := ⟨_, rfl⟩
      simp only [zM, exq 2 (hX 2 _ rfl), exq 3 (hX 3 _ rfl), exq 4 (hX 4 _ rfl), exq 5 (hX 5 _ rfl), exq 6 ((dTn (hD 2 lq)).2), exq 7 ((dTn (hD 3 lq)).2), exq 8 ((dTn (hD 4 lq))), hu_B62_37, hu_A63_37, hu_c63_37] at hst37
      dsimp only [mgT, vals, List.take, List.drop, List.cons_append, List.nil_append] at hfr
      simp only [ed 62 ((dTn (hD 2 lq)).1), ed 63 ((dTn (hD 3 lq)).1), hu_B62_37, hu_A63_37, hu_c63_37] at hfr
      clear hX hD hu_B62_37 hu_A63_37 hu_c63_37; subst hfr; clear σ β X
      refine blk_normal ?_
      refine then_normal ?_
      refine wp_region_P [0, 1] [tI 64 ((k : Int) + 1) (by omega), .k 20 (.int .i64 ((k : Int) + 1))] [(20, 1, 1, 21), (43, 0, 1, 44)] hst37 fun W38 hst38 => ?_
      refine then_normal ?_
      rw [← hR] at hst38
      refine ⟨rs.length - ((k + 1)), by omega, ?_⟩
      have hp39 := hst38.pick [2, 6, 5, 0, 1] (by decide) rfl
      exact ⟨(k + 1), A63_37, c63_37, [.pointer (some ⟨B7_13, 0, none⟩), (u9_.getD 1 undef), .int .i64 ((u.2.2.size : Int)), .bool (decide ((k : Int) < (rs.length : Int))), .func (.func 100) #[] #[.pointer (some ⟨B4_2, 0, none⟩)], .int .i64 u.1, .agg #[.int .i64 u.1, .int .i64 0, .string ByteArray.empty], .pointer (some ⟨B7_13, 0, none⟩), .int .i64 u.1, .bool true, .tuple #[], .pointer (some ⟨B7_13, 0, none⟩), .int .i64 u.1, .bool (u.1 == 1), .bool (u.1 == 1), (u9_.getD 15 undef), (u9_.getD 16 undef), (u9_.getD 17 undef), (u9_.getD 18 undef), (u9_.getD 19 undef), (u9_.getD 20 undef), (u9_.getD 21 undef), (u9_.getD 22 undef), (u9_.getD 23 undef), (u9_.getD 24 undef), (u9_.getD 25 undef), (u9_.getD 26 undef), (u9_.getD 27 undef), (u9_.getD 28 undef), (u9_.getD 29 undef), (u9_.getD 30 undef), .bool (u.1 == 2), .bool (u.1 == 2), .func (.func 100) #[] #[.pointer (some ⟨B4_2, 0, none⟩)], .int .i64 ((u.2.2.size : Int)), .int .i64 ((u.2.2.size : Int)), .bool true, .tuple #[], .func (.func 98) #[] #[.pointer (some ⟨B1_1, 0, none⟩)], .int .i64 ((u.2.2.size : Int)), .string u.2.2, .pointer (some ⟨B7_13, 2, none⟩), .slice RA k RC, .agg #[.int .i64 u.1, .int .i64 0, .string u.2.2], .slice ((some ⟨B62_37, 0, none⟩)) 1 1, .slice A63_37 (k + 1) c63_37, .int .i64 ((k : Int) + 1)], by omega, rfl, rfl, hp39⟩
    have hs32p : u.1 ≠ 2 := by simpa using hs32
    refine wp_cond_false (show Act.eval _ _ = .bool false from (congrArg Value.bool hs32)) ?_
    refine wp_skip ?_
    refine blk_normal ?_
    refine then_normal ?_
    have h8 : TB = [] := by rw [← hTB, tailB, if_neg (by assumption), if_neg (by assumption)]
    rw [h8, List.nil_append] at hst31
    refine wp_region_T [0, 0, 2, 7, 15] [[0], [5], [], [6, 1], [0]] [[], [], [6], [7], [8]] [[], [], [], [1], [0]] [.c 60 (.slice RA k RC), .c 61 (.agg #[.int .i64 u.1, .int .i64 0, .string ByteArray.empty]), .a 62, .a 63, .n] (fun ix σ β X => match ix with | 0 => True | 1 => True | 2 => σ 62 = .slice ((some ⟨(pb' (β 62)), 0, none⟩)) 1 1 ∧ X 6 = eO 103 3 (.slice ((some ⟨(pb' (β 62)), 0, none⟩)) 1 1) 1 ([.int .i64 u.1, .int .i64 0, .string ByteArray.empty]) | 3 => σ 63 = .slice (sA (β 63)) (k + 1) (sC (β 63)) ∧ X 7 = eO 103 3 (.slice (sA (β 63)) (k + 1) (sC (β 63))) (k + 1) (flatR (plainR (rs.take (k + 1)))) | 4 => X 8 = eB B2_1 25 #[.slice (sA (β 63)) (k + 1) (sC (β 63))] | _ => True) [2, 3, 4, 5, 6, 7, 8] [0, 1, 2, 3, 4] [(60, 0, 4, 64)] hst31 ?_ ?_ ?_
    · exact fun ix _ _ _ _ _ _ hs hb hx h => match ix, h with
      | 2, h => by dsimp only at h ⊢; rw [← hs 62 rfl, ← hb 62 rfl, ← hx 6 rfl]; exact h
      | 3, h => by dsimp only at h ⊢; rw [← hs 63 rfl, ← hb 63 rfl, ← hx 7 rfl]; exact h
      | 4, h => by dsimp only at h ⊢; rw [← hb 63 rfl, ← hx 8 rfl]; exact h
      | 0, _ | 1, _ | _ + 5, _ => trivial
    · refine ⟨?_, ?_, ?_, ?_, ?_, trivial⟩
      · exact s4 rfl (fun _ _ _ h => h) fun cx => run_load1 rfl (by kernel_rfl) (cx.out 2 rfl) ((cx.blk (cx.init 0 _ rfl) rfl).cell 0)
      · exact s4 rfl (fun _ _ _ h => h) fun cx => run_loadB (n := 3) rfl (by kernel_rfl) (by kernel_rfl) (cx.out 7 rfl) (cx.blk (cx.init 5 _ rfl) rfl) (Nat.le_of_ble_eq_true rfl) rfl
      · refine sv_any rfl rfl fun ρ β W X cx => ?_
        have fF61 : ρ (.tmp 61) = .agg #[.int .i64 u.1, .int .i64 0, .string ByteArray.empty] := (cx.anc 1 rfl)
        exact dv_litN (e := 103) (sz := 3) (xs := [.int .i64 u.1, .int .i64 0, .string ByteArray.empty]) rfl (by simp [go_sem, fF61]) rfl (by decide) rfl rfl (fun σ β' X' hs hb hv hx => ⟨hv, hx⟩)
      · refine sv_any rfl rfl fun ρ β W X cx => ?_
        obtain ⟨i0, hi0, hz0, hz1, hz2⟩ := info_parts Tryd.infoVal
        refine dv_appendN (n := k) (m := 1) (nm := k + 1) (sz := 3) (xs := flatR (plainR (rs.take k))) (news := [.int .i64 u.1, .int .i64 0, .string ByteArray.empty]) (xs' := flatR (plainR (rs.take (k + 1)))) rfl (ty := 25) rfl (by kernel_rfl) hi0 hz0 hz1 hz2 rfl (by decide) (cx.anc 0 rfl) cx (cx.init 1 _ rfl) rfl (dTn (cx.anc 2 rfl)).1 (by rfl) (At.of_ownN (cx.row (dTn (cx.anc 2 rfl)).2 rfl)) (by simp [Value.oneCell']) (by simp only [maxLen]; omega) (by omega) rfl rfl rfl (by omega) (plain_snoc (by omega) (by rw [hu]; simp [cellsV, plainV, *])) (fun σ β' X' hs hb hv hx => ?_)
        exact ⟨hv, hx⟩
      · refine sv_any rfl rfl fun ρ β W X cx => ?_
        exact dv_store (n := 1) rfl (cx.out 2 rfl) (dTn (cx.anc 3 rfl)).1 (by kernel_rfl) (by kernel_rfl) (by kernel_rfl) cx (cx.init 0 _ rfl) rfl (Nat.le_of_ble_eq_true rfl) (by kernel_rfl) rfl rfl rfl (fun σ β' X' hs hb hx => by rw [hb 63]; exact hx)
    intro σ β X W40 hD hX hst40 fr hfr
    obtain ⟨B62_40, hu_B62_40⟩ : ∃ z, pb' (β 62) = z := ⟨_, rfl⟩
    obtain ⟨A63_40, hu_A63_40⟩ : ∃ z, sA (β 63) = z := ⟨_, rfl⟩
    obtain ⟨c63_40, hu_c63_40⟩ : ∃ z, sC (β 63) = z := ⟨_, rfl⟩
    simp only [zM, exq 2 (hX 2 _ rfl), exq 3 (hX 3 _ rfl), exq 4 (hX 4 _ rfl), exq 5 (hX 5 _ rfl), exq 6 ((dTn (hD 2 lq)).2), exq 7 ((dTn (hD 3 lq)).2), exq 8 ((dTn (hD 4 lq))), hu_B62_40, hu_A63_40, hu_c63_40] at hst40
    dsimp only [mgT, vals, List.take, List.drop, List.cons_append, List.nil_append] at hfr
    simp only [ed 62 ((dTn (hD 2 lq)).1), ed 63 ((dTn (hD 3 lq)).1), hu_B62_40, hu_A63_40, hu_c63_40] at hfr
    clear hX hD hu_B62_40 hu_A63_40 hu_c63_40; subst hfr; clear σ β X
    refine blk_normal ?_
    refine then_normal ?_
    refine wp_region_P [0, 1] [tI 64 ((k : Int) + 1) (by omega), .k 20 (.int .i64 ((k : Int) + 1))] [(20, 1, 1, 21), (43, 0, 1, 44)] hst40 fun W41 hst41 => ?_
    refine then_normal ?_
    rw [← hR] at hst41
    refine ⟨rs.length - ((k + 1)), by omega, ?_⟩
    have hp42 := hst41.pick [2, 6, 5, 0, 1] (by decide) rfl
    exact ⟨(k + 1), A63_40, c63_40, [.pointer (some ⟨B7_13, 0, none⟩), (u9_.getD 1 undef), (u9_.getD 2 undef), .bool (decide ((k : Int) < (rs.length : Int))), .func (.func 100) #[] #[.pointer (some ⟨B4_2, 0, none⟩)], .int .i64 u.1, .agg #[.int .i64 u.1, .int .i64 0, .string ByteArray.empty], .pointer (some ⟨B7_13, 0, none⟩), .int .i64 u.1, .bool true, .tuple #[], .pointer (some ⟨B7_13, 0, none⟩), .int .i64 u.1, .bool (u.1 == 1), .bool (u.1 == 1), (u9_.getD 15 undef), (u9_.getD 16 undef), (u9_.getD 17 undef), (u9_.getD 18 undef), (u9_.getD 19 undef), (u9_.getD 20 undef), (u9_.getD 21 undef), (u9_.getD 22 undef), (u9_.getD 23 undef), (u9_.getD 24 undef), (u9_.getD 25 undef), (u9_.getD 26 undef), (u9_.getD 27 undef), (u9_.getD 28 undef), (u9_.getD 29 undef), (u9_.getD 30 undef), .bool (u.1 == 2), .bool (u.1 == 2), (u9_.getD 33 undef), (u9_.getD 34 undef), (u9_.getD 35 undef), (u9_.getD 36 undef), (u9_.getD 37 undef), (u9_.getD 38 undef), (u9_.getD 39 undef), (u9_.getD 40 undef), (u9_.getD 41 undef), .slice RA k RC, .agg #[.int .i64 u.1, .int .i64 0, .string ByteArray.empty], .slice ((some ⟨B62_40, 0, none⟩)) 1 1, .slice A63_40 (k + 1) c63_40, .int .i64 ((k : Int) + 1)], by omega, rfl, rfl, hp42⟩
  have hs12p : ¬ ((k : Int) < (rs.length : Int)) := by simpa using hs12
  refine wp_cond_false (show Act.eval _ _ = .bool false from (congrArg Value.bool hs12)) ?_
  refine wp_exit ?_
  refine then_exit ?_
  refine then_exit ?_
  refine blk_eq ?_
  refine then_normal ?_
  refine wp_seq ?_
  have hk_ : k = rs.length := by omega
  have hl_ : valsB (rs.drop k) = [] := by rw [hk_, List.drop_length]; rfl
  rw [hl_] at hst11
  have hd44 : ((strL []).toList == ((⟨#[]⟩ : ByteArray)).toList) = true := beq_self_eq_true (strL []).toList
  refine wp_region_T [0, 1, 3] [[0]] [] [] [.c 65 (.string (strL [])), .e 66 (.bool ((strL []).toList == ((⟨#[]⟩ : ByteArray)).toList)) (.bool true) (congrArg Value.bool hd44), .c 67 (.tuple #[])] (fun _ _ _ _ => True) [0, 1, 2, 3, 4] [0, 2] [(65, 0, 3, 68)] hst11 ?_ ?_ ?_
  · exact fun _ _ _ _ _ _ _ _ _ _ h => h
  · refine ⟨?_, ?_, trivial⟩
    · exact s4 rfl (fun _ _ _ h => h) fun cx => run_load1 rfl (by kernel_rfl) (cx.out 1 rfl) ((cx.blk (cx.init 0 _ rfl) rfl).cell 0)
    · exact sv_call rfl rfl rfl rfl rfl (fun _ _ _ h => h) fun ρ β W X cx => ⟨_, _, run_callF (args := #[.bool true, .int .i64 11]) rfl cx.sees rfl (by kernel_rfl) (map2 (cx.anc 1 rfl) (cx.sees.const _)), must_true _ _⟩
  intro σ β X W43 hD hX hst43 fr hfr
  simp only [zM, exq 0 (hX 0 _ rfl), exq 1 (hX 1 _ rfl), exq 2 (hX 2 _ rfl), exq 3 (hX 3 _ rfl), exq 4 (hX 4 _ rfl)] at hst43
  dsimp only [mgT, vals, List.take, List.drop, List.cons_append, List.nil_append] at hfr
  clear hX hD; subst hfr; clear σ β X
  refine then_normal ?_
  refine wp_seq ?_
  refine wp_region_T [0, 1, 3] [[1], [1], [3]] [[], [5], [6]] [[], [1], [3]] [.c 68 (.slice RA k RC), .n, .n] (fun ix σ β X => match ix with | 0 => True | 1 => X 5 = eB B2_1 25 #[.slice RA k RC] | 2 => X 6 = eB B3_1 32 #[.int .i64 0] | _ => True) [0, 2, 4, 5, 6] [0, 1, 2] [(68, 0, 1, 69)] hst43 ?_ ?_ ?_
  · exact fun ix _ _ _ _ _ _ hs hb hx h => match ix, h with
    | 1, h => by dsimp only at h ⊢; rw [← hx 5 rfl]; exact h
    | 2, h => by dsimp only at h ⊢; rw [← hx 6 rfl]; exact h
    | 0, _ | _ + 3, _ => trivial
  · refine ⟨?_, ?_, ?_, trivial⟩
    · exact s4 rfl (fun _ _ _ h => h) fun cx => run_load1 rfl (by kernel_rfl) (cx.out 2 rfl) ((cx.blk (cx.init 1 _ rfl) rfl).cell 0)
    · refine sv_any rfl rfl fun ρ β W X cx => ?_
      exact dv_store (n := 1) rfl (cx.out 2 rfl) (cx.anc 0 rfl) (by kernel_rfl) (by kernel_rfl) (by kernel_rfl) cx (cx.init 1 _ rfl) rfl (Nat.le_of_ble_eq_true rfl) (by kernel_rfl) rfl rfl rfl (fun σ β' X' hs hb hx => hx)
    · refine sv_any rfl rfl fun ρ β W X cx => ?_
      exact dv_store (n := 1) rfl (cx.out 3 rfl) (cx.sees.const _) (by kernel_rfl) (by kernel_rfl) (by kernel_rfl) cx (cx.init 3 _ rfl) rfl (Nat.le_of_ble_eq_true rfl) (by kernel_rfl) rfl rfl rfl (fun σ β' X' hs hb hx => hx)
  intro σ β X W45 hD hX hst45 fr hfr
  simp only [zM, exq 0 (hX 0 _ rfl), exq 2 (hX 2 _ rfl), exq 4 (hX 4 _ rfl), exq 5 ((dTn (hD 1 lq))), exq 6 ((dTn (hD 2 lq)))] at hst45
  dsimp only [mgT, vals, List.take, List.drop, List.cons_append, List.nil_append] at hfr
  clear hX hD; subst hfr; clear σ β X
  refine then_normal ?_
  refine wp_ret ?_
  have c2 := (hst45.blk 3 rfl).cell 0
  have c3 := (hst45.blk 4 rfl).cell 0
  refine leaves_cons (f := 97) (args := #[.pointer (some ⟨B2_1, 0, none⟩), .pointer (some ⟨B3_1, 0, none⟩)]) (by simp) (by simp [go_sem]) ?_
  refine (catch_idle _ _ _).mono ?_
  rintro e u' w'' ⟨rfl, rfl, rfl⟩
  refine ⟨.tuple #[.slice RA k RC, .int .i64 0], ?_, ?_⟩
  · simp at c2 c3
    simp [results, Tryd.results54, go_sem, c2, c3]
  · have ho_ := hst45.own' 1 rfl
    rw [hk_, List.take_length] at ho_
    rw [hk_]
    exact ⟨_, _, rfl, ho_, hst45.ext⟩

end Go.Proofs.YtfjpglohcppjeaaDoor

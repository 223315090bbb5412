/- VacuumMapRow9: part 3 of the proof. -/
import Derived.Test.YtjnplglnnamfdaaGreatDoorZ2

set_option linter.unusedVariables false
set_option linter.unusedSimpArgs false
namespace Go.Proofs.YtjnplglnnamfdaaGreatDoor
section
open Go.RowKit
set_option linter.unusedVariables false
set_option linter.unusedSimpArgs false
theorem or_low {X b : Nat} (h : b < 256) : X * 256 ||| b = X * 256 + b := by
  have := Nat.shiftLeft_add_eq_or_of_lt (i := 8) (b := b) (by simpa using h) X
  rw [Nat.shiftLeft_eq] at this
  exact this.symm
theorem wrap_or {x b : Int} (hb : 0 ≤ b ∧ b < 256) : IntKind.i64.wrap ((BitVec.ofInt IntKind.i64.bits (IntKind.i64.wrap (IntKind.i64.wrap x * 2 ^ 8)) ||| BitVec.ofInt IntKind.i64.bits b).toNat : Int) = IntKind.i64.wrap (x * 256 + b) := by
  show IntKind.i64.wrap ((BitVec.ofInt 64 (IntKind.i64.wrap (IntKind.i64.wrap x * 2 ^ 8)) ||| BitVec.ofInt 64 b).toNat : Int) = _
  rw [BitVec.toNat_or, BitVec.toNat_ofInt, BitVec.toNat_ofInt]
  have e1 : ((IntKind.i64.wrap (IntKind.i64.wrap x * 2 ^ 8)) % ((2 ^ 64 : Nat) : Int)).toNat = (x % 72057594037927936).toNat * 256 := by
    rw [IntKind.wrap_i64, IntKind.wrap_i64]
    have : ((2 ^ 64 : Nat) : Int) = 18446744073709551616 := by decide
    rw [this]
    omega
  have e2 : (b % ((2 ^ 64 : Nat) : Int)).toNat = b.toNat := by
    have : ((2 ^ 64 : Nat) : Int) = 18446744073709551616 := by decide
    rw [this]; omega
  rw [e1, e2, or_low (by omega), IntKind.wrap_i64, IntKind.wrap_i64]
  omega
def accN (N : Int) (j : Nat) : Int := IntKind.i64.wrap (IntKind.u64.wrap N / 256 ^ (8 - j))
theorem u64_bd (N : Int) : 0 ≤ IntKind.u64.wrap N ∧ IntKind.u64.wrap N < 18446744073709551616 := by rw [IntKind.wrap_u64]; omega
theorem acc_0 (N : Int) : accN N 0 = 0 := by
  have h := u64_bd N
  unfold accN
  rw [show IntKind.u64.wrap N / 256 ^ (8 - 0) = 0 by simp only [Nat.reduceSub, Int.reducePow]; omega]
  decide
theorem acc_8 {N : Int} (h : -9223372036854775808 ≤ N ∧ N ≤ 9223372036854775807) : accN N 8 = N := by
  unfold accN
  simp only [Nat.reduceSub, Int.reducePow, Int.ediv_one]
  rw [IntKind.wrap_u64, IntKind.wrap_i64]
  omega
theorem oct8_bd (N : Int) (j : Nat) : 0 ≤ (oct8 N).getD j 0 ∧ (oct8 N).getD j 0 < 256 := by
  unfold oct8
  rcases Nat.lt_or_ge j 8 with h | h
  · rcases (by omega : j = 0 ∨ j = 1 ∨ j = 2 ∨ j = 3 ∨ j = 4 ∨ j = 5 ∨ j = 6 ∨ j = 7) with rfl | rfl | rfl | rfl | rfl | rfl | rfl | rfl <;> simp only [List.getD_cons_zero, List.getD_cons_succ] <;> omega
  · rw [List.getD_eq_getElem?_getD, List.getElem?_eq_none (by simpa using h)]; simp
theorem acc_step (N : Int) {j : Nat} (hj : j < 8) : IntKind.i64.wrap ((BitVec.ofInt IntKind.i64.bits (IntKind.i64.wrap (accN N j * 2 ^ 8)) ||| BitVec.ofInt IntKind.i64.bits ((oct8 N).getD j 0)).toNat : Int) = accN N (j + 1) := by
  rw [accN, wrap_or (oct8_bd N j), accN]
  congr 1
  unfold oct8
  have h := u64_bd N
  generalize IntKind.u64.wrap N = u at *
  rcases (by omega : j = 0 ∨ j = 1 ∨ j = 2 ∨ j = 3 ∨ j = 4 ∨ j = 5 ∨ j = 6 ∨ j = 7) with rfl | rfl | rfl | rfl | rfl | rfl | rfl | rfl <;> simp only [List.getD_cons_zero, List.getD_cons_succ, Nat.reduceSub, Nat.reduceAdd, Int.reducePow] <;> omega
theorem bI_put (N : Int) : bI (putS N 8) = oct8 N := by
  unfold putS
  rw [show 8 - 8 = 0 from rfl, List.drop_zero]
  unfold bI strOfNums
  rw [List.toList_toArray, List.map_map]
  have : ∀ l : List Int, (∀ b ∈ l, 0 ≤ b ∧ b < 256) → l.map ((fun b : UInt8 => (b.toNat : Int)) ∘ fun n : Int => UInt8.ofNat n.toNat) = l := by
    intro l
    induction l with
    | nil => intro _; rfl
    | cons a l ih =>
      intro h
      rw [List.map_cons, ih fun b hb => h b (List.mem_cons_of_mem _ hb)]
      congr 1
      have := h a (List.mem_cons_self ..)
      show (((UInt8.ofNat a.toNat).toNat : Nat) : Int) = a
      rw [UInt8.toNat_ofNat']
      omega
  refine this _ fun b hb => ?_
  obtain ⟨j, hj⟩ := List.mem_iff_getElem?.1 hb
  have := oct8_bd N j
  rw [List.getD_eq_getElem?_getD, hj] at this
  exact this
theorem u8_int {x : Int} (h : 0 ≤ x ∧ x < 256) : (((UInt8.ofNat x.toNat).toNat : Nat) : Int) = x := by rw [UInt8.toNat_ofNat']; omega
theorem strL_data (x : ByteArray) : strL x.data.toList = x := by show ByteArray.mk x.data.toList.toArray = x; rw [Array.toArray_toList]
def plainV (v : Val) : Val := (v.1, if v.1 = 1 then v.2.1 else 0, if v.1 = 2 then v.2.2 else ByteArray.empty)
def tailB (v : Val) : List UInt8 := if v.1 = 1 then (putS v.2.1 8).data.toList else if v.1 = 2 then UInt8.ofNat ((v.2.2.size : Nat) : Int).toNat :: v.2.2.data.toList else []
abbrev valsB (rs : List Val) : List UInt8 := rs.flatMap valB
abbrev plainR (rs : List Val) : List Val := rs.map plainV
theorem valsB_at {rs : List Val} {k : Nat} (h : k < rs.length) : valsB (rs.drop k) = UInt8.ofNat (rs.getD k v0).1.toNat :: (tailB (rs.getD k v0) ++ valsB (rs.drop (k + 1))) := by
  rw [List.getD_eq_getElem?_getD, List.getElem?_eq_getElem h, Option.getD_some]
  rw [valsB, List.drop_eq_getElem_cons h, List.flatMap_cons]
  rfl
theorem plain_snoc {rs : List Val} {k : Nat} {c : List Value} (h : k < rs.length) (hc : cellsV (plainV (rs.getD k v0)) = c) : flatR (plainR (rs.take k)) ++ c = flatR (plainR (rs.take (k + 1))) := by
  rw [← hc, plainR, plainR, List.take_add_one, List.getElem?_eq_getElem h, List.getD_eq_getElem?_getD, List.getElem?_eq_getElem h, List.map_append, flatR, flatR, List.flatMap_append]
  congr 1
theorem vbytes_eq {rs : List Val} (h : rrightF rs = true) : vbytesF rs = strL (UInt8.ofNat ((rs.length : Nat) : Int).toNat :: valsB rs) := by
  rw [vbytesF, if_pos h, bytesTo, List.take_length]
theorem nilrowN {w0 W : World} {bor : List Nat} {L : List Ent} (h : St w0 bor L W) (e sz : Nat) : St w0 bor (L ++ [eO e sz (.slice none 0 0) 0 []]) W := by
  refine ⟨h.upd, fun x hx => ?_, ?_⟩
  · rcases List.mem_append.1 hx with hx | hx
    · exact h.ok x hx
    · rw [List.mem_singleton] at hx
      subst hx
      exact ⟨World.ownsRow_nil _ _ _ _, eO_loc _ _ _ _ _, fun k hk => by cases hk⟩
  · rw [List.pairwise_append]
    refine ⟨h.apart, List.pairwise_singleton _ _, fun a _ b hb => ?_⟩
    rw [List.mem_singleton] at hb
    subst hb
    exact fun k _ hk => by cases hk
section
variable {P : Program} {o : Oper} {ρ : Operand → Value} {W : World}
theorem run_shl {t t' : TypeId} {x y : Operand} {k k' : IntKind} {a b z : Int} (h : o.op = .binOp .shl t x y t') (hx : ρ x = .int k a) (hy : ρ y = .int k' b) (hb : 0 ≤ b) (hz : k.wrap (a * 2 ^ min b.toNat k.bits) = z) : (execOp ρ o).run P W = .ok (.value (.int k z)) W := by
  subst hz
  unfold execOp; rw [h]
  have : ¬ b < 0 := by omega
  simp [hx, hy, eqGuard, binOp, Op.shift, this]
theorem run_or {t t' : TypeId} {x y : Operand} {k : IntKind} {a b z : Int} (h : o.op = .binOp .or t x y t') (hx : ρ x = .int k a) (hy : ρ y = .int k b) (hz : k.wrap ((BitVec.ofInt k.bits a ||| BitVec.ofInt k.bits b).toNat : Int) = z) : (execOp ρ o).run P W = .ok (.value (.int k z)) W := by
  subst hz
  unfold execOp; rw [h]
  simp [hx, hy, eqGuard, binOp, Op.intBits]
end
theorem one_cons (b c : Nat) (a : UInt8) (l : List UInt8) (w : World) (hb : Blk w b 9 #[.string (strL (a :: l))]) (hc : Blk w c 161 #[.func (.func 201) #[] #[.pointer (some ⟨b, 0, none⟩)]]) (hne : b ≠ c) :
    Calls Tryz.prog 203 #[.pointer (some ⟨c, 0, none⟩)] w (TakePost b (.int .i64 ((a.toNat : Nat) : Int)) l w) := one1_any b c (a :: l) w hb hc hne (by simp)
theorem take_app (n b : Nat) (A R : List UInt8) (w : World) (hb : Blk w b 9 #[.string (strL (A ++ R))]) (hn : A.length = n) :
    Calls Tryz.prog 201 #[.int .i64 (n : Int), .pointer (some ⟨b, 0, none⟩)] w (TakePost b (.string (strL A)) R w) := by
  have h := take_any n b (A ++ R) w hb (by rw [List.length_append]; omega)
  rw [List.take_left' hn, List.drop_left' hn] at h
  exact h
def VReadPost (rs : List Val) (w : World) (e : Ending) (w' : World) : Prop := ∃ A c, e = .returned (.tuple #[.slice A rs.length c, .int .i64 0]) ∧ w'.ownsRow w.heap.size 45 3 (.slice A rs.length c) rs.length (flatR (plainR rs)) ∧ Ext w w'
set_option maxRecDepth 100000 in
set_option maxHeartbeats 8000000 in
theorem vread_any (rs : List Val) (h0 : UInt8) (w : World) (hr : rrightF rs = true) (hrN : ∀ v ∈ rs, v.1 = 1 → -9223372036854775808 ≤ v.2.1 ∧ v.2.1 ≤ 9223372036854775807) (hh0 : ((h0.toNat : Nat) : Int) = (rs.length : Int)) :
    Calls Tryz.prog 133 #[.string (strL (h0 :: valsB rs))] w (VReadPost rs w) := by
  have hl6 := rright_len hr
  go_enter_defers Tryz.func133, Tryz.ntmps133
  have hst0 := St.start w
  refine wp_seq (wp_region_Y [0, 0, 0] [] [[0], [1], [2]] [] [.a 1, .a 2, .a 3] (fun ix σ β X => match ix with | 0 => σ 1 = vp (pb (β 1)) ∧ X 0 = eB (pb (β 1)) 9 #[.string (strL (h0 :: valsB rs))] | 1 => σ 2 = vp (pb (β 2)) ∧ X 1 = eB (pb (β 2)) 39 #[.slice none 0 0] | 2 => σ 3 = vp (pb (β 3)) ∧ X 2 = eB (pb (β 3)) 57 #[vi 0] | _ => True) [0, 1, 2] [0, 1, 2] [(1, 0, 3, 4)] hst0 ?_ ?_ ?_)
  · exact fun ix _ _ _ _ _ _ hs hb hx h => match ix, h with
    | 0, h => by dsimp only at h ⊢; rw [← hs 1 rfl, ← hb 1 rfl, ← hx 0 rfl]; exact h
    | 1, h => by dsimp only at h ⊢; rw [← hs 2 rfl, ← hb 2 rfl, ← hx 1 rfl]; exact h
    | 2, h => by dsimp only at h ⊢; rw [← hs 3 rfl, ← hb 3 rfl, ← hx 2 rfl]; exact h
    | _ + 3, _ => trivial
  · refine ⟨?_, ?_, ?_, trivial⟩
    · refine sv_any rfl rfl fun ρ β W X cx => ?_
      exact dv_box (cs := #[.string (strL (h0 :: valsB rs))]) rfl (cx.ou 0) rfl rfl rfl (fun σ β' X' hs hb hv hx => ⟨hv, hx⟩)
    · refine sv_any rfl rfl fun ρ β W X cx => ?_
      exact dv_alloc (cs := #[.slice none 0 0]) rfl (by kernel_rfl) rfl rfl (fun σ β' X' hs hb hv hx => ⟨hv, hx⟩)
    · refine sv_any rfl rfl fun ρ β W X cx => ?_
      exact dv_alloc (cs := #[vi 0]) rfl (by kernel_rfl) rfl rfl (fun σ β' X' hs hb hv hx => ⟨hv, hx⟩)
  intro σ β X W1 hD hst1 fr hfr
  obtain ⟨B1_1, hu_B1_1⟩ : ∃ z, pb (β 1) = z := ⟨_, rfl⟩
  obtain ⟨B2_1, hu_B2_1⟩ : ∃ z, pb (β 2) = z := ⟨_, rfl⟩
  obtain ⟨B3_1, hu_B3_1⟩ : ∃ z, pb (β 3) = z := ⟨_, rfl⟩
  simp only [exq 0 ((dTn (hD 0 lq)).2), exq 1 ((dTn (hD 1 lq)).2), exq 2 ((dTn (hD 2 lq)).2), hu_B1_1, hu_B2_1, hu_B3_1] at hst1
  simp only [ed 1 ((dTn (hD 0 lq)).1), ed 2 ((dTn (hD 1 lq)).1), ed 3 ((dTn (hD 2 lq)).1), hu_B1_1, hu_B2_1, hu_B3_1] at hfr
  clear hD hu_B1_1 hu_B2_1 hu_B3_1; subst hfr; clear σ β X
  refine then_normal (wp_seq ?_)
  refine wp_mkdefer (v := .func (.func 200) #[] #[vp B2_1, vp B3_1]) (d := { target := .fn (.func 200) #[vp B2_1, vp B3_1], args := #[] }) rfl rfl (by simp [go_sem, Instr.makeFunc, Act.eval]) (by simp [go_sem, Act.eval, Act.put]) rfl ?_
  simp only [Act.put, List.setIfInBounds_toArray, List.set_cons_succ, List.set_cons_zero]
  refine then_normal (wp_seq (wp_region_Y [0, 0, 3] [[], [], [3]] [[], [3], [4]] [[], [], [3]] [.c 12 (.func (.func 201) #[] #[vp B1_1]), .a 4, .n] (fun ix σ β X => match ix with | 0 => True | 1 => σ 4 = vp (pb (β 4)) ∧ X 3 = eB (pb (β 4)) 161 #[.nilFunc] | 2 => X 4 = eB (pb (β 4)) 161 #[.func (.func 201) #[] #[vp B1_1]] | _ => True) [0, 1, 2, 4] [0, 1, 2] [(4, 1, 1, 5), (7, 0, 1, 8)] hst1 ?_ ?_ ?_))
  · exact fun ix _ _ _ _ _ _ hs hb hx h => match ix, h with
    | 1, h => by dsimp only at h ⊢; rw [← hs 4 rfl, ← hb 4 rfl, ← hx 3 rfl]; exact h
    | 2, h => by dsimp only at h ⊢; rw [← hb 4 rfl, ← hx 4 rfl]; exact h
    | 0, _ | _ + 3, _ => trivial
  · refine ⟨?_, ?_, ?_, trivial⟩
    · exact sv0 rfl rfl rfl rfl rfl (fun _ _ _ h => h) fun ρ β W X cx => by
        have fF1 : ρ (.tmp 1) = vp B1_1 := (cx.ou 1)
        simp [go_sem, Instr.makeFunc, fF1]
    · refine sv_any rfl rfl fun ρ β W X cx => ?_
      exact dv_alloc (cs := #[.nilFunc]) rfl (by kernel_rfl) rfl rfl (fun σ β' X' hs hb hv hx => ⟨hv, hx⟩)
    · refine sv_any rfl rfl fun ρ β W X cx => ?_
      exact dv_store (n := 1) rfl (dTn (cx.an 1)).1 (cx.an 0) (by kernel_rfl) (by kernel_rfl) (by kernel_rfl) cx (dTn (cx.an 1)).2 rfl (nle rfl) (by kernel_rfl) rfl rfl rfl (fun σ β' X' hs hb hx => by rw [hb 4]; exact hx)
  intro σ β X W2 hD hst2 fr hfr
  obtain ⟨B4_2, hu_B4_2⟩ : ∃ z, pb (β 4) = z := ⟨_, rfl⟩
  simp only [exq 4 ((dTn (hD 2 lq))), hu_B4_2] at hst2
  simp only [ed 4 ((dTn (hD 1 lq)).1), hu_B4_2] at hfr
  clear hD hu_B4_2; subst hfr; clear σ β X
  refine then_normal (wp_seq (wp_region_Z [0, 1] [] [.c 13 (.func (.func 203) #[] #[vp B4_2]), .k 5 (.func (.func 203) #[] #[vp B4_2])] [0, 1, 2, 3] [0] [(5, 1, 1, 6), (7, 0, 1, 8)] hst2 ?_ fun W3 hst3 => ?_))
  · refine ⟨?_, trivial⟩
    · exact sv0 rfl rfl rfl rfl rfl (fun _ _ _ h => h) fun ρ β W X cx => by
        have fF4 : ρ (.tmp 4) = vp B4_2 := (cx.ou 4)
        simp [go_sem, Instr.makeFunc, fF4]
  refine then_normal (wp_seq (wp_region_Y [0, 1, 3] [[], [0, 3]] [[], [4]] [[], [0]] [.k 14 (.func (.func 203) #[] #[vp B4_2]), .a 15, .c 6 (vi ((rs.length : Int)))] (fun ix σ β X => match ix with | 0 => True | 1 => σ 15 = vi ((rs.length : Int)) ∧ X 4 = eB B1_1 9 #[.string (strL (valsB rs))] | _ => True) [1, 2, 3, 4] [1, 2] [(6, 2, 1, 7), (7, 0, 2, 9)] hst3 ?_ ?_ ?_))
  · exact fun ix _ _ _ _ _ _ hs hb hx h => match ix, h with
    | 1, h => by dsimp only at h ⊢; rw [← hs 15 rfl, ← hx 4 rfl]; exact h
    | 0, _ | _ + 2, _ => trivial
  · refine ⟨?_, ?_, trivial⟩
    · refine sv_any rfl rfl fun ρ β W X cx => ?_
      refine DoesU.call (run_callV (f := 203) (args := #[]) (args' := #[vp B4_2]) rfl rfl (cx.an 0) (by kernel_rfl) map0 rfl) ?_
      refine (one_cons _ _ h0 (valsB rs) _ (cx.bi 0 rfl) (cx.bi 3 rfl) (by have h_ := cx.ap 0 3 rfl rfl (by decide); rw [(cx.init 0 _ rfl), (cx.init 3 _ rfl)] at h_; intro e_; exact h_ _ (List.mem_singleton.2 rfl) (List.mem_singleton.2 e_))).mono ?_
      rintro e W1 ⟨rfl, hb1, hu⟩
      refine ⟨_, rfl, post_mut (cx.init 0 _ rfl) rfl rfl hu hb1 (fun σ β' X' hs hb hv hx => ?_)⟩
      exact ⟨(hv 15 rfl).1.trans (congrArg (Value.int .i64) hh0), hx⟩
    · exact xs4 rfl id fun cx => run_assign' rfl (dTn (cx.an 1)).1
  intro σ β X W4 hD hst4 fr hfr
  simp only [exq 4 ((dTn (hD 1 lq)).2)] at hst4
  simp only [ed 15 ((dTn (hD 1 lq)).1)] at hfr
  clear hD; subst hfr; clear σ β X
  refine then_normal (wp_seq ?_)
  have hd6 : (decide ((rs.length : Int) ≤ 6)) = true := decide_eq_true (by omega)
  refine wp_region_Z [0, 1, 3] [] [.k 16 (vi ((rs.length : Int))), .e 17 (.bool (decide ((rs.length : Int) ≤ 6))) (.bool true) (congrArg Value.bool hd6), .c 18 (.tuple #[])] [0, 1, 2, 3] [2] [(16, 0, 3, 19)] hst4 ?_ fun W5 hst5 => ?_
  · refine ⟨?_, trivial⟩
    · exact xsc rfl id rfl rfl fun cx => ⟨_, must_true _ _, (map2 (cx.an 1) (cx.co _))⟩
  refine then_normal (wp_seq (wp_seq (wp_region_P [0, 0] [.k 19 (vi ((rs.length : Int))), .k 20 (vi 0)] [(19, 0, 2, 21)] hst5 fun W7 hst7 => ?_)))
  refine then_normal (wp_block ?_)
  have hn_8 := nilrowN hst7 45 3
  refine wp_loopN (fun mz az W => ∃ k : Nat, ∃ RA : Option Addr, ∃ RC : Nat, ∃ u9_ : List Value, k ≤ rs.length ∧ mz = rs.length - k ∧ az = ⟨#[.string (strL (h0 :: valsB rs)), vp B1_1, vp B2_1, vp B3_1, vp B4_2, .func (.func 203) #[] #[vp B4_2], vi ((rs.length : Int)), (gu u9_ 0), undef, (gu u9_ 1), (gu u9_ 2), .func (.func 200) #[] #[vp B2_1, vp B3_1], .func (.func 201) #[] #[vp B1_1], .func (.func 203) #[] #[vp B4_2], .func (.func 203) #[] #[vp B4_2], vi ((rs.length : Int)), vi ((rs.length : Int)), .bool true, .tuple #[], vi ((rs.length : Int)), vi ((k : Int)), (gu u9_ 3), (gu u9_ 4), (gu u9_ 5), (gu u9_ 6), (gu u9_ 7), (gu u9_ 8), (gu u9_ 9), (gu u9_ 10), (gu u9_ 11), (gu u9_ 12), (gu u9_ 13), (gu u9_ 14), (gu u9_ 15), (gu u9_ 16), (gu u9_ 17), (gu u9_ 18), (gu u9_ 19), (gu u9_ 20), (gu u9_ 21), (gu u9_ 22), (gu u9_ 23), (gu u9_ 24), (gu u9_ 25), (gu u9_ 26), (gu u9_ 27), (gu u9_ 28), (gu u9_ 29), (gu u9_ 30), (gu u9_ 31), (gu u9_ 32), (gu u9_ 33), (gu u9_ 34), (gu u9_ 35), (gu u9_ 36), (gu u9_ 37), (gu u9_ 38), (gu u9_ 39), (gu u9_ 40), (gu u9_ 41), (gu u9_ 42), (gu u9_ 43), (gu u9_ 44), (gu u9_ 45), (gu u9_ 46), undef, undef, undef, undef], [{ target := .fn (.func 200) #[vp B2_1, vp B3_1], args := #[] }]⟩ ∧ St w [] [eB B1_1 9 #[.string (strL (valsB (rs.drop k)))], eB B2_1 39 #[.slice RA k RC], eO 45 3 (.slice RA k RC) k (flatR (plainR (rs.take k))), eB B3_1 57 #[vi 0], eB B4_2 161 #[.func (.func 201) #[] #[vp B1_1]]] W) (rs.length - 0) ?_ ?_
  · -- the loop begins
    have hp10 := hn_8.pick [3, 0, 4, 1, 2] (by decide) rfl
    exact ⟨0, none, 0, [undef, undef, undef, undef, undef, undef, undef, undef, undef, undef, undef, undef, undef, undef, undef, undef, undef, undef, undef, undef, undef, undef, undef, undef, undef, undef, undef, undef, undef, undef, undef, undef, undef, undef, undef, undef, undef, undef, undef, undef, undef, undef, undef, undef, undef, undef, undef], by omega, rfl, rfl, hp10⟩
  rintro n9 a9 W9 ⟨k, RA, RC, u9_, hk, rfl, rfl, hst9⟩
  refine wp_seq (wp_region_P [0] [.k 21 (.bool (decide ((k : Int) < (rs.length : Int))))] [(21, 0, 1, 22)] hst9 fun W11 hst11 => ?_)
  refine then_normal (wp_seq ?_)
  rcases Bool.eq_false_or_eq_true (decide ((k : Int) < (rs.length : Int))) with hs12 | hs12
  · skip
    have hs12p : (k : Int) < (rs.length : Int) := by simpa using hs12
    refine wp_cond_true (show Act.eval _ _ = .bool true from (congrArg Value.bool hs12)) (wp_skip (then_normal (wp_seq (wp_block (wp_seq ?_)))))
    obtain ⟨u, hu⟩ : ∃ z, rs.getD k v0 = z := ⟨_, rfl⟩
    have hvu : vrightF u = true := by rw [← hu]; exact rright_at hr (by omega)
    have hpu := vright_parts hvu
    have hkn : knownF u.1 = true := by simp only [knownF, Bool.and_eq_true, decide_eq_true_eq]; omega
    have huN : u.1 = 1 → -9223372036854775808 ≤ u.2.1 ∧ u.2.1 ≤ 9223372036854775807 := by rw [← hu]; exact hrN _ (by rw [List.getD_eq_getElem?_getD, List.getElem?_eq_getElem (by omega), Option.getD_some]; exact List.getElem_mem _)
    obtain ⟨hd, hhd⟩ : ∃ z, UInt8.ofNat u.1.toNat = z := ⟨_, rfl⟩
    have hdv : ((hd.toNat : Nat) : Int) = u.1 := by rw [← hhd]; exact u8_int (by omega)
    obtain ⟨TB, hTB⟩ : ∃ z, tailB u = z := ⟨_, rfl⟩
    obtain ⟨R, hR⟩ : ∃ z, valsB (rs.drop (k + 1)) = z := ⟨_, rfl⟩
    have hl_ : valsB (rs.drop k) = hd :: (TB ++ R) := by rw [valsB_at (by omega), hu, hhd, hTB, hR]
    rw [hl_] at hst11
    refine wp_region_Y [0, 1, 3, 0, 15] [[], [0, 4], [], [], [6]] [[], [5], [], [6], [7]] [[], [0], [], [], [6]] [.k 22 (.func (.func 203) #[] #[vp B4_2]), .a 23, .c 24 (.agg #[vi u.1, vi 0, .string ByteArray.empty]), .a 7, .n] (fun ix σ β X => match ix with | 0 => True | 1 => σ 23 = vi u.1 ∧ X 5 = eB B1_1 9 #[.string (strL (TB ++ R))] | 2 => True | 3 => σ 7 = vp (pb (β 7)) ∧ X 6 = eB (pb (β 7)) 45 #[vi 0, vi 0, .string ByteArray.empty] | 4 => X 7 = eB (pb (β 7)) 45 #[vi u.1, vi 0, .string ByteArray.empty] | _ => True) [1, 2, 3, 4, 5, 7] [1, 2, 3, 4] [(7, 3, 1, 8), (14, 0, 3, 17)] hst11 ?_ ?_ ?_
    · exact fun ix _ _ _ _ _ _ hs hb hx h => match ix, h with
      | 1, h => by dsimp only at h ⊢; rw [← hs 23 rfl, ← hx 5 rfl]; exact h
      | 3, h => by dsimp only at h ⊢; rw [← hs 7 rfl, ← hb 7 rfl, ← hx 6 rfl]; exact h
      | 4, h => by dsimp only at h ⊢; rw [← hb 7 rfl, ← hx 7 rfl]; exact h
      | 0, _ | 2, _ | _ + 5, _ => trivial
    · refine ⟨?_, ?_, ?_, ?_, trivial⟩
      · refine sv_any rfl rfl fun ρ β W X cx => ?_
        refine DoesU.call (run_callV (f := 203) (args := #[]) (args' := #[vp B4_2]) rfl rfl (cx.an 0) (by kernel_rfl) map0 rfl) ?_
        refine (one_cons _ _ hd ((TB ++ R)) _ (cx.bi 0 rfl) (cx.bi 4 rfl) (by have h_ := cx.ap 0 4 rfl rfl (by decide); rw [(cx.init 0 _ rfl), (cx.init 4 _ rfl)] at h_; intro e_; exact h_ _ (List.mem_singleton.2 rfl) (List.mem_singleton.2 e_))).mono ?_
        rintro e W1 ⟨rfl, hb1, hu⟩
        refine ⟨_, rfl, post_mut (cx.init 0 _ rfl) rfl rfl hu hb1 (fun σ β' X' hs hb hv hx => ?_)⟩
        exact ⟨(hv 23 rfl).1.trans (congrArg (Value.int .i64) hdv), hx⟩
      · exact xs4 rfl id fun cx => run_buildL rfl (pmc (dTn (cx.an 1)).1 pmn) (by kernel_rfl)
      · refine sv_any rfl rfl fun ρ β W X cx => ?_
        exact dv_alloc (cs := #[vi 0, vi 0, .string ByteArray.empty]) rfl (by kernel_rfl) rfl rfl (fun σ β' X' hs hb hv hx => ⟨hv, hx⟩)
      · refine sv_any rfl rfl fun ρ β W X cx => ?_
        exact dv_store (n := 3) rfl (dTn (cx.an 3)).1 (cx.an 2) (by kernel_rfl) (by kernel_rfl) (by kernel_rfl) cx (dTn (cx.an 3)).2 rfl (nle rfl) (by kernel_rfl) rfl rfl rfl (fun σ β' X' hs hb hx => by rw [hb 7]; exact hx)
    intro σ β X W13 hD hst13 fr hfr
    obtain ⟨B7_13, hu_B7_13⟩ : ∃ z, pb (β 7) = z := ⟨_, rfl⟩
    simp only [exq 5 ((dTn (hD 1 lq)).2), exq 7 ((dTn (hD 4 lq))), hu_B7_13] at hst13
    simp only [ed 23 ((dTn (hD 1 lq)).1), ed 7 ((dTn (hD 3 lq)).1), hu_B7_13] at hfr
    clear hD hu_B7_13; subst hfr; clear σ β X
    refine then_normal (wp_seq ?_)
    have hd15 : (knownF u.1) = true := hkn
    refine wp_region_Z [0, 1, 3, 7] [[], [5]] [.k 25 (vp B7_13), .c 26 (vi u.1), .c 27 (.bool true), .c 28 (.tuple #[])] [0, 1, 2, 3, 4, 5] [1, 2, 3] [(25, 0, 4, 29)] hst13 ?_ fun W14 hst14 => ?_
    · refine ⟨?_, ?_, ?_, trivial⟩
      · exact xs4 rfl id fun cx => run_load1 rfl (by kernel_rfl) (cx.an 0) ((cx.bi 5 rfl).cell 0)
      · exact sv_call rfl rfl rfl rfl rfl (fun _ _ _ h => h.trans (congrArg Value.bool hd15)) fun ρ β W X cx => ⟨_, _, run_callF (args := #[vi u.1]) rfl cx.sees rfl (by kernel_rfl) (map1 (cx.an 1)), vknown_any u.1 _⟩
      · exact xsc rfl id rfl rfl fun cx => ⟨_, must_true _ _, (map2 (cx.an 2) (cx.co _))⟩
    refine then_normal (wp_seq (wp_seq (wp_region_Z [0, 1] [[], [5]] [.k 29 (vp B7_13), .c 30 (vi u.1)] [0, 1, 2, 3, 4, 5] [1] [(29, 0, 2, 31)] hst14 ?_ fun W16 hst16 => ?_)))
    · refine ⟨?_, trivial⟩
      · exact xs4 rfl id fun cx => run_load1 rfl (by kernel_rfl) (cx.an 0) ((cx.bi 5 rfl).cell 0)
    refine then_normal (wp_block (wp_seq (wp_region_P [0, 1] [.k 32 (.bool (u.1 == 1)), .k 31 (.bool (u.1 == 1))] [(31, 1, 1, 32), (0, 0, 1, 1)] hst16 fun W17 hst17 => ?_)))
    refine then_normal ?_
    rcases Bool.eq_false_or_eq_true (u.1 == 1) with hs18 | hs18
    · skip
      have hs18p : u.1 = 1 := by simpa using hs18
      refine wp_cond_true (show Act.eval _ _ = .bool true from (congrArg Value.bool hs18)) (wp_seq ?_)
      have h8 : TB = (putS u.2.1 8).data.toList := by rw [← hTB, tailB, if_pos (by assumption)]
      have hp8 : (putS u.2.1 8).size = 8 := putS_size _ 8 (by omega)
      rw [h8] at hst17
      refine wp_region_Y [0, 1, 3, 7, 0] [[3], [4]] [[], [6], [7]] [[], [4]] [.c 33 (.func (.func 201) #[] #[vp B1_1]), .a 34, .a 35, .c 36 (vi ((((putS u.2.1 8)).size : Int))), .k 37 (vi 0)] (fun ix σ β X => match ix with | 0 => True | 1 => σ 34 = .string ((putS u.2.1 8)) ∧ X 6 = eB B1_1 9 #[.string (strL R)] | 2 => σ 35 = .slice ((some ⟨(pb' (β 35)), 0, none⟩)) (((putS u.2.1 8)).size) (((putS u.2.1 8)).size + (sK (β 35))) ∧ X 7 = eW (pb' (β 35)) 5 (bI (putS u.2.1 8)) | _ => True) [0, 1, 2, 3, 5, 6, 7] [0, 1, 2, 3] [(33, 0, 5, 38)] hst17 ?_ ?_ ?_
      · exact fun ix _ _ _ _ _ _ hs hb hx h => match ix, h with
        | 1, h => by dsimp only at h ⊢; rw [← hs 34 rfl, ← hx 6 rfl]; exact h
        | 2, h => by dsimp only at h ⊢; rw [← hs 35 rfl, ← hb 35 rfl, ← hx 7 rfl]; exact h
        | 0, _ | _ + 3, _ => trivial
      · refine ⟨?_, ?_, ?_, ?_, trivial⟩
        · exact xs4 rfl id fun cx => run_load1 rfl (by kernel_rfl) (cx.ou 4) ((cx.bi 3 rfl).cell 0)
        · refine sv_any rfl rfl fun ρ β W X cx => ?_
          refine DoesU.call (run_callV (f := 201) (args := #[vi 8]) (args' := #[vi 8, vp B1_1]) rfl rfl (cx.an 0) (by kernel_rfl) (map1 (cx.co _)) rfl) ?_
          refine (take_app 8 B1_1 ((putS u.2.1 8).data.toList) R _ (cx.bi 4 rfl) (by rw [Array.length_toList]; exact putS_size _ 8 (by omega))).mono ?_
          rintro e W1 ⟨rfl, hb1, hu⟩
          refine ⟨_, rfl, post_mut (cx.init 4 _ rfl) rfl rfl hu hb1 (fun σ β' X' hs hb hv hx => ?_)⟩
          exact ⟨(hv 34 rfl).1.trans (congrArg Value.string (strL_data _)), hx⟩
        · refine sv_any rfl rfl fun ρ β W X cx => ?_
          exact dv_convS (e := 5) (s := (putS u.2.1 8)) rfl (by kernel_rfl) (by kernel_rfl) (by kernel_rfl) (dTn (cx.an 1)).1 rfl rfl (fun σ β' X' hs hb hv hx => ⟨hv, hx⟩)
        · exact xs4 rfl id fun cx => run_len_l (e := 5) rfl (by kernel_rfl) (dTn (cx.an 2)).1
      intro σ β X W19 hD hst19 fr hfr
      obtain ⟨B35_19, hu_B35_19⟩ : ∃ z, pb' (β 35) = z := ⟨_, rfl⟩
      obtain ⟨c35_19, hu_c35_19⟩ : ∃ z, sK (β 35) = z := ⟨_, rfl⟩
      simp only [exq 6 ((dTn (hD 1 lq)).2), exq 7 ((dTn (hD 2 lq)).2), hu_B35_19, hu_c35_19] at hst19
      simp only [ed 34 ((dTn (hD 1 lq)).1), ed 35 ((dTn (hD 2 lq)).1), hu_B35_19, hu_c35_19] at hfr
      clear hD hu_B35_19 hu_c35_19; subst hfr; clear σ β X
      refine then_normal (wp_block ?_)
      rw [show eB B7_13 45 #[vi u.1, vi 0, .string ByteArray.empty] = eB B7_13 45 #[vi u.1, vi (accN u.2.1 0), .string ByteArray.empty] from by rw [acc_0], bI_put] at hst19
      refine wp_loopN (fun mz az W => ∃ j : Nat, ∃ u20_ : List Value, j ≤ 8 ∧ mz = 8 - j ∧ az = ⟨#[.string (strL (h0 :: valsB rs)), vp B1_1, vp B2_1, vp B3_1, vp B4_2, .func (.func 203) #[] #[vp B4_2], vi ((rs.length : Int)), vp B7_13, undef, (gu u20_ 0), (gu u9_ 2), .func (.func 200) #[] #[vp B2_1, vp B3_1], .func (.func 201) #[] #[vp B1_1], .func (.func 203) #[] #[vp B4_2], .func (.func 203) #[] #[vp B4_2], vi ((rs.length : Int)), vi ((rs.length : Int)), .bool true, .tuple #[], vi ((rs.length : Int)), vi ((k : Int)), .bool (decide ((k : Int) < (rs.length : Int))), .func (.func 203) #[] #[vp B4_2], vi u.1, .agg #[vi u.1, vi 0, .string ByteArray.empty], vp B7_13, vi u.1, .bool true, .tuple #[], vp B7_13, vi u.1, .bool (u.1 == 1), .bool (u.1 == 1), .func (.func 201) #[] #[vp B1_1], .string ((putS u.2.1 8)), .slice ((some ⟨B35_19, 0, none⟩)) (((putS u.2.1 8)).size) (((putS u.2.1 8)).size + c35_19), vi ((((putS u.2.1 8)).size : Int)), vi ((j : Int)), (gu u20_ 1), (gu u20_ 2), (gu u20_ 3), (gu u20_ 4), (gu u20_ 5), (gu u20_ 6), (gu u20_ 7), (gu u20_ 8), (gu u20_ 9), (gu u20_ 10), (gu u20_ 11), (gu u9_ 31), (gu u9_ 32), (gu u9_ 33), (gu u9_ 34), (gu u9_ 35), (gu u9_ 36), (gu u9_ 37), (gu u9_ 38), (gu u9_ 39), (gu u9_ 40), (gu u9_ 41), (gu u9_ 42), (gu u9_ 43), (gu u9_ 44), (gu u9_ 45), (gu u9_ 46), undef, undef, undef, undef], [{ target := .fn (.func 200) #[vp B2_1, vp B3_1], args := #[] }]⟩ ∧ St w [] [eB B2_1 39 #[.slice RA k RC], eO 45 3 (.slice RA k RC) k (flatR (plainR (rs.take k))), eB B3_1 57 #[vi 0], eB B4_2 161 #[.func (.func 201) #[] #[vp B1_1]], eB B7_13 45 #[vi u.1, vi (accN u.2.1 j), .string ByteArray.empty], eB B1_1 9 #[.string (strL R)], eW B35_19 5 (oct8 u.2.1)] W) (8 - 0) ?_ ?_
      · -- the loop begins
        have hp21 := hst19.pick [0, 1, 2, 3, 4, 5, 6] (by decide) rfl
        exact ⟨0, [(gu u9_ 1), (gu u9_ 20), (gu u9_ 21), (gu u9_ 22), (gu u9_ 23), (gu u9_ 24), (gu u9_ 25), (gu u9_ 26), (gu u9_ 27), (gu u9_ 28), (gu u9_ 29), (gu u9_ 30)], by omega, rfl, rfl, hp21⟩
      rintro n20 a20 W20 ⟨j, u20_, hj, rfl, rfl, hst20⟩
      refine wp_seq (wp_region_P [0] [.k 38 (.bool (decide ((j : Int) < (((putS u.2.1 8)).size : Int))))] [(38, 0, 1, 39)] hst20 fun W22 hst22 => ?_)
      refine then_normal (wp_seq ?_)
      rcases Bool.eq_false_or_eq_true (decide ((j : Int) < (((putS u.2.1 8)).size : Int))) with hs23 | hs23
      · skip
        have hs23p : (j : Int) < (((putS u.2.1 8)).size : Int) := by simpa using hs23
        refine wp_cond_true (show Act.eval _ _ = .bool true from (congrArg Value.bool hs23)) (wp_skip (then_normal (wp_seq (wp_block (wp_seq (wp_region_Z [0, 1, 3] [[], [6]] [.c 39 (.pointer (some ⟨B35_19, j, none⟩)), .c 40 (.int .u8 ((oct8 u.2.1).getD j 0)), .k 9 (.int .u8 ((oct8 u.2.1).getD j 0))] [0, 1, 2, 3, 4, 5, 6] [0, 1] [(9, 2, 1, 10), (29, 0, 2, 31)] hst22 ?_ fun W24 hst24 => ?_))))))
        · refine ⟨?_, ?_, trivial⟩
          · exact xs4 rfl id fun cx => run_indexW (e := 5) (m := j) rfl (by kernel_rfl) (by kernel_rfl) (cx.ou 35) (cx.ou 37) (by omega) (by omega)
          · exact xs4 rfl id fun cx => run_load1 rfl (by kernel_rfl) (cx.an 0) (BRow.cell (cx.brow (cx.init 6 _ rfl) rfl) (by first | omega | (show _ < 8; omega)))
        refine then_normal ?_
        have hob := oct8_bd u.2.1 j
        refine wp_region_Y [0, 1, 3, 0, 8, 31, 63, 127] [[], [4], [], [], [], [], [], [4]] [[], [], [], [], [], [], [], [7]] [[], [], [], [], [], [], [], [4]] [.k 41 (.pointer (some ⟨B7_13, 1, none⟩)), .c 42 (vi (accN u.2.1 j)), .c 43 (vi (IntKind.i64.wrap (accN u.2.1 j * 2 ^ 8))), .k 44 (.int .u8 ((oct8 u.2.1).getD j 0)), tW 45 .i64 ((oct8 u.2.1).getD j 0) ((oct8 u.2.1).getD j 0) (IntWalk.i64_in _ (by omega)), .c 46 (vi (accN u.2.1 (j + 1))), .k 47 (.pointer (some ⟨B7_13, 1, none⟩)), .n] (fun ix σ β X => match ix with | 0 => True | 1 => True | 2 => True | 3 => True | 4 => True | 5 => True | 6 => True | 7 => X 7 = eB B7_13 45 #[vi u.1, vi (accN u.2.1 (j + 1)), .string ByteArray.empty] | _ => True) [0, 1, 2, 3, 5, 6, 7] [1, 2, 5, 7] [(41, 0, 7, 48)] hst24 ?_ ?_ ?_
        · exact fun ix _ _ _ _ _ _ hs hb hx h => match ix, h with
          | 7, h => by dsimp only at h ⊢; rw [← hx 7 rfl]; exact h
          | 0, _ | 1, _ | 2, _ | 3, _ | 4, _ | 5, _ | 6, _ | _ + 8, _ => trivial
        · refine ⟨?_, ?_, ?_, ?_, trivial⟩
          · exact xs4 rfl id fun cx => run_load1 rfl (by kernel_rfl) (cx.an 0) ((cx.bi 4 rfl).cell 1)
          · exact xs4 rfl id fun cx => run_shl rfl (cx.an 1) (cx.co _) (by decide) rfl
          · exact xs4 rfl id fun cx => run_or rfl (cx.an 2) (cx.an 4) (acc_step _ (by omega))
          · refine sv_any rfl rfl fun ρ β W X cx => ?_
            exact dv_store (n := 1) rfl (cx.an 6) (cx.an 5) (by kernel_rfl) (by kernel_rfl) (by kernel_rfl) cx (cx.init 4 _ rfl) rfl (nle rfl) (by kernel_rfl) rfl rfl rfl (fun σ β' X' hs hb hx => hx)
        intro σ β X W25 hD hst25 fr hfr
        simp only [exq 7 ((dTn (hD 7 lq)))] at hst25
        clear hD; subst hfr; clear σ β X
        refine blk_normal (then_normal (wp_region_P [0, 1] [tI 48 ((j : Int) + 1) (by omega), .k 37 (vi ((j : Int) + 1))] [(37, 1, 1, 38), (10, 0, 1, 11)] hst25 fun W26 hst26 => ?_))
        refine then_normal ?_
        refine ⟨8 - ((j + 1)), by omega, ?_⟩
        have hp27 := hst26.pick [0, 1, 2, 3, 6, 4, 5] (by decide) rfl
        exact ⟨(j + 1), [.int .u8 ((oct8 u.2.1).getD j 0), .bool (decide ((j : Int) < (((putS u.2.1 8)).size : Int))), .pointer (some ⟨B35_19, j, none⟩), .int .u8 ((oct8 u.2.1).getD j 0), .pointer (some ⟨B7_13, 1, none⟩), vi (accN u.2.1 j), vi (IntKind.i64.wrap (accN u.2.1 j * 2 ^ 8)), .int .u8 ((oct8 u.2.1).getD j 0), vi ((oct8 u.2.1).getD j 0), vi (accN u.2.1 (j + 1)), .pointer (some ⟨B7_13, 1, none⟩), vi ((j : Int) + 1)], by omega, rfl, rfl, hp27⟩
      have hs23p : ¬ ((j : Int) < (((putS u.2.1 8)).size : Int)) := by simpa using hs23
      refine wp_cond_false (show Act.eval _ _ = .bool false from (congrArg Value.bool hs23)) (wp_exit (then_exit (then_exit (blk_eq (blk_normal (then_normal ?_))))))
      obtain rfl : j = 8 := by omega
      rw [acc_8 (huN (by assumption))] at hst22
      refine wp_region_Y [0, 0, 2, 7, 15] [[0], [4], [], [7, 1], [0]] [[], [], [7], [8], [9]] [[], [], [], [1], [0]] [.c 60 (.slice RA k RC), .c 61 (.agg #[vi u.1, vi u.2.1, .string ByteArray.empty]), .a 62, .a 63, .n] (fun ix σ β X => match ix with | 0 => True | 1 => True | 2 => σ 62 = .slice ((some ⟨(pb' (β 62)), 0, none⟩)) 1 1 ∧ X 7 = eO 45 3 (.slice ((some ⟨(pb' (β 62)), 0, none⟩)) 1 1) 1 ([vi u.1, vi u.2.1, .string ByteArray.empty]) | 3 => σ 63 = .slice (sA (β 63)) (k + 1) (sC (β 63)) ∧ X 8 = eO 45 3 (.slice (sA (β 63)) (k + 1) (sC (β 63))) (k + 1) (flatR (plainR (rs.take (k + 1)))) | 4 => X 9 = eB B2_1 39 #[.slice (sA (β 63)) (k + 1) (sC (β 63))] | _ => True) [2, 3, 4, 5, 6, 7, 8, 9] [0, 1, 2, 3, 4] [(60, 0, 4, 64)] hst22 ?_ ?_ ?_
      · exact fun ix _ _ _ _ _ _ hs hb hx h => match ix, h with
        | 2, h => by dsimp only at h ⊢; rw [← hs 62 rfl, ← hb 62 rfl, ← hx 7 rfl]; exact h
        | 3, h => by dsimp only at h ⊢; rw [← hs 63 rfl, ← hb 63 rfl, ← hx 8 rfl]; exact h
        | 4, h => by dsimp only at h ⊢; rw [← hb 63 rfl, ← hx 9 rfl]; exact h
        | 0, _ | 1, _ | _ + 5, _ => trivial
      · refine ⟨?_, ?_, ?_, ?_, ?_, trivial⟩
        · exact xs4 rfl id fun cx => run_load1 rfl (by kernel_rfl) (cx.ou 2) ((cx.bi 0 rfl).cell 0)
        · exact xs4 rfl id fun cx => run_loadB (n := 3) rfl (by kernel_rfl) (by kernel_rfl) (cx.ou 7) (cx.bi 4 rfl) (nle rfl) rfl
        · refine sv_any rfl rfl fun ρ β W X cx => ?_
          have fF61 : ρ (.tmp 61) = .agg #[vi u.1, vi u.2.1, .string ByteArray.empty] := (cx.an 1)
          exact dv_litN (e := 45) (sz := 3) (xs := [vi u.1, vi u.2.1, .string ByteArray.empty]) rfl (by simp [go_sem, fF61]) rfl (by decide) rfl rfl (fun σ β' X' hs hb hv hx => ⟨hv, hx⟩)
        · refine sv_any rfl rfl fun ρ β W X cx => ?_
          obtain ⟨i0, hi0, hz0, hz1, hz2⟩ := info_parts Tryz.infoVal
          refine dv_appendN (n := k) (m := 1) (nm := k + 1) (sz := 3) (xs := flatR (plainR (rs.take k))) (news := [vi u.1, vi u.2.1, .string ByteArray.empty]) (xs' := flatR (plainR (rs.take (k + 1)))) rfl (ty := 39) rfl (by kernel_rfl) hi0 hz0 hz1 hz2 rfl (by decide) (cx.an 0) cx (cx.init 1 _ rfl) rfl (dTn (cx.an 2)).1 (by rfl) (At.of_ownN (cx.row (dTn (cx.an 2)).2 rfl)) (by simp [Value.oneCell']) (by simp only [maxLen]; omega) (by omega) rfl rfl rfl (by omega) (plain_snoc (by omega) (by rw [hu]; simp [cellsV, plainV, *])) (fun σ β' X' hs hb hv hx => ?_)
          exact ⟨hv, hx⟩
        · refine sv_any rfl rfl fun ρ β W X cx => ?_
          exact dv_store (n := 1) rfl (cx.ou 2) (dTn (cx.an 3)).1 (by kernel_rfl) (by kernel_rfl) (by kernel_rfl) cx (cx.init 0 _ rfl) rfl (nle rfl) (by kernel_rfl) rfl rfl rfl (fun σ β' X' hs hb hx => by rw [hb 63]; exact hx)
      intro σ β X W28 hD hst28 fr hfr
      obtain ⟨B62_28, hu_B62_28⟩ : ∃ z, pb' (β 62) = z := ⟨_, rfl⟩
      obtain ⟨A63_28, hu_A63_28⟩ : ∃ z, sA (β 63) = z := ⟨_, rfl⟩
      obtain ⟨c63_28, hu_c63_28⟩ : ∃ z, sC (β 63) = z := ⟨_, rfl⟩
      simp only [exq 7 ((dTn (hD 2 lq)).2), exq 8 ((dTn (hD 3 lq)).2), exq 9 ((dTn (hD 4 lq))), hu_B62_28, hu_A63_28, hu_c63_28] at hst28
      simp only [ed 62 ((dTn (hD 2 lq)).1), ed 63 ((dTn (hD 3 lq)).1), hu_B62_28, hu_A63_28, hu_c63_28] at hfr
      clear hD hu_B62_28 hu_A63_28 hu_c63_28; subst hfr; clear σ β X
      refine blk_normal (then_normal (wp_region_P [0, 1] [tI 64 ((k : Int) + 1) (by omega), .k 20 (vi ((k : Int) + 1))] [(20, 1, 1, 21), (43, 0, 1, 44)] hst28 fun W29 hst29 => ?_))
      refine then_normal ?_
      rw [← hR] at hst29
      refine ⟨rs.length - ((k + 1)), by omega, ?_⟩
      have hp30 := hst29.pick [3, 7, 6, 0, 1] (by decide) rfl
      exact ⟨(k + 1), A63_28, c63_28, [vp B7_13, (gu u20_ 0), (gu u9_ 2), .bool (decide ((k : Int) < (rs.length : Int))), .func (.func 203) #[] #[vp B4_2], vi u.1, .agg #[vi u.1, vi 0, .string ByteArray.empty], vp B7_13, vi u.1, .bool true, .tuple #[], vp B7_13, vi u.1, .bool (u.1 == 1), .bool (u.1 == 1), .func (.func 201) #[] #[vp B1_1], .string ((putS u.2.1 8)), .slice ((some ⟨B35_19, 0, none⟩)) (((putS u.2.1 8)).size) (((putS u.2.1 8)).size + c35_19), vi ((((putS u.2.1 8)).size : Int)), vi (((8 : Nat) : Int)), .bool (decide (((8 : Nat) : Int) < (((putS u.2.1 8)).size : Int))), (gu u20_ 2), (gu u20_ 3), (gu u20_ 4), (gu u20_ 5), (gu u20_ 6), (gu u20_ 7), (gu u20_ 8), (gu u20_ 9), (gu u20_ 10), (gu u20_ 11), (gu u9_ 31), (gu u9_ 32), (gu u9_ 33), (gu u9_ 34), (gu u9_ 35), (gu u9_ 36), (gu u9_ 37), (gu u9_ 38), (gu u9_ 39), (gu u9_ 40), (gu u9_ 41), .slice RA k RC, .agg #[vi u.1, vi u.2.1, .string ByteArray.empty], .slice ((some ⟨B62_28, 0, none⟩)) 1 1, .slice A63_28 (k + 1) c63_28, vi ((k : Int) + 1)], by omega, rfl, rfl, hp30⟩
    have hs18p : u.1 ≠ 1 := by simpa using hs18
    refine wp_cond_false (show Act.eval _ _ = .bool false from (congrArg Value.bool hs18)) (wp_seq (wp_region_P [0, 1] [.k 50 (.bool (u.1 == 2)), .k 49 (.bool (u.1 == 2))] [(49, 1, 1, 50), (0, 0, 1, 1)] hst17 fun W31 hst31 => ?_))
    refine then_normal ?_
    rcases Bool.eq_false_or_eq_true (u.1 == 2) with hs32 | hs32
    · skip
      have hs32p : u.1 = 2 := by simpa using hs32
      refine wp_cond_true (show Act.eval _ _ = .bool true from (congrArg Value.bool hs32)) (wp_seq ?_)
      have hs2 : u.2.2.size ≤ 40 := hpu.2.2 (by assumption)
      obtain ⟨h2, hh2⟩ : ∃ z, UInt8.ofNat ((u.2.2.size : Nat) : Int).toNat = z := ⟨_, rfl⟩
      have hv2 : ((h2.toNat : Nat) : Int) = (u.2.2.size : Int) := by rw [← hh2]; exact u8_int (by omega)
      have h8 : TB = h2 :: u.2.2.data.toList := by rw [← hTB, tailB, if_neg (by assumption), if_pos (by assumption), hh2]
      rw [h8, List.cons_append] at hst31
      refine wp_region_Y [0, 1, 3] [[], [4, 3]] [[], [6]] [[], [4]] [.k 51 (.func (.func 203) #[] #[vp B4_2]), .a 52, .c 10 (vi ((u.2.2.size : Int)))] (fun ix σ β X => match ix with | 0 => True | 1 => σ 52 = vi ((u.2.2.size : Int)) ∧ X 6 = eB B1_1 9 #[.string (strL (u.2.2.data.toList ++ R))] | _ => True) [0, 1, 2, 3, 5, 6] [1, 2] [(10, 2, 1, 11), (40, 0, 2, 42)] hst31 ?_ ?_ ?_
      · exact fun ix _ _ _ _ _ _ hs hb hx h => match ix, h with
        | 1, h => by dsimp only at h ⊢; rw [← hs 52 rfl, ← hx 6 rfl]; exact h
        | 0, _ | _ + 2, _ => trivial
      · refine ⟨?_, ?_, trivial⟩
        · refine sv_any rfl rfl fun ρ β W X cx => ?_
          refine DoesU.call (run_callV (f := 203) (args := #[]) (args' := #[vp B4_2]) rfl rfl (cx.an 0) (by kernel_rfl) map0 rfl) ?_
          refine (one_cons _ _ h2 ((u.2.2.data.toList ++ R)) _ (cx.bi 4 rfl) (cx.bi 3 rfl) (by have h_ := cx.ap 4 3 rfl rfl (by decide); rw [(cx.init 4 _ rfl), (cx.init 3 _ rfl)] at h_; intro e_; exact h_ _ (List.mem_singleton.2 rfl) (List.mem_singleton.2 e_))).mono ?_
          rintro e W1 ⟨rfl, hb1, hu⟩
          refine ⟨_, rfl, post_mut (cx.init 4 _ rfl) rfl rfl hu hb1 (fun σ β' X' hs hb hv hx => ?_)⟩
          exact ⟨(hv 52 rfl).1.trans (congrArg (Value.int .i64) hv2), hx⟩
        · exact xs4 rfl id fun cx => run_assign' rfl (dTn (cx.an 1)).1
      intro σ β X W33 hD hst33 fr hfr
      simp only [exq 6 ((dTn (hD 1 lq)).2)] at hst33
      simp only [ed 52 ((dTn (hD 1 lq)).1)] at hfr
      clear hD; subst hfr; clear σ β X
      refine then_normal (wp_seq ?_)
      have hd35 : (decide ((u.2.2.size : Int) ≤ 40)) = true := decide_eq_true (by omega)
      refine wp_region_Z [0, 1, 3] [] [.k 53 (vi ((u.2.2.size : Int))), .e 54 (.bool (decide ((u.2.2.size : Int) ≤ 40))) (.bool true) (congrArg Value.bool hd35), .c 55 (.tuple #[])] [0, 1, 2, 3, 4, 5] [2] [(53, 0, 3, 56)] hst33 ?_ fun W34 hst34 => ?_
      · refine ⟨?_, trivial⟩
        · exact xsc rfl id rfl rfl fun cx => ⟨_, must_true _ _, (map2 (cx.an 1) (cx.co _))⟩
      refine then_normal (wp_region_Y [0, 0, 3, 7, 15] [[3], [], [5], [], [4]] [[], [], [6], [], [7]] [[], [], [5], [], [4]] [.c 56 (.func (.func 201) #[] #[vp B1_1]), .k 57 (vi ((u.2.2.size : Int))), .a 58, .k 59 (.pointer (some ⟨B7_13, 2, none⟩)), .n] (fun ix σ β X => match ix with | 0 => True | 1 => True | 2 => σ 58 = .string u.2.2 ∧ X 6 = eB B1_1 9 #[.string (strL R)] | 3 => True | 4 => X 7 = eB B7_13 45 #[vi u.1, vi 0, .string u.2.2] | _ => True) [0, 1, 2, 3, 6, 7] [0, 2, 4] [(56, 0, 4, 60)] hst34 ?_ ?_ ?_)
      · exact fun ix _ _ _ _ _ _ hs hb hx h => match ix, h with
        | 2, h => by dsimp only at h ⊢; rw [← hs 58 rfl, ← hx 6 rfl]; exact h
        | 4, h => by dsimp only at h ⊢; rw [← hx 7 rfl]; exact h
        | 0, _ | 1, _ | 3, _ | _ + 5, _ => trivial
      · refine ⟨?_, ?_, ?_, trivial⟩
        · exact xs4 rfl id fun cx => run_load1 rfl (by kernel_rfl) (cx.ou 4) ((cx.bi 3 rfl).cell 0)
        · refine sv_any rfl rfl fun ρ β W X cx => ?_
          refine DoesU.call (run_callV (f := 201) (args := #[vi ((u.2.2.size : Int))]) (args' := #[vi ((u.2.2.size : Int)), vp B1_1]) rfl rfl (cx.an 0) (by kernel_rfl) (map1 (cx.an 1)) rfl) ?_
          refine (take_app u.2.2.size B1_1 (u.2.2.data.toList) R _ (cx.bi 5 rfl) (by rw [Array.length_toList]; rfl)).mono ?_
          rintro e W1 ⟨rfl, hb1, hu⟩
          refine ⟨_, rfl, post_mut (cx.init 5 _ rfl) rfl rfl hu hb1 (fun σ β' X' hs hb hv hx => ?_)⟩
          exact ⟨(hv 58 rfl).1.trans (congrArg Value.string (strL_data _)), hx⟩
        · refine sv_any rfl rfl fun ρ β W X cx => ?_
          exact dv_store (n := 1) rfl (cx.an 3) (dTn (cx.an 2)).1 (by kernel_rfl) (by kernel_rfl) (by kernel_rfl) cx (cx.init 4 _ rfl) rfl (nle rfl) (by kernel_rfl) rfl rfl rfl (fun σ β' X' hs hb hx => hx)
      intro σ β X W36 hD hst36 fr hfr
      simp only [exq 6 ((dTn (hD 2 lq)).2), exq 7 ((dTn (hD 4 lq)))] at hst36
      simp only [ed 58 ((dTn (hD 2 lq)).1)] at hfr
      clear hD; subst hfr; clear σ β X
      refine blk_normal (then_normal (wp_region_Y [0, 0, 2, 7, 15] [[0], [5], [], [6, 1], [0]] [[], [], [6], [7], [8]] [[], [], [], [1], [0]] [.c 60 (.slice RA k RC), .c 61 (.agg #[vi u.1, vi 0, .string u.2.2]), .a 62, .a 63, .n] (fun ix σ β X => match ix with | 0 => True | 1 => True | 2 => σ 62 = .slice ((some ⟨(pb' (β 62)), 0, none⟩)) 1 1 ∧ X 6 = eO 45 3 (.slice ((some ⟨(pb' (β 62)), 0, none⟩)) 1 1) 1 ([vi u.1, vi 0, .string u.2.2]) | 3 => σ 63 = .slice (sA (β 63)) (k + 1) (sC (β 63)) ∧ X 7 = eO 45 3 (.slice (sA (β 63)) (k + 1) (sC (β 63))) (k + 1) (flatR (plainR (rs.take (k + 1)))) | 4 => X 8 = eB B2_1 39 #[.slice (sA (β 63)) (k + 1) (sC (β 63))] | _ => True) [2, 3, 4, 5, 6, 7, 8] [0, 1, 2, 3, 4] [(60, 0, 4, 64)] hst36 ?_ ?_ ?_))
      · exact fun ix _ _ _ _ _ _ hs hb hx h => match ix, h with
        | 2, h => by dsimp only at h ⊢; rw [← hs 62 rfl, ← hb 62 rfl, ← hx 6 rfl]; exact h
        | 3, h => by dsimp only at h ⊢; rw [← hs 63 rfl, ← hb 63 rfl, ← hx 7 rfl]; exact h
        | 4, h => by dsimp only at h ⊢; rw [← hb 63 rfl, ← hx 8 rfl]; exact h
        | 0, _ | 1, _ | _ + 5, _ => trivial
      · refine ⟨?_, ?_, ?_, ?_, ?_, trivial⟩
        · exact xs4 rfl id fun cx => run_load1 rfl (by kernel_rfl) (cx.ou 2) ((cx.bi 0 rfl).cell 0)
        · exact xs4 rfl id fun cx => run_loadB (n := 3) rfl (by kernel_rfl) (by kernel_rfl) (cx.ou 7) (cx.bi 5 rfl) (nle rfl) rfl
        · refine sv_any rfl rfl fun ρ β W X cx => ?_
          have fF61 : ρ (.tmp 61) = .agg #[vi u.1, vi 0, .string u.2.2] := (cx.an 1)
          exact dv_litN (e := 45) (sz := 3) (xs := [vi u.1, vi 0, .string u.2.2]) rfl (by simp [go_sem, fF61]) rfl (by decide) rfl rfl (fun σ β' X' hs hb hv hx => ⟨hv, hx⟩)
        · refine sv_any rfl rfl fun ρ β W X cx => ?_
          obtain ⟨i0, hi0, hz0, hz1, hz2⟩ := info_parts Tryz.infoVal
          refine dv_appendN (n := k) (m := 1) (nm := k + 1) (sz := 3) (xs := flatR (plainR (rs.take k))) (news := [vi u.1, vi 0, .string u.2.2]) (xs' := flatR (plainR (rs.take (k + 1)))) rfl (ty := 39) rfl (by kernel_rfl) hi0 hz0 hz1 hz2 rfl (by decide) (cx.an 0) cx (cx.init 1 _ rfl) rfl (dTn (cx.an 2)).1 (by rfl) (At.of_ownN (cx.row (dTn (cx.an 2)).2 rfl)) (by simp [Value.oneCell']) (by simp only [maxLen]; omega) (by omega) rfl rfl rfl (by omega) (plain_snoc (by omega) (by rw [hu]; simp [cellsV, plainV, *])) (fun σ β' X' hs hb hv hx => ?_)
          exact ⟨hv, hx⟩
        · refine sv_any rfl rfl fun ρ β W X cx => ?_
          exact dv_store (n := 1) rfl (cx.ou 2) (dTn (cx.an 3)).1 (by kernel_rfl) (by kernel_rfl) (by kernel_rfl) cx (cx.init 0 _ rfl) rfl (nle rfl) (by kernel_rfl) rfl rfl rfl (fun σ β' X' hs hb hx => by rw [hb 63]; exact hx)
      intro σ β X W37 hD hst37 fr hfr
      obtain ⟨B62_37, hu_B62_37⟩ : ∃ z, pb' (β 62) = z := ⟨_, rfl⟩
      obtain ⟨A63_37, hu_A63_37⟩ : ∃ z, sA (β 63) = z := ⟨_, rfl⟩
      obtain ⟨c63_37, hu_c63_37⟩ : ∃ z, sC (β 63) = z := ⟨_, rfl⟩
      simp only [exq 6 ((dTn (hD 2 lq)).2), exq 7 ((dTn (hD 3 lq)).2), exq 8 ((dTn (hD 4 lq))), hu_B62_37, hu_A63_37, hu_c63_37] at hst37
      simp only [ed 62 ((dTn (hD 2 lq)).1), ed 63 ((dTn (hD 3 lq)).1), hu_B62_37, hu_A63_37, hu_c63_37] at hfr
      clear hD hu_B62_37 hu_A63_37 hu_c63_37; subst hfr; clear σ β X
      refine blk_normal (then_normal (wp_region_P [0, 1] [tI 64 ((k : Int) + 1) (by omega), .k 20 (vi ((k : Int) + 1))] [(20, 1, 1, 21), (43, 0, 1, 44)] hst37 fun W38 hst38 => ?_))
      refine then_normal ?_
      rw [← hR] at hst38
      refine ⟨rs.length - ((k + 1)), by omega, ?_⟩
      have hp39 := hst38.pick [2, 6, 5, 0, 1] (by decide) rfl
      exact ⟨(k + 1), A63_37, c63_37, [vp B7_13, (gu u9_ 1), vi ((u.2.2.size : Int)), .bool (decide ((k : Int) < (rs.length : Int))), .func (.func 203) #[] #[vp B4_2], vi u.1, .agg #[vi u.1, vi 0, .string ByteArray.empty], vp B7_13, vi u.1, .bool true, .tuple #[], vp B7_13, vi u.1, .bool (u.1 == 1), .bool (u.1 == 1), (gu u9_ 15), (gu u9_ 16), (gu u9_ 17), (gu u9_ 18), (gu u9_ 19), (gu u9_ 20), (gu u9_ 21), (gu u9_ 22), (gu u9_ 23), (gu u9_ 24), (gu u9_ 25), (gu u9_ 26), (gu u9_ 27), (gu u9_ 28), (gu u9_ 29), (gu u9_ 30), .bool (u.1 == 2), .bool (u.1 == 2), .func (.func 203) #[] #[vp B4_2], vi ((u.2.2.size : Int)), vi ((u.2.2.size : Int)), .bool true, .tuple #[], .func (.func 201) #[] #[vp B1_1], vi ((u.2.2.size : Int)), .string u.2.2, .pointer (some ⟨B7_13, 2, none⟩), .slice RA k RC, .agg #[vi u.1, vi 0, .string u.2.2], .slice ((some ⟨B62_37, 0, none⟩)) 1 1, .slice A63_37 (k + 1) c63_37, vi ((k : Int) + 1)], by omega, rfl, rfl, hp39⟩
    have hs32p : u.1 ≠ 2 := by simpa using hs32
    refine wp_cond_false (show Act.eval _ _ = .bool false from (congrArg Value.bool hs32)) (wp_skip (blk_normal (then_normal ?_)))
    have h8 : TB = [] := by rw [← hTB, tailB, if_neg (by assumption), if_neg (by assumption)]
    rw [h8, List.nil_append] at hst31
    refine wp_region_Y [0, 0, 2, 7, 15] [[0], [5], [], [6, 1], [0]] [[], [], [6], [7], [8]] [[], [], [], [1], [0]] [.c 60 (.slice RA k RC), .c 61 (.agg #[vi u.1, vi 0, .string ByteArray.empty]), .a 62, .a 63, .n] (fun ix σ β X => match ix with | 0 => True | 1 => True | 2 => σ 62 = .slice ((some ⟨(pb' (β 62)), 0, none⟩)) 1 1 ∧ X 6 = eO 45 3 (.slice ((some ⟨(pb' (β 62)), 0, none⟩)) 1 1) 1 ([vi u.1, vi 0, .string ByteArray.empty]) | 3 => σ 63 = .slice (sA (β 63)) (k + 1) (sC (β 63)) ∧ X 7 = eO 45 3 (.slice (sA (β 63)) (k + 1) (sC (β 63))) (k + 1) (flatR (plainR (rs.take (k + 1)))) | 4 => X 8 = eB B2_1 39 #[.slice (sA (β 63)) (k + 1) (sC (β 63))] | _ => True) [2, 3, 4, 5, 6, 7, 8] [0, 1, 2, 3, 4] [(60, 0, 4, 64)] hst31 ?_ ?_ ?_
    · exact fun ix _ _ _ _ _ _ hs hb hx h => match ix, h with
      | 2, h => by dsimp only at h ⊢; rw [← hs 62 rfl, ← hb 62 rfl, ← hx 6 rfl]; exact h
      | 3, h => by dsimp only at h ⊢; rw [← hs 63 rfl, ← hb 63 rfl, ← hx 7 rfl]; exact h
      | 4, h => by dsimp only at h ⊢; rw [← hb 63 rfl, ← hx 8 rfl]; exact h
      | 0, _ | 1, _ | _ + 5, _ => trivial
    · refine ⟨?_, ?_, ?_, ?_, ?_, trivial⟩
      · exact xs4 rfl id fun cx => run_load1 rfl (by kernel_rfl) (cx.ou 2) ((cx.bi 0 rfl).cell 0)
      · exact xs4 rfl id fun cx => run_loadB (n := 3) rfl (by kernel_rfl) (by kernel_rfl) (cx.ou 7) (cx.bi 5 rfl) (nle rfl) rfl
      · refine sv_any rfl rfl fun ρ β W X cx => ?_
        have fF61 : ρ (.tmp 61) = .agg #[vi u.1, vi 0, .string ByteArray.empty] := (cx.an 1)
        exact dv_litN (e := 45) (sz := 3) (xs := [vi u.1, vi 0, .string ByteArray.empty]) rfl (by simp [go_sem, fF61]) rfl (by decide) rfl rfl (fun σ β' X' hs hb hv hx => ⟨hv, hx⟩)
      · refine sv_any rfl rfl fun ρ β W X cx => ?_
        obtain ⟨i0, hi0, hz0, hz1, hz2⟩ := info_parts Tryz.infoVal
        refine dv_appendN (n := k) (m := 1) (nm := k + 1) (sz := 3) (xs := flatR (plainR (rs.take k))) (news := [vi u.1, vi 0, .string ByteArray.empty]) (xs' := flatR (plainR (rs.take (k + 1)))) rfl (ty := 39) rfl (by kernel_rfl) hi0 hz0 hz1 hz2 rfl (by decide) (cx.an 0) cx (cx.init 1 _ rfl) rfl (dTn (cx.an 2)).1 (by rfl) (At.of_ownN (cx.row (dTn (cx.an 2)).2 rfl)) (by simp [Value.oneCell']) (by simp only [maxLen]; omega) (by omega) rfl rfl rfl (by omega) (plain_snoc (by omega) (by rw [hu]; simp [cellsV, plainV, *])) (fun σ β' X' hs hb hv hx => ?_)
        exact ⟨hv, hx⟩
      · refine sv_any rfl rfl fun ρ β W X cx => ?_
        exact dv_store (n := 1) rfl (cx.ou 2) (dTn (cx.an 3)).1 (by kernel_rfl) (by kernel_rfl) (by kernel_rfl) cx (cx.init 0 _ rfl) rfl (nle rfl) (by kernel_rfl) rfl rfl rfl (fun σ β' X' hs hb hx => by rw [hb 63]; exact hx)
    intro σ β X W40 hD hst40 fr hfr
    obtain ⟨B62_40, hu_B62_40⟩ : ∃ z, pb' (β 62) = z := ⟨_, rfl⟩
    obtain ⟨A63_40, hu_A63_40⟩ : ∃ z, sA (β 63) = z := ⟨_, rfl⟩
    obtain ⟨c63_40, hu_c63_40⟩ : ∃ z, sC (β 63) = z := ⟨_, rfl⟩
    simp only [exq 6 ((dTn (hD 2 lq)).2), exq 7 ((dTn (hD 3 lq)).2), exq 8 ((dTn (hD 4 lq))), hu_B62_40, hu_A63_40, hu_c63_40] at hst40
    simp only [ed 62 ((dTn (hD 2 lq)).1), ed 63 ((dTn (hD 3 lq)).1), hu_B62_40, hu_A63_40, hu_c63_40] at hfr
    clear hD hu_B62_40 hu_A63_40 hu_c63_40; subst hfr; clear σ β X
    refine blk_normal (then_normal (wp_region_P [0, 1] [tI 64 ((k : Int) + 1) (by omega), .k 20 (vi ((k : Int) + 1))] [(20, 1, 1, 21), (43, 0, 1, 44)] hst40 fun W41 hst41 => ?_))
    refine then_normal ?_
    rw [← hR] at hst41
    refine ⟨rs.length - ((k + 1)), by omega, ?_⟩
    have hp42 := hst41.pick [2, 6, 5, 0, 1] (by decide) rfl
    exact ⟨(k + 1), A63_40, c63_40, [vp B7_13, (gu u9_ 1), (gu u9_ 2), .bool (decide ((k : Int) < (rs.length : Int))), .func (.func 203) #[] #[vp B4_2], vi u.1, .agg #[vi u.1, vi 0, .string ByteArray.empty], vp B7_13, vi u.1, .bool true, .tuple #[], vp B7_13, vi u.1, .bool (u.1 == 1), .bool (u.1 == 1), (gu u9_ 15), (gu u9_ 16), (gu u9_ 17), (gu u9_ 18), (gu u9_ 19), (gu u9_ 20), (gu u9_ 21), (gu u9_ 22), (gu u9_ 23), (gu u9_ 24), (gu u9_ 25), (gu u9_ 26), (gu u9_ 27), (gu u9_ 28), (gu u9_ 29), (gu u9_ 30), .bool (u.1 == 2), .bool (u.1 == 2), (gu u9_ 33), (gu u9_ 34), (gu u9_ 35), (gu u9_ 36), (gu u9_ 37), (gu u9_ 38), (gu u9_ 39), (gu u9_ 40), (gu u9_ 41), .slice RA k RC, .agg #[vi u.1, vi 0, .string ByteArray.empty], .slice ((some ⟨B62_40, 0, none⟩)) 1 1, .slice A63_40 (k + 1) c63_40, vi ((k : Int) + 1)], by omega, rfl, rfl, hp42⟩
  have hs12p : ¬ ((k : Int) < (rs.length : Int)) := by simpa using hs12
  refine wp_cond_false (show Act.eval _ _ = .bool false from (congrArg Value.bool hs12)) (wp_exit (then_exit (then_exit (blk_eq (then_normal (wp_seq ?_))))))
  have hk_ : k = rs.length := by omega
  have hl_ : valsB (rs.drop k) = [] := by rw [hk_, List.drop_length]; rfl
  rw [hl_] at hst11
  have hd44 : ((strL []).toList == ((⟨#[]⟩ : ByteArray)).toList) = true := beq_self_eq_true (strL []).toList
  refine wp_region_Z [0, 1, 3] [[0]] [.c 65 (.string (strL [])), .e 66 (.bool ((strL []).toList == ((⟨#[]⟩ : ByteArray)).toList)) (.bool true) (congrArg Value.bool hd44), .c 67 (.tuple #[])] [0, 1, 2, 3, 4] [0, 2] [(65, 0, 3, 68)] hst11 ?_ fun W43 hst43 => ?_
  · refine ⟨?_, ?_, trivial⟩
    · exact xs4 rfl id fun cx => run_load1 rfl (by kernel_rfl) (cx.ou 1) ((cx.bi 0 rfl).cell 0)
    · exact xsc rfl id rfl rfl fun cx => ⟨_, must_true _ _, (map2 (cx.an 1) (cx.co _))⟩
  refine then_normal (wp_seq (wp_region_Y [0, 1, 3] [[1], [1], [3]] [[], [5], [6]] [[], [1], [3]] [.c 68 (.slice RA k RC), .n, .n] (fun ix σ β X => match ix with | 0 => True | 1 => X 5 = eB B2_1 39 #[.slice RA k RC] | 2 => X 6 = eB B3_1 57 #[vi 0] | _ => True) [0, 2, 4, 5, 6] [0, 1, 2] [(68, 0, 1, 69)] hst43 ?_ ?_ ?_))
  · exact fun ix _ _ _ _ _ _ hs hb hx h => match ix, h with
    | 1, h => by dsimp only at h ⊢; rw [← hx 5 rfl]; exact h
    | 2, h => by dsimp only at h ⊢; rw [← hx 6 rfl]; exact h
    | 0, _ | _ + 3, _ => trivial
  · refine ⟨?_, ?_, ?_, trivial⟩
    · exact xs4 rfl id fun cx => run_load1 rfl (by kernel_rfl) (cx.ou 2) ((cx.bi 1 rfl).cell 0)
    · refine sv_any rfl rfl fun ρ β W X cx => ?_
      exact dv_store (n := 1) rfl (cx.ou 2) (cx.an 0) (by kernel_rfl) (by kernel_rfl) (by kernel_rfl) cx (cx.init 1 _ rfl) rfl (nle rfl) (by kernel_rfl) rfl rfl rfl (fun σ β' X' hs hb hx => hx)
    · refine sv_any rfl rfl fun ρ β W X cx => ?_
      exact dv_store (n := 1) rfl (cx.ou 3) (cx.co _) (by kernel_rfl) (by kernel_rfl) (by kernel_rfl) cx (cx.init 3 _ rfl) rfl (nle rfl) (by kernel_rfl) rfl rfl rfl (fun σ β' X' hs hb hx => hx)
  intro σ β X W45 hD hst45 fr hfr
  simp only [exq 5 ((dTn (hD 1 lq))), exq 6 ((dTn (hD 2 lq)))] at hst45
  clear hD; subst hfr; clear σ β X
  refine then_normal (wp_ret ?_)
  have c2 := (hst45.blk 3 rfl).cell 0
  have c3 := (hst45.blk 4 rfl).cell 0
  refine leaves_cons (f := 200) (args := #[vp B2_1, vp B3_1]) (by simp) (by simp [go_sem]) ?_
  refine (catch_idle _ _ _).mono ?_
  rintro e u' w'' ⟨rfl, rfl, rfl⟩
  refine ⟨.tuple #[.slice RA k RC, vi 0], ?_, ?_⟩
  · simp at c2 c3
    simp [results, Tryz.results133, go_sem, c2, c3]
  · have ho_ := hst45.own' 1 rfl
    rw [hk_, List.take_length] at ho_
    rw [hk_]
    exact ⟨_, _, rfl, ho_, hst45.ext⟩
end
end Go.Proofs.YtjnplglnnamfdaaGreatDoor
namespace Go.Proofs.YtjnplglnnamfdaaGreatDoor
section
open Go.RowKit
set_option linter.unusedVariables false
set_option linter.unusedSimpArgs false
/-- what value.Read hands back -/
def RdRow (rs : List Val) (w : World) (e : Ending) (w' : World) : Prop := ∃ A c, e = .returned (.tuple #[.slice A rs.length c, .int .i64 0]) ∧ w'.ownsRow w.heap.size 45 3 (.slice A rs.length c) rs.length (flatR rs) ∧ Ext w w'
def VerRd (a b n1 n2 : Int) (ho : Bool) (rs : List Val) (er : Int) (w : World) (e : Ending) (w' : World) : Prop := ∃ A c, e = .returned (.tuple #[.agg #[.int .i64 a, .int .i64 b, .int .i64 n1, .int .i64 n2, .bool ho, .slice A rs.length c], .int .i64 er]) ∧
  w'.ownsRow w.heap.size 45 3 (.slice A rs.length c) rs.length (flatR rs) ∧ Ext w w'
theorem numS_lt2 (s : ByteArray) (p : Nat) : numS s p 2 < 65536 := by
  have h := numL_lt (s.extract p (p + 2)).data.toList
  have hl : (s.extract p (p + 2)).data.toList.length ≤ 2 := by
    rw [Array.length_toList]
    show (s.extract p (p + 2)).size ≤ 2
    rw [ByteArray.size_extract]; omega
  have h2 : 256 ^ (s.extract p (p + 2)).data.toList.length ≤ 256 ^ 2 := Nat.pow_le_pow_right (by decide) hl
  exact Nat.lt_of_lt_of_le h h2
set_option maxRecDepth 100000 in
theorem oread_b (s : ByteArray) (w : World) : Calls Tryz.prog 129 #[.string s] w fun e w' => ∃ B, e = .returned (.pointer (some ⟨B, 0, none⟩)) ∧ (Blk w' B 304 #[.string s, .int .i64 0, .bool false] ∧ w.heap.size ≤ B) ∧ Ext w w' := by
  go_enter Tryz.func129, Tryz.ntmps129
  have hst0 := St.start w
  refine wp_seq (wp_region_P [0] [.k 2 (.pointer none)] [(2, 0, 1, 3)] hst0 fun W1 hst1 => ?_)
  refine then_normal (wp_seq (wp_region_Y [0, 1, 3, 7] [] [[], [], [0]] [] [.k 3 (.string s), .k 4 (.agg #[.string s, vi 0, .bool false]), .a 5, .a 2] (fun ix σ β X => match ix with | 0 => True | 1 => True | 2 => σ 5 = vp (pb (β 5)) ∧ X 0 = eB (pb (β 5)) 304 #[.string s, vi 0, .bool false] | 3 => σ 2 = vp (pb (β 5)) | _ => True) [0] [2, 3] [(2, 3, 1, 3), (0, 0, 3, 3)] hst1 ?_ ?_ ?_))
  · exact fun ix _ _ _ _ _ _ hs hb hx h => match ix, h with
    | 2, h => by dsimp only at h ⊢; rw [← hs 5 rfl, ← hb 5 rfl, ← hx 0 rfl]; exact h
    | 3, h => by dsimp only at h ⊢; rw [← hs 2 rfl, ← hb 5 rfl]; exact h
    | 0, _ | 1, _ | _ + 4, _ => trivial
  · refine ⟨?_, ?_, trivial⟩
    · refine sv_any rfl rfl fun ρ β W X cx => ?_
      exact dv_box (cs := #[.string s, vi 0, .bool false]) rfl (cx.an 1) rfl rfl rfl (fun σ β' X' hs hb hv hx => ⟨hv, hx⟩)
    · exact sv rfl rfl rfl rfl rfl _ (fun _ _ _ h => h) (fun β β' h => by rw [h 5 (by decide)]) fun ρ β W X cx => run_assign' rfl (dTn (cx.an 2)).1
  intro σ β X W2 hD hst2 fr hfr
  obtain ⟨B5_2, hu_B5_2⟩ : ∃ z, pb (β 5) = z := ⟨_, rfl⟩
  simp only [exq 0 ((dTn (hD 2 lq)).2), hu_B5_2] at hst2
  simp only [ed 5 ((dTn (hD 2 lq)).1), ed 2 ((dTn (hD 3 lq))), hu_B5_2] at hfr
  clear hD hu_B5_2; subst hfr; clear σ β X
  refine then_normal (wp_ret ?_)
  refine bodyPost_ret (v := vp B5_2) (results_tmp Tryz.results129 rfl) rfl ?_
  exact ⟨_, rfl, ⟨hst2.blk 0 rfl, ((hst2.get 0 rfl).own _ (by simp [eB])).1.resolve_left (by simp)⟩, hst2.ext⟩
set_option maxRecDepth 100000 in
set_option maxHeartbeats 2000000 in
theorem tread_good (s : ByteArray) (rs : List Val) (w : World) (hs : s.size ≤ 1000000) (h8 : 8 ≤ s.size) (ht : 8 + numS s 6 2 ≤ s.size) (hlr : rs.length ≤ 1000) (hN : NoneAt w) (HV : ∀ w, Calls Tryz.prog 133 #[.string (textS s 6)] w (RdRow rs w)) (hB : tbytesF (numS s 0 1) (numS s 1 1) ((numS s 2 2 : Int) - 1) (numS s 4 1) ((numS s 5 1 : Int) == 1) rs = s) :
    Calls Tryz.prog 60 #[.string s] w (VerRd (numS s 0 1) (numS s 1 1) ((numS s 2 2 : Int) - 1) (numS s 4 1) ((numS s 5 1 : Int) == 1) rs 0 w) := by
  have hq2 := numS_lt2 s 2
  go_enter Tryz.func60, Tryz.ntmps60
  have hst0 := St.start w
  refine wp_seq (wp_region_Y [0, 0] [] [[0]] [] [.a 2, .k 3 (vi 0)] (fun ix σ β X => match ix with | 0 => σ 2 = vp (pb (β 2)) ∧ X 0 = eB (pb (β 2)) 41 #[vi 0, vi 0, vi 0, vi 0, .bool false, .slice none 0 0] | _ => True) [0] [0] [(2, 0, 2, 4)] hst0 ?_ ?_ ?_)
  · exact fun ix _ _ _ _ _ _ hs hb hx h => match ix, h with
    | 0, h => by dsimp only at h ⊢; rw [← hs 2 rfl, ← hb 2 rfl, ← hx 0 rfl]; exact h
    | _ + 1, _ => trivial
  · refine ⟨?_, trivial⟩
    · refine sv_any rfl rfl fun ρ β W X cx => ?_
      exact dv_alloc (cs := #[vi 0, vi 0, vi 0, vi 0, .bool false, .slice none 0 0]) rfl (by kernel_rfl) rfl rfl (fun σ β' X' hs hb hv hx => ⟨hv, hx⟩)
  intro σ β X W1 hD hst1 fr hfr
  obtain ⟨B2_1, hu_B2_1⟩ : ∃ z, pb (β 2) = z := ⟨_, rfl⟩
  simp only [exq 0 ((dTn (hD 0 lq)).2), hu_B2_1] at hst1
  simp only [ed 2 ((dTn (hD 0 lq)).1), hu_B2_1] at hfr
  clear hD hu_B2_1; subst hfr; clear σ β X
  refine then_normal (wp_seq (wp_region_Y [0, 1, 3] [] [[], [1]] [] [.k 9 (.string s), .a 10, .a 4] (fun ix σ β X => match ix with | 0 => True | 1 => σ 10 = vp (pb (β 10)) ∧ X 1 = eB (pb (β 10)) 304 #[.string s, vi 0, .bool false] | 2 => σ 4 = vp (pb (β 10)) | _ => True) [0, 1] [1, 2] [(4, 2, 1, 5), (4, 0, 2, 6)] hst1 ?_ ?_ ?_))
  · exact fun ix _ _ _ _ _ _ hs hb hx h => match ix, h with
    | 1, h => by dsimp only at h ⊢; rw [← hs 10 rfl, ← hb 10 rfl, ← hx 1 rfl]; exact h
    | 2, h => by dsimp only at h ⊢; rw [← hs 4 rfl, ← hb 10 rfl]; exact h
    | 0, _ | _ + 3, _ => trivial
  · refine ⟨?_, ?_, trivial⟩
    · refine sv_any rfl rfl fun ρ β W X cx => ?_
      refine DoesU.call (run_callF (args := #[.string s]) rfl cx.sees rfl (by kernel_rfl) (map1 (cx.an 0))) ?_
      refine (oread_b s _).mono ?_
      rintro e W1 ⟨B4, rfl, ⟨hb4, hw4⟩, hx⟩
      refine ⟨_, rfl, post_call [eB B4 304 #[.string s, vi 0, .bool false]] rfl rfl hx (one_new ⟨hb4, eB_loc _ _ _, fun k hk => by simp [eB] at hk; subst hk; exact ⟨hw4, hb4.lt⟩⟩) (List.pairwise_singleton _ _) (fun σ β' X' hs hb hv hN => ?_)⟩
      have hv1 := (hv 10 rfl).1; have hv2 := (hv 10 rfl).2
      exact ⟨hv1.trans (by rw [hv2]; rfl), (by rw [hv2]; exact (List.cons.inj hN).1)⟩
    · exact sv rfl rfl rfl rfl rfl _ (fun _ _ _ h => h) (fun β β' h => by rw [h 10 (by decide)]) fun ρ β W X cx => run_assign' rfl (dTn (cx.an 1)).1
  intro σ β X W2 hD hst2 fr hfr
  obtain ⟨B10_2, hu_B10_2⟩ : ∃ z, pb (β 10) = z := ⟨_, rfl⟩
  simp only [exq 1 ((dTn (hD 1 lq)).2), hu_B10_2] at hst2
  simp only [ed 10 ((dTn (hD 1 lq)).1), ed 4 ((dTn (hD 2 lq))), hu_B10_2] at hfr
  clear hD hu_B10_2; subst hfr; clear σ β X
  refine then_normal (wp_seq (wp_region_Y [0, 1, 0, 7, 15, 0, 63] [[], [1], [], [2], [], [], [4]] [[], [2], [], [3], [], [4], [5]] [[], [1], [], [2], [], [], [4]] [.k 11 (vp B10_2), .a 12, .k 13 (vp B10_2), .a 14, .c 15 (.agg #[vi ((numS s 0 1 : Int)), vi ((numS s 1 1 : Int)), vi 0, vi 0, .bool false, .slice none 0 0]), .a 5, .n] (fun ix σ β X => match ix with | 0 => True | 1 => σ 12 = vi ((numS s 0 1 : Int)) ∧ X 2 = eB B10_2 304 #[.string s, vi 1, .bool false] | 2 => True | 3 => σ 14 = vi ((numS s 1 1 : Int)) ∧ X 3 = eB B10_2 304 #[.string s, vi 2, .bool false] | 4 => True | 5 => σ 5 = vp (pb (β 5)) ∧ X 4 = eB (pb (β 5)) 41 #[vi 0, vi 0, vi 0, vi 0, .bool false, .slice none 0 0] | 6 => X 5 = eB (pb (β 5)) 41 #[vi ((numS s 0 1 : Int)), vi ((numS s 1 1 : Int)), vi 0, vi 0, .bool false, .slice none 0 0] | _ => True) [0, 3, 5] [1, 3, 4, 5, 6] [(5, 5, 1, 6), (5, 0, 5, 10)] hst2 ?_ ?_ ?_))
  · exact fun ix _ _ _ _ _ _ hs hb hx h => match ix, h with
    | 1, h => by dsimp only at h ⊢; rw [← hs 12 rfl, ← hx 2 rfl]; exact h
    | 3, h => by dsimp only at h ⊢; rw [← hs 14 rfl, ← hx 3 rfl]; exact h
    | 5, h => by dsimp only at h ⊢; rw [← hs 5 rfl, ← hb 5 rfl, ← hx 4 rfl]; exact h
    | 6, h => by dsimp only at h ⊢; rw [← hb 5 rfl, ← hx 5 rfl]; exact h
    | 0, _ | 2, _ | 4, _ | _ + 7, _ => trivial
  · refine ⟨?_, ?_, ?_, ?_, ?_, trivial⟩
    · refine sv_any rfl rfl fun ρ β W X cx => ?_
      refine DoesU.call (run_callF (args := #[vp B10_2, vi 1]) rfl cx.sees rfl (by kernel_rfl) (map2 (cx.an 0) (cx.co _))) ?_
      refine (num_ok _ s 0 1 _ ⟨(cx.bi 1 rfl), by omega, by omega⟩ (by omega) (by omega)).mono ?_
      rintro e W1 ⟨rfl, hrd, hu⟩
      refine ⟨_, rfl, post_mut (cx.init 1 _ rfl) rfl rfl hu hrd.1 (fun σ β' X' hs hb hv hx => ?_)⟩
      exact ⟨(hv 12 rfl).1.trans rfl, hx⟩
    · refine sv_any rfl rfl fun ρ β W X cx => ?_
      refine DoesU.call (run_callF (args := #[vp B10_2, vi 1]) rfl cx.sees rfl (by kernel_rfl) (map2 (cx.an 2) (cx.co _))) ?_
      refine (num_ok _ s 1 1 _ ⟨(cx.blk (dTn (cx.an 1)).2 rfl), by omega, by omega⟩ (by omega) (by omega)).mono ?_
      rintro e W1 ⟨rfl, hrd, hu⟩
      refine ⟨_, rfl, post_mut (dTn (cx.an 1)).2 rfl rfl hu hrd.1 (fun σ β' X' hs hb hv hx => ?_)⟩
      exact ⟨(hv 14 rfl).1.trans rfl, hx⟩
    · exact xs4 rfl id fun cx => run_buildL rfl (pmc (dTn (cx.an 1)).1 (pmc (dTn (cx.an 3)).1 pmn)) (by kernel_rfl)
    · refine sv_any rfl rfl fun ρ β W X cx => ?_
      exact dv_alloc (cs := #[vi 0, vi 0, vi 0, vi 0, .bool false, .slice none 0 0]) rfl (by kernel_rfl) rfl rfl (fun σ β' X' hs hb hv hx => ⟨hv, hx⟩)
    · refine sv_any rfl rfl fun ρ β W X cx => ?_
      exact dv_store (n := 6) rfl (dTn (cx.an 5)).1 (cx.an 4) (by kernel_rfl) (by kernel_rfl) (by kernel_rfl) cx (dTn (cx.an 5)).2 rfl (nle rfl) (by kernel_rfl) rfl rfl rfl (fun σ β' X' hs hb hx => by rw [hb 5]; exact hx)
  intro σ β X W3 hD hst3 fr hfr
  obtain ⟨B5_3, hu_B5_3⟩ : ∃ z, pb (β 5) = z := ⟨_, rfl⟩
  simp only [exq 3 ((dTn (hD 3 lq)).2), exq 5 ((dTn (hD 6 lq))), hu_B5_3] at hst3
  simp only [ed 12 ((dTn (hD 1 lq)).1), ed 14 ((dTn (hD 3 lq)).1), ed 5 ((dTn (hD 5 lq)).1), hu_B5_3] at hfr
  clear hD hu_B5_3; subst hfr; clear σ β X
  refine then_normal (wp_seq (wp_region_Y [0, 1, 3, 0, 11, 31, 63, 127] [[], [1], [], [], [3], [], [], [2]] [[], [3], [], [], [4], [], [], [5]] [[], [1], [], [], [3], [], [], [2]] [.k 16 (vp B10_2), .a 17, .c 18 (vi ((numS s 2 2 : Int) - 1)), .k 19 (vp B10_2), .a 20, .c 21 (.agg #[vi ((numS s 2 2 : Int) - 1), vi ((numS s 4 1 : Int))]), .k 22 (.pointer (some ⟨B5_3, 2, none⟩)), .n] (fun ix σ β X => match ix with | 0 => True | 1 => σ 17 = vi ((numS s 2 2 : Int)) ∧ X 3 = eB B10_2 304 #[.string s, vi 4, .bool false] | 2 => True | 3 => True | 4 => σ 20 = vi ((numS s 4 1 : Int)) ∧ X 4 = eB B10_2 304 #[.string s, vi 5, .bool false] | 5 => True | 6 => True | 7 => X 5 = eB B5_3 41 #[vi ((numS s 0 1 : Int)), vi ((numS s 1 1 : Int)), vi ((numS s 2 2 : Int) - 1), vi ((numS s 4 1 : Int)), .bool false, .slice none 0 0] | _ => True) [0, 4, 5] [1, 2, 4, 5, 7] [(16, 0, 7, 23)] hst3 ?_ ?_ ?_))
  · exact fun ix _ _ _ _ _ _ hs hb hx h => match ix, h with
    | 1, h => by dsimp only at h ⊢; rw [← hs 17 rfl, ← hx 3 rfl]; exact h
    | 4, h => by dsimp only at h ⊢; rw [← hs 20 rfl, ← hx 4 rfl]; exact h
    | 7, h => by dsimp only at h ⊢; rw [← hx 5 rfl]; exact h
    | 0, _ | 2, _ | 3, _ | 5, _ | 6, _ | _ + 8, _ => trivial
  · refine ⟨?_, ?_, ?_, ?_, ?_, trivial⟩
    · refine sv_any rfl rfl fun ρ β W X cx => ?_
      refine DoesU.call (run_callF (args := #[vp B10_2, vi 2]) rfl cx.sees rfl (by kernel_rfl) (map2 (cx.an 0) (cx.co _))) ?_
      refine (num_ok _ s 2 2 _ ⟨(cx.bi 1 rfl), by omega, by omega⟩ (by omega) (by omega)).mono ?_
      rintro e W1 ⟨rfl, hrd, hu⟩
      refine ⟨_, rfl, post_mut (cx.init 1 _ rfl) rfl rfl hu hrd.1 (fun σ β' X' hs hb hv hx => ?_)⟩
      exact ⟨(hv 17 rfl).1.trans rfl, hx⟩
    · exact xs4 rfl id fun cx => run_bin rfl (dTn (cx.an 1)).1 (cx.co _) (congrArg (fun z => some (Value.int .i64 z)) ((IntWalk.i64_in _ (by omega)).trans (by omega)))
    · refine sv_any rfl rfl fun ρ β W X cx => ?_
      refine DoesU.call (run_callF (args := #[vp B10_2, vi 1]) rfl cx.sees rfl (by kernel_rfl) (map2 (cx.an 3) (cx.co _))) ?_
      refine (num_ok _ s 4 1 _ ⟨(cx.blk (dTn (cx.an 1)).2 rfl), by omega, by omega⟩ (by omega) (by omega)).mono ?_
      rintro e W1 ⟨rfl, hrd, hu⟩
      refine ⟨_, rfl, post_mut (dTn (cx.an 1)).2 rfl rfl hu hrd.1 (fun σ β' X' hs hb hv hx => ?_)⟩
      exact ⟨(hv 20 rfl).1.trans rfl, hx⟩
    · exact xs4 rfl id fun cx => run_buildL rfl (pmc (cx.an 2) (pmc (dTn (cx.an 4)).1 pmn)) (by kernel_rfl)
    · refine sv_any rfl rfl fun ρ β W X cx => ?_
      exact dv_store (n := 2) rfl (cx.an 6) (cx.an 5) (by kernel_rfl) (by kernel_rfl) (by kernel_rfl) cx (cx.init 2 _ rfl) rfl (nle rfl) (by kernel_rfl) rfl rfl rfl (fun σ β' X' hs hb hx => hx)
  intro σ β X W4 hD hst4 fr hfr
  simp only [exq 4 ((dTn (hD 4 lq)).2), exq 5 ((dTn (hD 7 lq)))] at hst4
  simp only [ed 17 ((dTn (hD 1 lq)).1), ed 20 ((dTn (hD 4 lq)).1)] at hfr
  clear hD; subst hfr; clear σ β X
  refine then_normal (wp_seq (wp_region_Y [0, 1, 3, 7, 15] [[], [1], [], [], [2]] [[], [3], [], [], [4]] [[], [1], [], [], [2]] [.k 23 (vp B10_2), .a 24, .c 25 (.bool ((numS s 5 1 : Int) == 1)), .k 26 (.pointer (some ⟨B5_3, 4, none⟩)), .n] (fun ix σ β X => match ix with | 0 => True | 1 => σ 24 = vi ((numS s 5 1 : Int)) ∧ X 3 = eB B10_2 304 #[.string s, vi 6, .bool false] | 2 => True | 3 => True | 4 => X 4 = eB B5_3 41 #[vi ((numS s 0 1 : Int)), vi ((numS s 1 1 : Int)), vi ((numS s 2 2 : Int) - 1), vi ((numS s 4 1 : Int)), .bool ((numS s 5 1 : Int) == 1), .slice none 0 0] | _ => True) [0, 3, 4] [1, 2, 4] [(23, 0, 4, 27)] hst4 ?_ ?_ ?_))
  · exact fun ix _ _ _ _ _ _ hs hb hx h => match ix, h with
    | 1, h => by dsimp only at h ⊢; rw [← hs 24 rfl, ← hx 3 rfl]; exact h
    | 4, h => by dsimp only at h ⊢; rw [← hx 4 rfl]; exact h
    | 0, _ | 2, _ | 3, _ | _ + 5, _ => trivial
  · refine ⟨?_, ?_, ?_, trivial⟩
    · refine sv_any rfl rfl fun ρ β W X cx => ?_
      refine DoesU.call (run_callF (args := #[vp B10_2, vi 1]) rfl cx.sees rfl (by kernel_rfl) (map2 (cx.an 0) (cx.co _))) ?_
      refine (num_ok _ s 5 1 _ ⟨(cx.bi 1 rfl), by omega, by omega⟩ (by omega) (by omega)).mono ?_
      rintro e W1 ⟨rfl, hrd, hu⟩
      refine ⟨_, rfl, post_mut (cx.init 1 _ rfl) rfl rfl hu hrd.1 (fun σ β' X' hs hb hv hx => ?_)⟩
      exact ⟨(hv 24 rfl).1.trans rfl, hx⟩
    · exact xs4 rfl id fun cx => run_bin rfl (dTn (cx.an 1)).1 (cx.co _) rfl
    · refine sv_any rfl rfl fun ρ β W X cx => ?_
      exact dv_store (n := 1) rfl (cx.an 3) (cx.an 2) (by kernel_rfl) (by kernel_rfl) (by kernel_rfl) cx (cx.init 2 _ rfl) rfl (nle rfl) (by kernel_rfl) rfl rfl rfl (fun σ β' X' hs hb hx => hx)
  intro σ β X W5 hD hst5 fr hfr
  simp only [exq 3 ((dTn (hD 1 lq)).2), exq 4 ((dTn (hD 4 lq)))] at hst5
  simp only [ed 24 ((dTn (hD 1 lq)).1)] at hfr
  clear hD; subst hfr; clear σ β X
  refine then_normal (wp_seq (wp_region_Y [0, 1, 3] [[], [1]] [[], [3]] [[], [1]] [.k 27 (vp B10_2), .a 28, .c 6 (.string (textS s 6))] (fun ix σ β X => match ix with | 0 => True | 1 => σ 28 = .string (textS s 6) ∧ X 3 = eB B10_2 304 #[.string s, vi (((6 + 2 + numS s 6 2 : Nat) : Int)), .bool false] | _ => True) [0, 2, 3] [1, 2] [(6, 2, 1, 7), (20, 0, 2, 22)] hst5 ?_ ?_ ?_))
  · exact fun ix _ _ _ _ _ _ hs hb hx h => match ix, h with
    | 1, h => by dsimp only at h ⊢; rw [← hs 28 rfl, ← hx 3 rfl]; exact h
    | 0, _ | _ + 2, _ => trivial
  · refine ⟨?_, ?_, trivial⟩
    · refine sv_any rfl rfl fun ρ β W X cx => ?_
      refine DoesU.call (run_callF (args := #[vp B10_2]) rfl cx.sees rfl (by kernel_rfl) (map1 (cx.an 0))) ?_
      refine (text_ok _ s 6 _ ⟨(cx.bi 1 rfl), by omega, by omega⟩ (by omega) (by omega)).mono ?_
      rintro e W1 ⟨rfl, hrd, hu⟩
      refine ⟨_, rfl, post_mut (cx.init 1 _ rfl) rfl rfl hu hrd.1 (fun σ β' X' hs hb hv hx => ?_)⟩
      exact ⟨(hv 28 rfl).1.trans rfl, hx⟩
    · exact xs4 rfl id fun cx => run_assign' rfl (dTn (cx.an 1)).1
  intro σ β X W6 hD hst6 fr hfr
  simp only [exq 3 ((dTn (hD 1 lq)).2)] at hst6
  simp only [ed 28 ((dTn (hD 1 lq)).1)] at hfr
  clear hD; subst hfr; clear σ β X
  refine then_normal (wp_seq (wp_seq (wp_region_Y [0, 1] [[], [2]] [] [] [.k 29 (vp B10_2), .a 30] (fun ix σ β X => match ix with | 0 => True | 1 => σ 30 = .bool false | _ => True) [0, 1, 2] [1] [(29, 0, 2, 31)] hst6 ?_ ?_ ?_)))
  · exact fun ix _ _ _ _ _ _ hs hb hx h => match ix, h with
    | 1, h => (hs _ rfl).symm.trans h
    | 0, _ | _ + 2, _ => trivial
  · refine ⟨?_, trivial⟩
    · refine sv_any rfl rfl fun ρ β W X cx => ?_
      refine DoesU.call (run_callF (args := #[vp B10_2]) rfl cx.sees rfl (by kernel_rfl) (map1 (cx.an 0))) ?_
      refine (failed_any _ s (((6 + 2 + numS s 6 2 : Nat))) false _ ⟨(cx.bi 2 rfl), by omega, by omega⟩).mono ?_
      rintro e W1 ⟨rfl, rfl⟩
      refine ⟨_, rfl, post_call [] rfl rfl (Ext.refl _) (by simp) List.Pairwise.nil (fun σ β' X' hs hb hv hN => ?_)⟩
      have hv1 := (hv 30 rfl).1; have hv2 := (hv 30 rfl).2
      exact hv1.trans rfl
  intro σ β X W7 hD hst7 fr hfr
  simp only [ed 30 ((dTn (hD 1 lq)))] at hfr
  clear hD; subst hfr; clear σ β X
  refine then_normal (wp_cond_false (show Act.eval _ _ = .bool false from rfl) (wp_skip (then_normal (wp_seq (wp_region_Y [0, 1, 3, 7, 7, 15, 63] [] [[], [3]] [] [.k 33 (.string (textS s 6)), .a 34, .a 32, .a 35, .c 36 (vi 0), .a 7, .k 8 (vi 0)] (fun ix σ β X => match ix with | 0 => True | 1 => σ 34 = .tuple #[.slice (sA (tg (β 34) 0)) rs.length (sC (tg (β 34) 0)), vi 0] ∧ X 3 = eO 45 3 (.slice (sA (tg (β 34) 0)) rs.length (sC (tg (β 34) 0))) rs.length (flatR rs) | 2 => σ 32 = .tuple #[.slice (sA (tg (β 34) 0)) rs.length (sC (tg (β 34) 0)), vi 0] | 3 => σ 35 = .slice (sA (tg (β 34) 0)) rs.length (sC (tg (β 34) 0)) | 4 => True | 5 => σ 7 = .slice (sA (tg (β 34) 0)) rs.length (sC (tg (β 34) 0)) | _ => True) [0, 1, 2, 3] [1, 2, 3, 4, 5] [(7, 5, 2, 9), (23, 2, 1, 24), (0, 0, 2, 2), (0, 3, 2, 2)] hst7 ?_ ?_ ?_)))))
  · exact fun ix _ _ _ _ _ _ hs hb hx h => match ix, h with
    | 1, h => by dsimp only at h ⊢; rw [← hs 34 rfl, ← hb 34 rfl, ← hx 3 rfl]; exact h
    | 2, h => by dsimp only at h ⊢; rw [← hs 32 rfl, ← hb 34 rfl]; exact h
    | 3, h => by dsimp only at h ⊢; rw [← hs 35 rfl, ← hb 34 rfl]; exact h
    | 5, h => by dsimp only at h ⊢; rw [← hs 7 rfl, ← hb 34 rfl]; exact h
    | 0, _ | 4, _ | _ + 6, _ => trivial
  · refine ⟨?_, ?_, ?_, ?_, ?_, trivial⟩
    · refine sv_any rfl rfl fun ρ β W X cx => ?_
      refine DoesU.call (run_callF (args := #[.string (textS s 6)]) rfl cx.sees rfl (by kernel_rfl) (map1 (cx.an 0))) ?_
      refine (HV _).mono ?_
      rintro e W1 ⟨A4, c4, rfl, ho, hx⟩
      refine ⟨_, rfl, post_call [eO 45 3 (.slice A4 rs.length c4) rs.length (flatR rs)] rfl rfl hx (one_new (eO_new ho)) (List.pairwise_singleton _ _) (fun σ β' X' hs hb hv hN => ?_)⟩
      have hv1 := (hv 34 rfl).1; have hv2 := (hv 34 rfl).2
      exact ⟨hv1.trans (by rw [hv2]; rfl), (by rw [hv2]; exact (List.cons.inj hN).1)⟩
    · exact sv rfl rfl rfl rfl rfl _ (fun _ _ _ h => h) (fun β β' h => by rw [h 34 (by decide)]) fun ρ β W X cx => run_move' rfl (dTn (cx.an 1)).1
    · exact sv rfl rfl rfl rfl rfl _ (fun _ _ _ h => h) (fun β β' h => by rw [h 34 (by decide)]) fun ρ β W X cx => run_extract' rfl (dTn (cx.an 2)) rfl
    · exact xs4 rfl id fun cx => run_extract' rfl (dTn (cx.an 2)) rfl
    · exact sv rfl rfl rfl rfl rfl _ (fun _ _ _ h => h) (fun β β' h => by rw [h 34 (by decide)]) fun ρ β W X cx => run_assign' rfl (dTn (cx.an 3))
  intro σ β X W8 hD hst8 fr hfr
  obtain ⟨A34_8, hu_A34_8⟩ : ∃ z, sA (tg (β 34) 0) = z := ⟨_, rfl⟩
  obtain ⟨c34_8, hu_c34_8⟩ : ∃ z, sC (tg (β 34) 0) = z := ⟨_, rfl⟩
  simp only [exq 3 ((dTn (hD 1 lq)).2), hu_A34_8, hu_c34_8] at hst8
  simp only [ed 34 ((dTn (hD 1 lq)).1), ed 32 ((dTn (hD 2 lq))), ed 35 ((dTn (hD 3 lq))), ed 7 ((dTn (hD 5 lq))), hu_A34_8, hu_c34_8] at hfr
  clear hD hu_A34_8 hu_c34_8; subst hfr; clear σ β X
  refine then_normal (wp_seq (wp_region_Y [0, 1, 3] [[], [], [1]] [[], [], [4]] [[], [], [1]] [.k 37 (.slice A34_8 rs.length c34_8), .k 38 (.pointer (some ⟨B5_3, 5, none⟩)), .n] (fun ix σ β X => match ix with | 0 => True | 1 => True | 2 => X 4 = eB B5_3 41 #[vi ((numS s 0 1 : Int)), vi ((numS s 1 1 : Int)), vi ((numS s 2 2 : Int) - 1), vi ((numS s 4 1 : Int)), .bool ((numS s 5 1 : Int) == 1), .slice A34_8 rs.length c34_8] | _ => True) [0, 2, 3, 4] [2] [(37, 0, 2, 39)] hst8 ?_ ?_ ?_))
  · exact fun ix _ _ _ _ _ _ hs hb hx h => match ix, h with
    | 2, h => by dsimp only at h ⊢; rw [← hx 4 rfl]; exact h
    | 0, _ | 1, _ | _ + 3, _ => trivial
  · refine ⟨?_, trivial⟩
    · refine sv_any rfl rfl fun ρ β W X cx => ?_
      exact dv_store (n := 1) rfl (cx.an 1) (cx.an 0) (by kernel_rfl) (by kernel_rfl) (by kernel_rfl) cx (cx.init 1 _ rfl) rfl (nle rfl) (by kernel_rfl) rfl rfl rfl (fun σ β' X' hs hb hx => hx)
  intro σ β X W9 hD hst9 fr hfr
  simp only [exq 4 ((dTn (hD 2 lq)))] at hst9
  clear hD; subst hfr; clear σ β X
  refine then_normal (wp_seq (wp_seq ?_))
  have hd11 : (!((tbytesF (numS s 0 1 : Int) (numS s 1 1 : Int) ((numS s 2 2 : Int) - 1) (numS s 4 1 : Int) ((numS s 5 1 : Int) == 1) rs).toList == s.toList)) = false := by rw [hB]; simp
  refine wp_region_Z [0, 1, 3, 7, 15, 7, 63, 127] [[], [], [], [3], [2]] [.k 39 (vi 0), .k 40 (.bool false), .k 41 (.bool false), .c 42 (.agg #[vi ((numS s 0 1 : Int)), vi ((numS s 1 1 : Int)), vi ((numS s 2 2 : Int) - 1), vi ((numS s 4 1 : Int)), .bool ((numS s 5 1 : Int) == 1), .slice A34_8 rs.length c34_8]), .c 43 (.string (tbytesF (numS s 0 1 : Int) (numS s 1 1 : Int) ((numS s 2 2 : Int) - 1) (numS s 4 1 : Int) ((numS s 5 1 : Int) == 1) rs)), .k 44 (.string s), .e 45 (.bool (!((tbytesF (numS s 0 1 : Int) (numS s 1 1 : Int) ((numS s 2 2 : Int) - 1) (numS s 4 1 : Int) ((numS s 5 1 : Int) == 1) rs).toList == s.toList))) (.bool false) (congrArg Value.bool hd11), .k 46 (.bool false)] [0, 1, 2, 3] [3, 4] [(39, 0, 8, 47)] hst9 ?_ fun W10 hst10 => ?_
  · refine ⟨?_, ?_, trivial⟩
    · exact xs5 rfl id (fun cx => (cx.an 2)) fun cx => run_loadB (n := 6) rfl (by kernel_rfl) (by kernel_rfl) (cx.ou 5) (cx.bi 3 rfl) (nle rfl) rfl
    · exact sv_call_on rfl rfl rfl rfl rfl rfl (fun _ _ _ h => h) (fun _ _ _ _ cx => (cx.an 2)) fun ρ β W X cx => ⟨_, _, run_callF (args := #[.agg #[vi ((numS s 0 1 : Int)), vi ((numS s 1 1 : Int)), vi ((numS s 2 2 : Int) - 1), vi ((numS s 4 1 : Int)), .bool ((numS s 5 1 : Int) == 1), .slice A34_8 rs.length c34_8]]) rfl cx.sees rfl (by kernel_rfl) (map1 (cx.an 3)), tbytes_any (numS s 0 1 : Int) (numS s 1 1 : Int) ((numS s 2 2 : Int) - 1) (numS s 4 1 : Int) ((numS s 5 1 : Int) == 1) _ _ rs _ (At.of_ownN (cx.ri 2 rfl)) (by omega) (hN.ext cx.upd.to_ext)⟩
  refine then_normal (wp_cond_false (show Act.eval _ _ = .bool false from rfl) (wp_skip (then_normal (wp_seq (wp_region_Y [0, 1, 3] [[3], [0]] [[], [4]] [[], [0]] [.c 48 (.agg #[vi ((numS s 0 1 : Int)), vi ((numS s 1 1 : Int)), vi ((numS s 2 2 : Int) - 1), vi ((numS s 4 1 : Int)), .bool ((numS s 5 1 : Int) == 1), .slice A34_8 rs.length c34_8]), .n, .k 3 (vi 0)] (fun ix σ β X => match ix with | 0 => True | 1 => X 4 = eB B2_1 41 #[vi ((numS s 0 1 : Int)), vi ((numS s 1 1 : Int)), vi ((numS s 2 2 : Int) - 1), vi ((numS s 4 1 : Int)), .bool ((numS s 5 1 : Int) == 1), .slice A34_8 rs.length c34_8] | _ => True) [1, 2, 3, 4] [0, 1] [(3, 2, 1, 4), (44, 0, 1, 45)] hst10 ?_ ?_ ?_)))))
  · exact fun ix _ _ _ _ _ _ hs hb hx h => match ix, h with
    | 1, h => by dsimp only at h ⊢; rw [← hx 4 rfl]; exact h
    | 0, _ | _ + 2, _ => trivial
  · refine ⟨?_, ?_, trivial⟩
    · exact xs4 rfl id fun cx => run_loadB (n := 6) rfl (by kernel_rfl) (by kernel_rfl) (cx.ou 5) (cx.bi 3 rfl) (nle rfl) rfl
    · refine sv_any rfl rfl fun ρ β W X cx => ?_
      exact dv_store (n := 6) rfl (cx.ou 2) (cx.an 0) (by kernel_rfl) (by kernel_rfl) (by kernel_rfl) cx (cx.init 0 _ rfl) rfl (nle rfl) (by kernel_rfl) rfl rfl rfl (fun σ β' X' hs hb hx => hx)
  intro σ β X W12 hD hst12 fr hfr
  simp only [exq 4 ((dTn (hD 1 lq)))] at hst12
  clear hD; subst hfr; clear σ β X
  refine then_normal (wp_ret ?_)
  have hr13 : W12.cell? ⟨B2_1, 0, none⟩ = some (vi ((numS s 0 1 : Int))) := (hst12.blk 3 rfl).cell 0
  have hr14 : W12.cell? ⟨B2_1, 1, none⟩ = some (vi ((numS s 1 1 : Int))) := (hst12.blk 3 rfl).cell 1
  have hr15 : W12.cell? ⟨B2_1, 2, none⟩ = some (vi ((numS s 2 2 : Int) - 1)) := (hst12.blk 3 rfl).cell 2
  have hr16 : W12.cell? ⟨B2_1, 3, none⟩ = some (vi ((numS s 4 1 : Int))) := (hst12.blk 3 rfl).cell 3
  have hr17 : W12.cell? ⟨B2_1, 4, none⟩ = some (.bool ((numS s 5 1 : Int) == 1)) := (hst12.blk 3 rfl).cell 4
  have hr18 : W12.cell? ⟨B2_1, 5, none⟩ = some (.slice A34_8 rs.length c34_8) := (hst12.blk 3 rfl).cell 5
  refine bodyPost_ret (v := .tuple #[.agg #[vi ((numS s 0 1 : Int)), vi ((numS s 1 1 : Int)), vi ((numS s 2 2 : Int) - 1), vi ((numS s 4 1 : Int)), .bool ((numS s 5 1 : Int) == 1), .slice A34_8 rs.length c34_8], vi 0]) (by simp [results, Tryz.results60, go_sem, hr13, hr14, hr15, hr16, hr17, hr18]) rfl ?_
  exact ⟨_, _, rfl, hst12.own' 1 rfl, hst12.ext⟩
end
end Go.Proofs.YtjnplglnnamfdaaGreatDoor
namespace Go.Proofs.YtjnplglnnamfdaaGreatDoor
section
open Go.RowKit
set_option linter.unusedVariables false
set_option linter.unusedSimpArgs false
theorem bl_strL (l : List UInt8) : bl (strL l) = l := by simp [bl, strL]
theorem bl_catS (l : List ByteArray) : bl (catS l) = l.flatMap bl := by rw [catS, bl_strL]; rfl
theorem putS_bl (n : Int) (k : Nat) (h : k ≤ 8) : (bl (putS n k)).length = k := by rw [bl_len, putS_size n k h]
theorem hot_bd (ho : Bool) : 0 ≤ hotI ho ∧ hotI ho ≤ 1 := by cases ho <;> decide
theorem hot_eq (ho : Bool) : (hotI ho == 1) = ho := by cases ho <;> rfl
section
variable {a b n1 n2 : Int} {ho : Bool} {rs : List Val}
theorem tb_bl (h : trightF a b n1 n2 rs = true) : bl (tbytesF a b n1 n2 ho rs) = bl (putS a 1) ++ (bl (putS b 1) ++ (bl (putS (n1 + 1) 2) ++ (bl (putS n2 1) ++ (bl (putS (hotI ho) 1) ++ (bl (putS (vbytesF rs).size 2) ++ bl (vbytesF rs)))))) := by
  rw [tbytesF, if_pos h, bl_catS]
  simp [textO, bl_append]
theorem tb_size (h : trightF a b n1 n2 rs = true) : (tbytesF a b n1 n2 ho rs).size = 8 + (vbytesF rs).size := by
  rw [← bl_len, tb_bl h]
  simp only [List.length_append, putS_bl _ 1 (by omega), putS_bl _ 2 (by omega), bl_len]
  omega
theorem tb_0 (h : trightF a b n1 n2 rs = true) : (numS (tbytesF a b n1 n2 ho rs) 0 1 : Int) = a := by
  have hp := tright_parts h
  rw [numS_at (a := []) (p := 0) (tb_bl h) rfl (putS_bl _ 1 (by omega)), putS_num1 a (by omega) (by omega)]
theorem tb_1 (h : trightF a b n1 n2 rs = true) : (numS (tbytesF a b n1 n2 ho rs) 1 1 : Int) = b := by
  have hp := tright_parts h
  rw [numS_at (a := bl (putS a 1)) (p := 1) (tb_bl h) (putS_bl _ 1 (by omega)) (putS_bl _ 1 (by omega)), putS_num1 b (by omega) (by omega)]
theorem tb_2 (h : trightF a b n1 n2 rs = true) : (numS (tbytesF a b n1 n2 ho rs) 2 2 : Int) = n1 + 1 := by
  have hp := tright_parts h
  rw [numS_at (p := 2) (a := bl (putS a 1) ++ bl (putS b 1)) (by rw [tb_bl h, List.append_assoc]) (by rw [List.length_append, putS_bl _ 1 (by omega), putS_bl _ 1 (by omega)]) (putS_bl _ 2 (by omega)), putS_num2 (n1 + 1) (by omega) (by omega)]
theorem tb_4 (h : trightF a b n1 n2 rs = true) : (numS (tbytesF a b n1 n2 ho rs) 4 1 : Int) = n2 := by
  have hp := tright_parts h
  rw [numS_at (p := 4) (a := bl (putS a 1) ++ (bl (putS b 1) ++ bl (putS (n1 + 1) 2))) (b := bl (putS n2 1)) (c := bl (putS (hotI ho) 1) ++ (bl (putS (vbytesF rs).size 2) ++ bl (vbytesF rs))) (by rw [tb_bl h]; simp) (by simp only [List.length_append, putS_bl _ 1 (by omega), putS_bl _ 2 (by omega)]) (putS_bl _ 1 (by omega)), putS_num1 n2 (by omega) (by omega)]
theorem tb_5 (h : trightF a b n1 n2 rs = true) : (numS (tbytesF a b n1 n2 ho rs) 5 1 : Int) = hotI ho := by
  have hp := tright_parts h
  have hh := hot_bd ho
  rw [numS_at (p := 5) (a := bl (putS a 1) ++ (bl (putS b 1) ++ (bl (putS (n1 + 1) 2) ++ bl (putS n2 1)))) (b := bl (putS (hotI ho) 1)) (c := (bl (putS (vbytesF rs).size 2) ++ bl (vbytesF rs))) (by rw [tb_bl h]; simp) (by simp only [List.length_append, putS_bl _ 1 (by omega), putS_bl _ 2 (by omega)]) (putS_bl _ 1 (by omega)), putS_num1 (hotI ho) (by omega) (by omega)]
theorem tb_6 (h : trightF a b n1 n2 rs = true) : numS (tbytesF a b n1 n2 ho rs) 6 2 = (vbytesF rs).size := by
  have hv := vbytes_size rs
  have e := numS_at (s := tbytesF a b n1 n2 ho rs) (a := bl (putS a 1) ++ (bl (putS b 1) ++ (bl (putS (n1 + 1) 2) ++ (bl (putS n2 1) ++ bl (putS (hotI ho) 1))))) (b := bl (putS (vbytesF rs).size 2)) (c := bl (vbytesF rs)) (by rw [tb_bl h]; simp) (p := 6) (by simp only [List.length_append, putS_bl _ 1 (by omega), putS_bl _ 2 (by omega)]) (putS_bl _ 2 (by omega))
  have e2 := putS_num2 ((vbytesF rs).size : Int) (by omega) (by omega)
  rw [e]; omega
theorem tb_t (h : trightF a b n1 n2 rs = true) : textS (tbytesF a b n1 n2 ho rs) 6 = vbytesF rs := by
  have e : bl (tbytesF a b n1 n2 ho rs) = (bl (putS a 1) ++ (bl (putS b 1) ++ (bl (putS (n1 + 1) 2) ++ (bl (putS n2 1) ++ (bl (putS (hotI ho) 1) ++ bl (putS (vbytesF rs).size 2)))))) ++ (bl (vbytesF rs) ++ []) := by rw [tb_bl h]; simp
  rw [textS, tb_6 h, extr_at e (p := 6 + 2) (by simp only [List.length_append, putS_bl _ 1 (by omega), putS_bl _ 2 (by omega)]) (by rw [bl_len]), baOf_bl]
theorem plain_right (v : Val) : vrightF (plainV v) = vrightF v := by
  simp only [vrightF, plainV]
  by_cases h : v.1 = 2
  · simp [h]
  · have : (v.1 != 2) = true := by simpa using h
    rw [this]; simp
theorem plain_rright (rs : List Val) : rrightF (plainR rs) = rrightF rs := by
  simp only [rrightF, plainR, List.all_map, List.length_map]
  congr 2
  funext v
  exact plain_right v
theorem plain_valB (v : Val) : valB (plainV v) = valB v := by
  simp only [valB, plainV]
  by_cases h1 : v.1 = 1
  · simp [h1]
  · by_cases h2 : v.1 = 2
    · simp [h2]
    · simp [h1, h2]
theorem plain_vbytes (rs : List Val) : vbytesF (plainR rs) = vbytesF rs := by
  simp only [vbytesF, plain_rright]
  split
  · have hv : plainR rs = rs.map plainV := rfl
    simp only [bytesTo, plainR, List.length_map, ← List.map_take, List.flatMap_map]
    congr 2
    congr 1
    funext v
    exact plain_valB v
  · rfl
theorem plain_tright : trightF a b n1 n2 (plainR rs) = trightF a b n1 n2 rs := by rw [trightF, trightF, plain_rright]
theorem plain_tbytes : tbytesF a b n1 n2 ho (plainR rs) = tbytesF a b n1 n2 ho rs := by rw [tbytesF, tbytesF, plain_tright, plain_vbytes]
def NsOk (rs : List Val) : Prop := ∀ v ∈ rs, v.1 = 1 → -9223372036854775808 ≤ v.2.1 ∧ v.2.1 ≤ 9223372036854775807
theorem tread_of (w : World) (h : trightF a b n1 n2 rs = true) (hrN : NsOk rs) (hN : NoneAt w) : Calls Tryz.prog 60 #[.string (tbytesF a b n1 n2 ho rs)] w (VerRd a b n1 n2 ho (plainR rs) 0 w) := by
  have hr := (tright_parts h).2.2.2.2.2.2.2.2
  have hl6 := rright_len hr
  have hv := vbytes_size rs
  have HV : ∀ w, Calls Tryz.prog 133 #[.string (textS (tbytesF a b n1 n2 ho rs) 6)] w (RdRow (plainR rs) w) := fun w => by
    rw [tb_t h, vbytes_eq hr]
    refine (vread_any rs _ w hr hrN (u8_int (by omega))).mono ?_
    rintro e w' ⟨A, c, he, ho', hx⟩
    have hlen : (plainR rs).length = rs.length := by simp [plainR]
    exact ⟨A, c, by rw [hlen]; exact he, by rw [hlen]; exact ho', hx⟩
  have h2 := tread_good (tbytesF a b n1 n2 ho rs) (plainR rs) w (by rw [tb_size h]; omega) (by rw [tb_size h]; omega) (by rw [tb_size h, tb_6 h]; omega) (by simp only [plainR, List.length_map]; omega) hN HV (by
    rw [tb_0 h, tb_1 h, tb_2 h, tb_4 h, tb_5 h, hot_eq, show n1 + 1 - 1 = n1 by omega]; exact plain_tbytes)
  rw [tb_0 h, tb_1 h, tb_2 h, tb_4 h, tb_5 h, hot_eq, show n1 + 1 - 1 = n1 by omega] at h2
  exact h2
end
end
end Go.Proofs.YtjnplglnnamfdaaGreatDoor
namespace Go.Proofs.YtjnplglnnamfdaaGreatDoor
section
open Go.RowKit
set_option linter.unusedVariables false
set_option linter.unusedSimpArgs false
def shN (N : Int) (k : Nat) : Int := N / 256 ^ k
theorem shN_0 (N : Int) : shN N 0 = N := by simp [shN]
theorem shN_succ (N : Int) (k : Nat) : (shN N k).fdiv (2 ^ 8) = shN N (k + 1) := by
  rw [shN, shN, Int.fdiv_eq_ediv_of_nonneg _ (by decide), Int.pow_succ]
  exact Int.ediv_ediv_of_nonneg (Int.le_of_lt (Int.pow_pos (by decide)))
theorem putS_0 (N : Int) : putS N 0 = ⟨#[]⟩ := rfl
theorem putS_succ (N : Int) {k : Nat} (h : k < 8) : putS N (k + 1) = strOfNums [shN N k % 256] ++ putS N k := by
  apply bl_inj
  rw [bl_append]
  unfold putS bl
  rw [strOfNums_data, strOfNums_data, strOfNums_data, ← List.map_append]
  congr 1
  have hu : IntKind.u64.wrap N = N % 18446744073709551616 := by rw [IntKind.wrap_u64]
  unfold oct8 shN
  rw [hu]
  rcases (by omega : k = 0 ∨ k = 1 ∨ k = 2 ∨ k = 3 ∨ k = 4 ∨ k = 5 ∨ k = 6 ∨ k = 7) with rfl | rfl | rfl | rfl | rfl | rfl | rfl | rfl <;>
    simp only [Nat.reduceSub, Nat.reduceAdd, Int.reducePow, List.drop_succ_cons, List.drop_zero, List.cons_append, List.nil_append, List.cons.injEq, and_true] <;> omega
theorem oneS_of {x : Int} : oneS (x % 256) = strOfNums [x % 256] := by rw [oneS, Int.emod_emod_of_dvd _ (Int.dvd_refl _)]
theorem strL_app (a b : List UInt8) : strL a ++ strL b = strL (a ++ b) := by apply bl_inj; rw [bl_append, bl_strL, bl_strL, bl_strL]
theorem oneS_strL {x : Int} (h : 0 ≤ x ∧ x < 256) : oneS x = strL [UInt8.ofNat x.toNat] := by
  rw [oneS, show x % 256 = x by omega]; rfl
theorem strL_bl (s : ByteArray) : s = strL s.data.toList := (strL_data s).symm
section
variable {P : Program} {o : Oper} {ρ : Operand → Value} {W : World}
theorem run_shr {t t' : TypeId} {x y : Operand} {k k' : IntKind} {a b z : Int} (h : o.op = .binOp .shr t x y t') (hx : ρ x = .int k a) (hy : ρ y = .int k' b) (hb : 0 ≤ b) (hz : a.fdiv (2 ^ min b.toNat k.bits) = z) : (execOp ρ o).run P W = .ok (.value (.int k z)) W := by
  subst hz
  unfold execOp; rw [h]
  have : ¬ b < 0 := by omega
  simp [hx, hy, eqGuard, binOp, Op.shift, this]
end
theorem tb_cat {a b n1 n2 : Int} {ho : Bool} {rs : List Val} (h : trightF a b n1 n2 rs = true) : ((((((putS a 1 ++ putS b 1) ++ putS (n1 + 1) 2) ++ putS n2 1) ++ putS (hotI ho) 1) ++ putS ((vbytesF rs).size : Int) 2) ++ vbytesF rs) = tbytesF a b n1 n2 ho rs := by
  apply bl_inj
  rw [tb_bl h]
  simp only [bl_append, List.append_assoc]
set_option maxRecDepth 100000 in
set_option maxHeartbeats 2000000 in
theorem r02right_any (v : Val) (w : World) :
    Calls Tryz.prog 243 #[.agg #[.int .i64 v.1, .int .i64 v.2.1, .string v.2.2]] w (Ret (.bool (vrightF v)) w) := by
  go_enter Tryz.func243, Tryz.ntmps243
  have hst0 := St.start w
  refine wp_seq (wp_region_Y [0, 0] [] [[0]] [] [.a 1, .k 2 (.bool false)] (fun ix σ β X => match ix with | 0 => σ 1 = vp (pb (β 1)) ∧ X 0 = eB (pb (β 1)) 45 #[vi v.1, vi v.2.1, .string v.2.2] | _ => True) [0] [0] [(1, 0, 2, 3)] hst0 ?_ ?_ ?_)
  · exact fun ix _ _ _ _ _ _ hs hb hx h => match ix, h with
    | 0, h => by dsimp only at h ⊢; rw [← hs 1 rfl, ← hb 1 rfl, ← hx 0 rfl]; exact h
    | _ + 1, _ => trivial
  · refine ⟨?_, trivial⟩
    · refine sv_any rfl rfl fun ρ β W X cx => ?_
      exact dv_box (cs := #[vi v.1, vi v.2.1, .string v.2.2]) rfl (cx.ou 0) rfl rfl rfl (fun σ β' X' hs hb hv hx => ⟨hv, hx⟩)
  intro σ β X W1 hD hst1 fr hfr
  obtain ⟨B1_1, hu_B1_1⟩ : ∃ z, pb (β 1) = z := ⟨_, rfl⟩
  simp only [exq 0 ((dTn (hD 0 lq)).2), hu_B1_1] at hst1
  simp only [ed 1 ((dTn (hD 0 lq)).1), hu_B1_1] at hfr
  clear hD hu_B1_1; subst hfr; clear σ β X
  refine then_normal (wp_seq (wp_region_Z [0, 1, 3, 7, 15, 31, 63, 127, 255, 511, 1023, 2047, 4095, 8191, 16383, 32767, 65535, 131071, 262143, 524287] [[], [0], [], [], [], [0], [], [], [], [], [0], [], [], [], [0]] [.k 3 (vp B1_1), .c 4 (vi v.1), .k 5 (.bool (v.1 == 0)), .k 6 (.bool (v.1 == 0)), .z 7 (!(v.1 == 0)) (vp B1_1), .y 8 (!(v.1 == 0)) (vi v.1), .z 9 (!(v.1 == 0)) (.bool (v.1 == 1)), tO 10 (v.1 == 0) (v.1 == 1), .k 11 (.bool ((v.1 == 0) || (v.1 == 1))), .z 12 (!((v.1 == 0) || (v.1 == 1))) (vp B1_1), .y 13 (!((v.1 == 0) || (v.1 == 1))) (vi v.1), .z 14 (!((v.1 == 0) || (v.1 == 1))) (.bool (v.1 == 2)), .z 15 (!((v.1 == 0) || (v.1 == 1))) (.bool (v.1 == 2)), .z 16 ((!((v.1 == 0) || (v.1 == 1))) && (v.1 == 2)) (.pointer (some ⟨B1_1, 2, none⟩)), .y 17 ((!((v.1 == 0) || (v.1 == 1))) && (v.1 == 2)) (.string v.2.2), .z 18 ((!((v.1 == 0) || (v.1 == 1))) && (v.1 == 2)) (vi ((v.2.2.size : Int))), .z 19 ((!((v.1 == 0) || (v.1 == 1))) && (v.1 == 2)) (.bool (decide ((v.2.2.size : Int) ≤ 40))), .y 20 (!((v.1 == 0) || (v.1 == 1))) (.bool ((v.1 == 2) && (decide ((v.2.2.size : Int) ≤ 40)))), tO 21 ((v.1 == 0) || (v.1 == 1)) ((v.1 == 2) && (decide ((v.2.2.size : Int) ≤ 40))), .k 2 (.bool (((v.1 == 0) || (v.1 == 1)) || ((v.1 == 2) && (decide ((v.2.2.size : Int) ≤ 40)))))] [0] [1, 5, 10, 14, 17] [(2, 19, 1, 3), (0, 0, 19, 19)] hst1 ?_ fun W2 hst2 => ?_))
  · refine ⟨?_, ?_, ?_, ?_, ?_, trivial⟩
    · exact xs4 rfl id fun cx => run_load1 rfl (by kernel_rfl) (cx.an 0) ((cx.bi 0 rfl).cell 0)
    · exact m2 rfl (fun _ _ _ h => h) (fun cx => (cx.an 3)) fun cx hq => run_load1 rfl (by kernel_rfl) (mbv (cx.an 4) hq) ((cx.bi 0 rfl).cell 0)
    · exact m2 rfl (fun _ _ _ h => h) (fun cx => (cx.an 8)) fun cx hq => run_load1 rfl (by kernel_rfl) (mbv (cx.an 9) hq) ((cx.bi 0 rfl).cell 0)
    · exact m0 rfl (fun _ _ _ h => h) (fun cx => (cx.an 12)) fun cx hq => run_load1 rfl (by kernel_rfl) (mbv (cx.an 13) hq) ((cx.bi 0 rfl).cell 2)
    · exact m2 rfl (fun _ _ _ h => h) (fun cx => (cx.an 8)) fun cx hq => run_pick_and rfl (mbv (cx.an 12) hq) (cx.an 16) (fun e_ => by rw [hq, e_]; rfl) (cx.co _)
  refine then_normal (wp_ret ?_)
  refine bodyPost_ret (v := .bool (((v.1 == 0) || (v.1 == 1)) || ((v.1 == 2) && (decide ((v.2.2.size : Int) ≤ 40))))) (results_tmp Tryz.results243 rfl) rfl ?_
  exact Ret.bool (Bool.eq_iff_iff.2 (by simp [vrightF, knownF]; omega)) hst2.ext
set_option maxRecDepth 100000 in
set_option maxHeartbeats 2000000 in
theorem r02row_any (RA : Option Addr) (rc : Nat) (rs : List Val) (w : World) (hA : At w RA (flatR rs)) (hlr : rs.length ≤ 9223372036854775807) :
    Calls Tryz.prog 209 #[.slice RA rs.length rc] w (Ret (.bool (rrightF rs)) w) := by
  go_enter Tryz.func209, Tryz.ntmps209
  have hst0 := St.start w
  refine wp_seq (wp_region_P [0] [.k 2 (.bool false)] [(2, 0, 1, 3)] hst0 fun W1 hst1 => ?_)
  refine then_normal (wp_seq (wp_seq (wp_region_P [0] [.k 3 (vi 0)] [(3, 0, 1, 4)] hst1 fun W2 hst2 => ?_)))
  refine then_normal (wp_block ?_)
  refine wp_loopN (fun mz az W => ∃ k : Nat, ∃ u3_ : List Value, k ≤ rs.length ∧ (rs.take k).all vrightF = true ∧ mz = rs.length - k ∧ az = ⟨#[.slice RA rs.length rc, undef, (gu u3_ 0), vi ((k : Int)), (gu u3_ 1), (gu u3_ 2), (gu u3_ 3), (gu u3_ 4), (gu u3_ 5), (gu u3_ 6), (gu u3_ 7), (gu u3_ 8), (gu u3_ 9), (gu u3_ 10), (gu u3_ 11), (gu u3_ 12), undef, undef, undef], []⟩ ∧ St w [] [] W) (rs.length - 0) ?_ ?_
  · -- the loop begins
    have hp4 := hst2.pick [] (by decide) rfl
    exact ⟨0, [.bool false, undef, undef, undef, undef, undef, undef, undef, undef, undef, undef, undef, undef], by omega, rfl, rfl, rfl, hp4⟩
  rintro n3 a3 W3 ⟨k, u3_, hk, hka, rfl, rfl, hst3⟩
  refine wp_seq (wp_seq (wp_region_P [0, 0, 2, 7] [.k 4 (vi ((k : Int))), .k 5 (.slice RA rs.length rc), .k 6 (vi ((rs.length : Int))), .k 7 (.bool (decide ((k : Int) < (rs.length : Int))))] [(4, 0, 4, 8)] hst3 fun W5 hst5 => ?_))
  refine then_normal ?_
  rcases Bool.eq_false_or_eq_true (decide ((k : Int) < (rs.length : Int))) with hs6 | hs6
  · skip
    have hs6p : (k : Int) < (rs.length : Int) := by simpa using hs6
    refine wp_cond_true (show Act.eval _ _ = .bool true from (congrArg Value.bool hs6)) (wp_skip (then_normal (wp_seq (wp_block (wp_seq (wp_region_Z [0, 0, 3, 7, 15, 31] [] [.k 10 (.slice RA rs.length rc), .k 11 (vi ((k : Int))), .c 12 (.pointer (some ((ad RA).add (k * 3)))), .c 13 (.agg #[vi ((rs.getD k v0).1), vi ((rs.getD k v0).2.1), .string ((rs.getD k v0).2.2)]), .c 14 (.bool (vrightF (rs.getD k v0))), .k 15 (.bool (!(vrightF (rs.getD k v0))))] [] [2, 3, 4] [(10, 0, 6, 16)] hst5 ?_ fun W7 hst7 => ?_))))))
    · refine ⟨?_, ?_, ?_, trivial⟩
      · exact xs4 rfl id fun cx => run_indexSlM (e := 45) (m := k) (sz := 3) rfl (by kernel_rfl) (by kernel_rfl) (cx.an 0) (cx.an 1) (by omega) (by omega) (hA.ext cx.upd.to_ext) (by have h_ := flatLen (f := cellsV) (sz := 3) cellsV_len rs; show 0 < (List.flatMap cellsV rs).length; omega)
      · exact xs4 rfl id fun cx => run_loadElt (f := cellsV) (m := k) (sz := 3) (off := 0) (n := 3) rfl (by kernel_rfl) (by kernel_rfl) (cx.an 2) rfl cellsV_len (hA.ext cx.upd.to_ext) (getD_some (ts := rs) (m := k) v0 (by omega)) (fun k hk => match k, hk with | 0, _ => rfl | 1, _ => rfl | 2, _ => rfl | k + 3, hk => absurd hk (by omega))
      · exact xsc rfl id rfl rfl fun cx => ⟨_, r02right_any (rs.getD k v0) _, (map1 (cx.an 3))⟩
    refine then_normal ?_
    rcases Bool.eq_false_or_eq_true (vrightF (rs.getD k v0)) with hs8 | hs8
    · skip
      refine wp_cond_false (show Act.eval _ _ = .bool false from (congrArg Value.bool (by rw [hs8]; rfl))) (wp_skip (blk_normal (then_normal (wp_region_P [0, 1, 3] [.k 8 (vi ((k : Int))), tI 9 ((k : Int) + 1) (by omega), .k 3 (vi ((k : Int) + 1))] [(3, 2, 1, 4), (4, 0, 2, 6)] hst7 fun W9 hst9 => ?_))))
      refine then_normal ?_
      refine ⟨rs.length - ((k + 1)), by omega, ?_⟩
      have hp10 := hst9.pick [] (by decide) rfl
      exact ⟨(k + 1), [(gu u3_ 0), vi ((k : Int)), .slice RA rs.length rc, vi ((rs.length : Int)), .bool (decide ((k : Int) < (rs.length : Int))), vi ((k : Int)), vi ((k : Int) + 1), .slice RA rs.length rc, vi ((k : Int)), .pointer (some ((ad RA).add (k * 3))), .agg #[vi ((rs.getD k v0).1), vi ((rs.getD k v0).2.1), .string ((rs.getD k v0).2.2)], .bool (vrightF (rs.getD k v0)), .bool (!(vrightF (rs.getD k v0)))], by omega, rright_step (by omega) hka hs8, rfl, rfl, hp10⟩
    refine wp_cond_true (show Act.eval _ _ = .bool true from (congrArg Value.bool (by rw [hs8]; rfl))) (wp_seq (wp_region_P [0] [.k 2 (.bool false)] [(2, 0, 1, 3)] hst7 fun W11 hst11 => ?_))
    refine then_normal (wp_ret (blk_ret (then_ret (then_ret (blk_ret (then_ret ?_))))))
    refine bodyPost_ret (v := .bool false) (results_tmp Tryz.results209 rfl) rfl ?_
    exact Ret.bool (rright_bad (by omega) hs8).symm hst11.ext
  have hs6p : ¬ ((k : Int) < (rs.length : Int)) := by simpa using hs6
  refine wp_cond_false (show Act.eval _ _ = .bool false from (congrArg Value.bool hs6)) (wp_exit (then_exit (then_exit (blk_eq (then_normal (wp_seq (wp_region_P [0, 1, 3, 7] [.k 16 (.slice RA rs.length rc), .k 17 (vi ((rs.length : Int))), .k 18 (.bool (decide ((rs.length : Int) ≤ 6))), .k 2 (.bool (decide ((rs.length : Int) ≤ 6)))] [(2, 3, 1, 3), (13, 0, 3, 16)] hst5 fun W12 hst12 => ?_)))))))
  refine then_normal (wp_ret ?_)
  refine bodyPost_ret (v := .bool (decide ((rs.length : Int) ≤ 6))) (results_tmp Tryz.results209 rfl) rfl ?_
  exact Ret.bool (by rw [rright_end (by omega) hka, decide_eq_decide]; omega) hst12.ext
set_option maxRecDepth 100000 in
set_option maxHeartbeats 2000000 in
theorem r02whole_any (N : Int) (w : World) :
    Calls Tryz.prog 210 #[.int .i64 N] w (Ret (.string (putS N 8)) w) := by
  go_enter Tryz.func210, Tryz.ntmps210
  have hst0 := St.start w
  refine wp_seq (wp_region_P [0] [.k 2 (.string ⟨#[]⟩)] [(2, 0, 1, 3)] hst0 fun W1 hst1 => ?_)
  refine then_normal (wp_seq (wp_region_P [0] [.k 3 (.string ⟨#[]⟩)] [(3, 0, 1, 4)] hst1 fun W2 hst2 => ?_))
  refine then_normal (wp_seq (wp_seq (wp_region_P [0] [.k 4 (vi 0)] [(4, 0, 1, 5)] hst2 fun W3 hst3 => ?_)))
  refine then_normal (wp_block ?_)
  refine wp_loopN (fun mz az W => ∃ k : Nat, ∃ u4_ : List Value, k ≤ 8 ∧ mz = 8 - k ∧ az = ⟨#[vi (shN N k), undef, .string ⟨#[]⟩, .string (putS N k), vi ((k : Int)), (gu u4_ 0), (gu u4_ 1), (gu u4_ 2), (gu u4_ 3), (gu u4_ 4), (gu u4_ 5), (gu u4_ 6), (gu u4_ 7), (gu u4_ 8), (gu u4_ 9), (gu u4_ 10), undef], []⟩ ∧ St w [] [] W) (8 - 0) ?_ ?_
  · -- the loop begins
    have hp5 := hst3.pick [] (by decide) rfl
    exact ⟨0, [undef, undef, undef, undef, undef, undef, undef, undef, undef, undef, undef], by omega, rfl, (by rw [shN_0, putS_0]; rfl), hp5⟩
  rintro n4 a4 W4 ⟨k, u4_, hk, rfl, rfl, hst4⟩
  refine wp_seq (wp_seq (wp_region_P [0, 1] [.k 5 (vi ((k : Int))), .k 6 (.bool (decide ((k : Int) < 8)))] [(5, 0, 2, 7)] hst4 fun W6 hst6 => ?_))
  refine then_normal ?_
  rcases Bool.eq_false_or_eq_true (decide ((k : Int) < 8)) with hs7 | hs7
  · skip
    have hs7p : (k : Int) < 8 := by simpa using hs7
    refine wp_cond_true (show Act.eval _ _ = .bool true from (congrArg Value.bool hs7)) (wp_skip (then_normal (wp_seq (wp_block (wp_seq (wp_region_Z [0, 1, 3, 0, 15, 31] [] [.k 9 (vi (shN N k)), tAn 10 .i64 (shN N k) 255 ((shN N k) % 256) (bits_mask (shN N k) 8 (by decide)), .c 11 (.string (oneS ((shN N k) % 256))), .k 12 (.string (putS N k)), .c 13 (.string (putS N (k + 1))), .k 3 (.string (putS N (k + 1)))] [] [2, 4] [(3, 5, 1, 4), (5, 0, 5, 10)] hst6 ?_ fun W8 hst8 => ?_))))))
    · refine ⟨?_, ?_, trivial⟩
      · exact xsc rfl id rfl rfl fun cx => ⟨_, one_any ((shN N k) % 256) _, (map1 (cx.an 1))⟩
      · exact xs4 rfl id fun cx => (by rw [putS_succ N (by omega), ← oneS_of]; exact run_strcat rfl (cx.an 2) (cx.an 3) (by rw [oneS_size, putS_size N k (by omega)]; first | omega | (simp only [List.length_cons, List.length_nil]; omega)))
    refine then_normal (wp_region_Z [0, 1, 3] [] [.k 14 (vi (shN N k)), .c 15 (vi (shN N (k + 1))), .k 0 (vi (shN N (k + 1)))] [] [1] [(0, 2, 1, 1), (13, 0, 2, 15)] hst8 ?_ fun W9 hst9 => ?_)
    · refine ⟨?_, trivial⟩
      · exact xs4 rfl id fun cx => run_shr rfl (cx.an 0) (cx.co _) (by decide) (shN_succ N k)
    refine blk_normal (then_normal (wp_region_P [0, 1, 3] [.k 7 (vi ((k : Int))), tI 8 ((k : Int) + 1) (by omega), .k 4 (vi ((k : Int) + 1))] [(4, 2, 1, 5), (2, 0, 2, 4)] hst9 fun W10 hst10 => ?_))
    refine then_normal ?_
    refine ⟨8 - ((k + 1)), by omega, ?_⟩
    have hp11 := hst10.pick [] (by decide) rfl
    exact ⟨(k + 1), [vi ((k : Int)), .bool (decide ((k : Int) < 8)), vi ((k : Int)), vi ((k : Int) + 1), vi (shN N k), vi ((shN N k) % 256), .string (oneS ((shN N k) % 256)), .string (putS N k), .string (putS N (k + 1)), vi (shN N k), vi (shN N (k + 1))], by omega, rfl, rfl, hp11⟩
  have hs7p : ¬ ((k : Int) < 8) := by simpa using hs7
  refine wp_cond_false (show Act.eval _ _ = .bool false from (congrArg Value.bool hs7)) (wp_exit (then_exit (then_exit (blk_eq (then_normal (wp_seq (wp_region_P [0, 1] [.k 16 (.string (putS N k)), .k 2 (.string (putS N k))] [(2, 1, 1, 3), (13, 0, 1, 14)] hst6 fun W12 hst12 => ?_)))))))
  refine then_normal (wp_ret ?_)
  refine bodyPost_ret (v := .string (putS N k)) (results_tmp Tryz.results210 rfl) rfl ?_
  exact Ret.of (by rw [show k = 8 by omega]) hst12.ext
set_option maxRecDepth 100000 in
set_option maxHeartbeats 2000000 in
theorem r04num_any (N : Int) (m : Nat) (w : World) (hm : m ≤ 8) :
    Calls Tryz.prog 143 #[.int .i64 N, .int .i64 ((m : Int))] w (Ret (.string (putS N m)) w) := by
  go_enter Tryz.func143, Tryz.ntmps143
  have hst0 := St.start w
  refine wp_seq (wp_region_P [0] [.k 4 (.string ⟨#[]⟩)] [(4, 0, 1, 5)] hst0 fun W1 hst1 => ?_)
  refine then_normal (wp_seq (wp_region_P [0] [.k 5 (.string ⟨#[]⟩)] [(5, 0, 1, 6)] hst1 fun W2 hst2 => ?_))
  refine then_normal (wp_seq (wp_seq (wp_region_P [0] [.k 6 (vi 0)] [(6, 0, 1, 7)] hst2 fun W3 hst3 => ?_)))
  refine then_normal (wp_block ?_)
  refine wp_loopN (fun mz az W => ∃ k : Nat, ∃ u4_ : List Value, k ≤ m ∧ mz = m - k ∧ az = ⟨#[vi (shN N k), vi ((m : Int)), undef, undef, .string ⟨#[]⟩, .string (putS N k), vi ((k : Int)), (gu u4_ 0), (gu u4_ 1), (gu u4_ 2), (gu u4_ 3), (gu u4_ 4), (gu u4_ 5), (gu u4_ 6), (gu u4_ 7), (gu u4_ 8), (gu u4_ 9), (gu u4_ 10), (gu u4_ 11), (gu u4_ 12), (gu u4_ 13), undef], []⟩ ∧ St w [] [] W) (m - 0) ?_ ?_
  · -- the loop begins
    have hp5 := hst3.pick [] (by decide) rfl
    exact ⟨0, [undef, undef, undef, undef, undef, undef, undef, undef, undef, undef, undef, undef, undef, undef], by omega, rfl, (by rw [shN_0, putS_0]; rfl), hp5⟩
  rintro n4 a4 W4 ⟨k, u4_, hk, rfl, rfl, hst4⟩
  refine wp_seq (wp_seq (wp_region_P [0, 0, 3] [.k 7 (vi ((k : Int))), .k 8 (vi ((m : Int))), .k 9 (.bool (decide ((k : Int) < (m : Int))))] [(7, 0, 3, 10)] hst4 fun W6 hst6 => ?_))
  refine then_normal ?_
  rcases Bool.eq_false_or_eq_true (decide ((k : Int) < (m : Int))) with hs7 | hs7
  · skip
    have hs7p : (k : Int) < (m : Int) := by simpa using hs7
    refine wp_cond_true (show Act.eval _ _ = .bool true from (congrArg Value.bool hs7)) (wp_skip (then_normal (wp_seq (wp_block (wp_seq (wp_region_Y [0, 1, 3, 7, 15, 0, 63, 127] [[], [], [], [], [0]] [[], [], [], [0]] [] [.k 12 (vi (shN N k)), tAn 13 .i64 (shN N k) 255 ((shN N k) % 256) (bits_mask (shN N k) 8 (by decide)), tW 14 .u8 ((shN N k) % 256) ((shN N k) % 256) (IntWalk.u8_in _ (by omega)), .a 15, .c 16 (.string (strOfNums ([((shN N k) % 256)]))), .k 17 (.string (putS N k)), .c 18 (.string (putS N (k + 1))), .k 5 (.string (putS N (k + 1)))] (fun ix σ β X => match ix with | 0 => True | 1 => True | 2 => True | 3 => σ 15 = .slice (sA (β 15)) 1 1 ∧ X 0 = eO 5 1 (.slice (sA (β 15)) 1 1) 1 ([.int .u8 ((shN N k) % 256)]) | _ => True) [0] [3, 4, 6] [(5, 7, 1, 6), (6, 0, 7, 13)] hst6 ?_ ?_ ?_))))))
    · exact fun ix _ _ _ _ _ _ hs hb hx h => match ix, h with
      | 3, h => by dsimp only at h ⊢; rw [← hs 15 rfl, ← hb 15 rfl, ← hx 0 rfl]; exact h
      | 0, _ | 1, _ | 2, _ | _ + 4, _ => trivial
    · refine ⟨?_, ?_, ?_, trivial⟩
      · refine sv_any rfl rfl fun ρ β W X cx => ?_
        have fF14 : ρ (.tmp 14) = .int .u8 ((shN N k) % 256) := (cx.an 2)
        exact dv_lit (e := 5) (xs := [.int .u8 ((shN N k) % 256)]) rfl (by simp [go_sem, fF14]) rfl (by decide) rfl rfl (fun σ β' X' hs hb hv hx => ⟨hv, hx⟩)
      · exact xs4 rfl id fun cx => run_convB (e := 5) rfl (by kernel_rfl) (by kernel_rfl) (by kernel_rfl) (dTn (cx.an 3)).1 (cx.row (dTn (cx.an 3)).2 rfl)
      · exact xs4 rfl id fun cx => (by rw [putS_succ N (by omega)]; exact run_strcat rfl (cx.an 4) (cx.an 5) (by rw [strOfNums_size, putS_size N k (by omega)]; first | omega | (simp only [List.length_cons, List.length_nil]; omega)))
    intro σ β X W8 hD hst8 fr hfr
    obtain ⟨A15_8, hu_A15_8⟩ : ∃ z, sA (β 15) = z := ⟨_, rfl⟩
    simp only [exq 0 ((dTn (hD 3 lq)).2), hu_A15_8] at hst8
    simp only [ed 15 ((dTn (hD 3 lq)).1), hu_A15_8] at hfr
    clear hD hu_A15_8; subst hfr; clear σ β X
    refine then_normal (wp_region_Z [0, 1, 3] [] [.k 19 (vi (shN N k)), .c 20 (vi (shN N (k + 1))), .k 0 (vi (shN N (k + 1)))] [0] [1] [(0, 2, 1, 1), (18, 0, 2, 20)] hst8 ?_ fun W9 hst9 => ?_)
    · refine ⟨?_, trivial⟩
      · exact xs4 rfl id fun cx => run_shr rfl (cx.an 0) (cx.co _) (by decide) (shN_succ N k)
    refine blk_normal (then_normal (wp_region_P [0, 1, 3] [.k 10 (vi ((k : Int))), tI 11 ((k : Int) + 1) (by omega), .k 6 (vi ((k : Int) + 1))] [(6, 2, 1, 7), (3, 0, 2, 5)] hst9 fun W10 hst10 => ?_))
    refine then_normal ?_
    refine ⟨m - ((k + 1)), by omega, ?_⟩
    have hp11 := hst10.pick [] (by decide) rfl
    exact ⟨(k + 1), [vi ((k : Int)), vi ((m : Int)), .bool (decide ((k : Int) < (m : Int))), vi ((k : Int)), vi ((k : Int) + 1), vi (shN N k), vi ((shN N k) % 256), .int .u8 ((shN N k) % 256), .slice A15_8 1 1, .string (strOfNums ([((shN N k) % 256)])), .string (putS N k), .string (putS N (k + 1)), vi (shN N k), vi (shN N (k + 1))], by omega, rfl, rfl, hp11⟩
  have hs7p : ¬ ((k : Int) < (m : Int)) := by simpa using hs7
  refine wp_cond_false (show Act.eval _ _ = .bool false from (congrArg Value.bool hs7)) (wp_exit (then_exit (then_exit (blk_eq (then_normal (wp_seq (wp_region_P [0, 1] [.k 21 (.string (putS N k)), .k 4 (.string (putS N k))] [(4, 1, 1, 5), (16, 0, 1, 17)] hst6 fun W12 hst12 => ?_)))))))
  refine then_normal (wp_ret ?_)
  refine bodyPost_ret (v := .string (putS N k)) (results_tmp Tryz.results143 rfl) rfl ?_
  exact Ret.of (by rw [show k = m by omega]) hst12.ext
set_option maxRecDepth 100000 in
set_option maxHeartbeats 4000000 in
theorem r02bytes_any (RA : Option Addr) (rc : Nat) (rs : List Val) (w : World) (hA : At w RA (flatR rs)) (hlr : rs.length ≤ 9223372036854775807) :
    Calls Tryz.prog 142 #[.slice RA rs.length rc] w (Ret (.string (vbytesF rs)) w) := by
  go_enter Tryz.func142, Tryz.ntmps142
  have hst0 := St.start w
  refine wp_seq (wp_region_P [0] [.k 2 (.string ⟨#[]⟩)] [(2, 0, 1, 3)] hst0 fun W1 hst1 => ?_)
  refine then_normal (wp_seq (wp_seq (wp_region_Z [0, 1, 3] [] [.k 5 (.slice RA rs.length rc), .c 6 (.bool (rrightF rs)), .k 7 (.bool (!(rrightF rs)))] [] [1] [(5, 0, 3, 8)] hst1 ?_ fun W2 hst2 => ?_)))
  · refine ⟨?_, trivial⟩
    · exact xsc rfl id rfl rfl fun cx => ⟨_, r02row_any _ _ rs _ (hA.ext cx.upd.to_ext) (by omega), (map1 (cx.an 0))⟩
  refine then_normal ?_
  rcases Bool.eq_false_or_eq_true (rrightF rs) with hs3 | hs3
  · skip
    refine wp_cond_false (show Act.eval _ _ = .bool false from (congrArg Value.bool (by rw [hs3]; rfl))) (wp_skip (then_normal (wp_seq (wp_region_Z [0, 1, 3, 7] [] [.k 8 (.slice RA rs.length rc), .k 9 (vi ((rs.length : Int))), .c 10 (.string (oneS (rs.length : Int))), .k 3 (.string (oneS (rs.length : Int)))] [] [2] [(3, 3, 1, 4), (4, 0, 3, 7)] hst2 ?_ fun W4 hst4 => ?_))))
    · refine ⟨?_, trivial⟩
      · exact xsc rfl id rfl rfl fun cx => ⟨_, one_any (rs.length : Int) _, (map1 (cx.an 1))⟩
    refine then_normal (wp_seq (wp_seq (wp_region_P [0] [.k 4 (vi 0)] [(4, 0, 1, 5)] hst4 fun W5 hst5 => ?_)))
    refine then_normal (wp_block ?_)
    refine wp_loopN (fun mz az W => ∃ k : Nat, ∃ u6_ : List Value, k ≤ rs.length ∧ mz = rs.length - k ∧ az = ⟨#[.slice RA rs.length rc, undef, .string ⟨#[]⟩, .string (strL (bytesTo rs k)), vi ((k : Int)), .slice RA rs.length rc, .bool (rrightF rs), .bool (!(rrightF rs)), .slice RA rs.length rc, vi ((rs.length : Int)), .string (oneS (rs.length : Int)), (gu u6_ 0), (gu u6_ 1), (gu u6_ 2), (gu u6_ 3), (gu u6_ 4), (gu u6_ 5), (gu u6_ 6), (gu u6_ 7), (gu u6_ 8), (gu u6_ 9), (gu u6_ 10), (gu u6_ 11), (gu u6_ 12), (gu u6_ 13), (gu u6_ 14), (gu u6_ 15), (gu u6_ 16), (gu u6_ 17), (gu u6_ 18), (gu u6_ 19), (gu u6_ 20), (gu u6_ 21), (gu u6_ 22), (gu u6_ 23), (gu u6_ 24), (gu u6_ 25), (gu u6_ 26), (gu u6_ 27), (gu u6_ 28), (gu u6_ 29), (gu u6_ 30), (gu u6_ 31), (gu u6_ 32), (gu u6_ 33), (gu u6_ 34), (gu u6_ 35), (gu u6_ 36), (gu u6_ 37), (gu u6_ 38), (gu u6_ 39), (gu u6_ 40), (gu u6_ 41), (gu u6_ 42), (gu u6_ 43), (gu u6_ 44), (gu u6_ 45), (gu u6_ 46), (gu u6_ 47), (gu u6_ 48), undef], []⟩ ∧ St w [] [] W) (rs.length - 0) ?_ ?_
    · -- the loop begins
      have hp7 := hst5.pick [] (by decide) rfl
      exact ⟨0, [undef, undef, undef, undef, undef, undef, undef, undef, undef, undef, undef, undef, undef, undef, undef, undef, undef, undef, undef, undef, undef, undef, undef, undef, undef, undef, undef, undef, undef, undef, undef, undef, undef, undef, undef, undef, undef, undef, undef, undef, undef, undef, undef, undef, undef, undef, undef, undef, undef], by omega, rfl, (by rw [bt_0, ← oneS_strL (x := ((rs.length : Nat) : Int)) (by have := rright_len (by assumption : rrightF rs = true); omega)]; rfl), hp7⟩
    rintro n6 a6 W6 ⟨k, u6_, hk, rfl, rfl, hst6⟩
    refine wp_seq (wp_seq (wp_region_P [0, 0, 2, 7] [.k 11 (vi ((k : Int))), .k 12 (.slice RA rs.length rc), .k 13 (vi ((rs.length : Int))), .k 14 (.bool (decide ((k : Int) < (rs.length : Int))))] [(11, 0, 4, 15)] hst6 fun W8 hst8 => ?_))
    refine then_normal ?_
    rcases Bool.eq_false_or_eq_true (decide ((k : Int) < (rs.length : Int))) with hs9 | hs9
    · skip
      have hs9p : (k : Int) < (rs.length : Int) := by simpa using hs9
      refine wp_cond_true (show Act.eval _ _ = .bool true from (congrArg Value.bool hs9)) (wp_skip (then_normal (wp_seq (wp_block (wp_seq ?_)))))
      obtain ⟨u, hu⟩ : ∃ z, rs.getD k v0 = z := ⟨_, rfl⟩
      have hvu : vrightF (rs.getD k v0) = true := rright_at (by assumption) (by omega)
      have hpu := vright_parts hvu
      have hbl := bt_len (by assumption : rrightF rs = true) k
      have hbl1 := bt_len (by assumption : rrightF rs = true) (k + 1)
      refine wp_region_Z [0, 0, 0, 6, 14, 30, 62, 127, 255] [] [.k 17 (.string (strL (bytesTo rs k))), .k 18 (.slice RA rs.length rc), .k 19 (vi ((k : Int))), .c 20 (.pointer (some ((ad RA).add (k * 3)))), .c 21 (.pointer (some ((ad RA).add (k * 3 + 0)))), .c 22 (vi ((rs.getD k v0).1)), .c 23 (.string (oneS ((rs.getD k v0).1))), .c 24 (.string (strL (bytesTo rs k ++ [UInt8.ofNat (rs.getD k v0).1.toNat]))), .k 3 (.string (strL (bytesTo rs k ++ [UInt8.ofNat (rs.getD k v0).1.toNat])))] [] [3, 4, 5, 6, 7] [(3, 8, 1, 4), (13, 0, 8, 21)] hst8 ?_ fun W10 hst10 => ?_
      · refine ⟨?_, ?_, ?_, ?_, ?_, trivial⟩
        · exact xs4 rfl id fun cx => run_indexSlM (e := 45) (m := k) (sz := 3) rfl (by kernel_rfl) (by kernel_rfl) (cx.an 1) (cx.an 2) (by omega) (by omega) (hA.ext cx.upd.to_ext) (by have h_ := flatLen (f := cellsV) (sz := 3) cellsV_len rs; show 0 < (List.flatMap cellsV rs).length; omega)
        · exact xs4 rfl id fun cx => run_fieldAd rfl (by kernel_rfl) (cx.an 3)
        · exact xs4 rfl id fun cx => run_load1 rfl (by kernel_rfl) (cx.an 4) (At.eltc (f := cellsV) (k := 0) cellsV_len (hA.ext cx.upd.to_ext) (getD_some (ts := rs) (m := k) v0 (by omega)) rfl)
        · exact xsc rfl id rfl rfl fun cx => ⟨_, one_any ((rs.getD k v0).1) _, (map1 (cx.an 5))⟩
        · exact xs4 rfl id fun cx => (by rw [← strL_app, ← oneS_strL (by omega)]; exact run_strcat rfl (cx.an 0) (cx.an 6) (by rw [oneS_size]; simp only [strL_size, List.length_append, List.length_cons, List.length_nil]; omega))
      refine then_normal (wp_seq (wp_seq (wp_region_Z [0, 0, 3, 7, 15, 31] [] [.k 25 (.slice RA rs.length rc), .k 26 (vi ((k : Int))), .c 27 (.pointer (some ((ad RA).add (k * 3)))), .c 28 (.pointer (some ((ad RA).add (k * 3 + 0)))), .c 29 (vi ((rs.getD k v0).1)), .k 30 (.bool (((rs.getD k v0).1) == 1))] [] [2, 3, 4] [(25, 0, 6, 31)] hst10 ?_ fun W11 hst11 => ?_)))
      · refine ⟨?_, ?_, ?_, trivial⟩
        · exact xs4 rfl id fun cx => run_indexSlM (e := 45) (m := k) (sz := 3) rfl (by kernel_rfl) (by kernel_rfl) (cx.an 0) (cx.an 1) (by omega) (by omega) (hA.ext cx.upd.to_ext) (by have h_ := flatLen (f := cellsV) (sz := 3) cellsV_len rs; show 0 < (List.flatMap cellsV rs).length; omega)
        · exact xs4 rfl id fun cx => run_fieldAd rfl (by kernel_rfl) (cx.an 2)
        · exact xs4 rfl id fun cx => run_load1 rfl (by kernel_rfl) (cx.an 3) (At.eltc (f := cellsV) (k := 0) cellsV_len (hA.ext cx.upd.to_ext) (getD_some (ts := rs) (m := k) v0 (by omega)) rfl)
      refine then_normal ?_
      rcases Bool.eq_false_or_eq_true (((rs.getD k v0).1) == 1) with hs12 | hs12
      · skip
        have hs12p : ((rs.getD k v0).1) = 1 := by simpa using hs12
        refine wp_cond_true (show Act.eval _ _ = .bool true from (congrArg Value.bool hs12)) (wp_region_Z [0, 0, 0, 6, 14, 30, 62, 127, 255] [] [.k 31 (.string (strL (bytesTo rs k ++ [UInt8.ofNat (rs.getD k v0).1.toNat]))), .k 32 (.slice RA rs.length rc), .k 33 (vi ((k : Int))), .c 34 (.pointer (some ((ad RA).add (k * 3)))), .c 35 (.pointer (some ((ad RA).add (k * 3 + 1)))), .c 36 (vi ((rs.getD k v0).2.1)), .c 37 (.string (putS ((rs.getD k v0).2.1) 8)), .c 38 (.string (strL (bytesTo rs (k + 1)))), .k 3 (.string (strL (bytesTo rs (k + 1))))] [] [3, 4, 5, 6, 7] [(3, 8, 1, 4), (27, 0, 8, 35)] hst11 ?_ fun W13 hst13 => ?_)
        · refine ⟨?_, ?_, ?_, ?_, ?_, trivial⟩
          · exact xs4 rfl id fun cx => run_indexSlM (e := 45) (m := k) (sz := 3) rfl (by kernel_rfl) (by kernel_rfl) (cx.an 1) (cx.an 2) (by omega) (by omega) (hA.ext cx.upd.to_ext) (by have h_ := flatLen (f := cellsV) (sz := 3) cellsV_len rs; show 0 < (List.flatMap cellsV rs).length; omega)
          · exact xs4 rfl id fun cx => run_fieldAd rfl (by kernel_rfl) (cx.an 3)
          · exact xs4 rfl id fun cx => run_load1 rfl (by kernel_rfl) (cx.an 4) (At.eltc (f := cellsV) (k := 1) cellsV_len (hA.ext cx.upd.to_ext) (getD_some (ts := rs) (m := k) v0 (by omega)) rfl)
          · exact xsc rfl id rfl rfl fun cx => ⟨_, r02whole_any ((rs.getD k v0).2.1) _, (map1 (cx.an 5))⟩
          · exact xs4 rfl id fun cx => (by rw [← bt_int (by omega) (by assumption), ← strL_app, strL_data]; exact run_strcat rfl (cx.an 0) (cx.an 6) (by rw [putS_size _ 8 (by omega)]; simp only [strL_size, List.length_append, List.length_cons, List.length_nil]; omega))
        refine then_normal (wp_seq (wp_region_Z [0, 0, 3, 7, 15, 31] [] [.k 39 (.slice RA rs.length rc), .k 40 (vi ((k : Int))), .c 41 (.pointer (some ((ad RA).add (k * 3)))), .c 42 (.pointer (some ((ad RA).add (k * 3 + 0)))), .c 43 (vi ((rs.getD k v0).1)), .k 44 (.bool (((rs.getD k v0).1) == 2))] [] [2, 3, 4] [(39, 0, 6, 45)] hst13 ?_ fun W14 hst14 => ?_))
        · refine ⟨?_, ?_, ?_, trivial⟩
          · exact xs4 rfl id fun cx => run_indexSlM (e := 45) (m := k) (sz := 3) rfl (by kernel_rfl) (by kernel_rfl) (cx.an 0) (cx.an 1) (by omega) (by omega) (hA.ext cx.upd.to_ext) (by have h_ := flatLen (f := cellsV) (sz := 3) cellsV_len rs; show 0 < (List.flatMap cellsV rs).length; omega)
          · exact xs4 rfl id fun cx => run_fieldAd rfl (by kernel_rfl) (cx.an 2)
          · exact xs4 rfl id fun cx => run_load1 rfl (by kernel_rfl) (cx.an 3) (At.eltc (f := cellsV) (k := 0) cellsV_len (hA.ext cx.upd.to_ext) (getD_some (ts := rs) (m := k) v0 (by omega)) rfl)
        refine then_normal ?_
        rcases Bool.eq_false_or_eq_true (((rs.getD k v0).1) == 2) with hs15 | hs15
        · skip
          have hs15p : ((rs.getD k v0).1) = 2 := by simpa using hs15
          exfalso; omega
        have hs15p : ((rs.getD k v0).1) ≠ 2 := by simpa using hs15
        refine wp_cond_false (show Act.eval _ _ = .bool false from (congrArg Value.bool hs15)) (wp_skip (blk_normal (then_normal (wp_region_P [0, 1, 3] [.k 15 (vi ((k : Int))), tI 16 ((k : Int) + 1) (by omega), .k 4 (vi ((k : Int) + 1))] [(4, 2, 1, 5), (10, 0, 2, 12)] hst14 fun W16 hst16 => ?_))))
        refine then_normal ?_
        refine ⟨rs.length - ((k + 1)), by omega, ?_⟩
        have hp17 := hst16.pick [] (by decide) rfl
        exact ⟨(k + 1), [vi ((k : Int)), .slice RA rs.length rc, vi ((rs.length : Int)), .bool (decide ((k : Int) < (rs.length : Int))), vi ((k : Int)), vi ((k : Int) + 1), .string (strL (bytesTo rs k)), .slice RA rs.length rc, vi ((k : Int)), .pointer (some ((ad RA).add (k * 3))), .pointer (some ((ad RA).add (k * 3 + 0))), vi ((rs.getD k v0).1), .string (oneS ((rs.getD k v0).1)), .string (strL (bytesTo rs k ++ [UInt8.ofNat (rs.getD k v0).1.toNat])), .slice RA rs.length rc, vi ((k : Int)), .pointer (some ((ad RA).add (k * 3))), .pointer (some ((ad RA).add (k * 3 + 0))), vi ((rs.getD k v0).1), .bool (((rs.getD k v0).1) == 1), .string (strL (bytesTo rs k ++ [UInt8.ofNat (rs.getD k v0).1.toNat])), .slice RA rs.length rc, vi ((k : Int)), .pointer (some ((ad RA).add (k * 3))), .pointer (some ((ad RA).add (k * 3 + 1))), vi ((rs.getD k v0).2.1), .string (putS ((rs.getD k v0).2.1) 8), .string (strL (bytesTo rs (k + 1))), .slice RA rs.length rc, vi ((k : Int)), .pointer (some ((ad RA).add (k * 3))), .pointer (some ((ad RA).add (k * 3 + 0))), vi ((rs.getD k v0).1), .bool (((rs.getD k v0).1) == 2), (gu u6_ 34), (gu u6_ 35), (gu u6_ 36), (gu u6_ 37), (gu u6_ 38), (gu u6_ 39), (gu u6_ 40), (gu u6_ 41), (gu u6_ 42), (gu u6_ 43), (gu u6_ 44), (gu u6_ 45), (gu u6_ 46), (gu u6_ 47), (gu u6_ 48)], by omega, rfl, rfl, hp17⟩
      have hs12p : ((rs.getD k v0).1) ≠ 1 := by simpa using hs12
      refine wp_cond_false (show Act.eval _ _ = .bool false from (congrArg Value.bool hs12)) (wp_skip (then_normal (wp_seq (wp_region_Z [0, 0, 3, 7, 15, 31] [] [.k 39 (.slice RA rs.length rc), .k 40 (vi ((k : Int))), .c 41 (.pointer (some ((ad RA).add (k * 3)))), .c 42 (.pointer (some ((ad RA).add (k * 3 + 0)))), .c 43 (vi ((rs.getD k v0).1)), .k 44 (.bool (((rs.getD k v0).1) == 2))] [] [2, 3, 4] [(39, 0, 6, 45)] hst11 ?_ fun W18 hst18 => ?_))))
      · refine ⟨?_, ?_, ?_, trivial⟩
        · exact xs4 rfl id fun cx => run_indexSlM (e := 45) (m := k) (sz := 3) rfl (by kernel_rfl) (by kernel_rfl) (cx.an 0) (cx.an 1) (by omega) (by omega) (hA.ext cx.upd.to_ext) (by have h_ := flatLen (f := cellsV) (sz := 3) cellsV_len rs; show 0 < (List.flatMap cellsV rs).length; omega)
        · exact xs4 rfl id fun cx => run_fieldAd rfl (by kernel_rfl) (cx.an 2)
        · exact xs4 rfl id fun cx => run_load1 rfl (by kernel_rfl) (cx.an 3) (At.eltc (f := cellsV) (k := 0) cellsV_len (hA.ext cx.upd.to_ext) (getD_some (ts := rs) (m := k) v0 (by omega)) rfl)
      refine then_normal ?_
      rcases Bool.eq_false_or_eq_true (((rs.getD k v0).1) == 2) with hs19 | hs19
      · skip
        have hs19p : ((rs.getD k v0).1) = 2 := by simpa using hs19
        refine wp_cond_true (show Act.eval _ _ = .bool true from (congrArg Value.bool hs19)) (wp_region_Z [0, 0, 0, 6, 14, 30, 62, 126, 255, 0, 0, 1536, 3584, 7680, 16383, 32767] [] [.k 45 (.string (strL (bytesTo rs k ++ [UInt8.ofNat (rs.getD k v0).1.toNat]))), .k 46 (.slice RA rs.length rc), .k 47 (vi ((k : Int))), .c 48 (.pointer (some ((ad RA).add (k * 3)))), .c 49 (.pointer (some ((ad RA).add (k * 3 + 2)))), .c 50 (.string ((rs.getD k v0).2.2)), .k 51 (vi ((((rs.getD k v0).2.2).size : Int))), .c 52 (.string (oneS (((rs.getD k v0).2.2).size : Int))), .c 53 (.string (strL ((bytesTo rs k ++ [UInt8.ofNat (rs.getD k v0).1.toNat]) ++ [UInt8.ofNat (((rs.getD k v0).2.2.size : Nat) : Int).toNat]))), .k 54 (.slice RA rs.length rc), .k 55 (vi ((k : Int))), .c 56 (.pointer (some ((ad RA).add (k * 3)))), .c 57 (.pointer (some ((ad RA).add (k * 3 + 2)))), .c 58 (.string ((rs.getD k v0).2.2)), .c 59 (.string (strL (bytesTo rs (k + 1)))), .k 3 (.string (strL (bytesTo rs (k + 1))))] [] [3, 4, 5, 7, 8, 11, 12, 13, 14] [(3, 15, 1, 4), (41, 0, 15, 56)] hst18 ?_ fun W20 hst20 => ?_)
        · refine ⟨?_, ?_, ?_, ?_, ?_, ?_, ?_, ?_, ?_, trivial⟩
          · exact xs4 rfl id fun cx => run_indexSlM (e := 45) (m := k) (sz := 3) rfl (by kernel_rfl) (by kernel_rfl) (cx.an 1) (cx.an 2) (by omega) (by omega) (hA.ext cx.upd.to_ext) (by have h_ := flatLen (f := cellsV) (sz := 3) cellsV_len rs; show 0 < (List.flatMap cellsV rs).length; omega)
          · exact xs4 rfl id fun cx => run_fieldAd rfl (by kernel_rfl) (cx.an 3)
          · exact xs4 rfl id fun cx => run_load1 rfl (by kernel_rfl) (cx.an 4) (At.eltc (f := cellsV) (k := 2) cellsV_len (hA.ext cx.upd.to_ext) (getD_some (ts := rs) (m := k) v0 (by omega)) rfl)
          · exact xsc rfl id rfl rfl fun cx => ⟨_, one_any (((rs.getD k v0).2.2).size : Int) _, (map1 (cx.an 6))⟩
          · exact xs4 rfl id fun cx => (by rw [← strL_app (bytesTo rs k ++ [UInt8.ofNat (rs.getD k v0).1.toNat]), ← oneS_strL (x := (((rs.getD k v0).2.2.size : Nat) : Int)) (by have := hpu.2.2 (by assumption); omega)]; exact run_strcat rfl (cx.an 0) (cx.an 7) (by rw [oneS_size]; simp only [strL_size, List.length_append, List.length_cons, List.length_nil]; omega))
          · exact xs4 rfl id fun cx => run_indexSlM (e := 45) (m := k) (sz := 3) rfl (by kernel_rfl) (by kernel_rfl) (cx.an 9) (cx.an 10) (by omega) (by omega) (hA.ext cx.upd.to_ext) (by have h_ := flatLen (f := cellsV) (sz := 3) cellsV_len rs; show 0 < (List.flatMap cellsV rs).length; omega)
          · exact xs4 rfl id fun cx => run_fieldAd rfl (by kernel_rfl) (cx.an 11)
          · exact xs4 rfl id fun cx => run_load1 rfl (by kernel_rfl) (cx.an 12) (At.eltc (f := cellsV) (k := 2) cellsV_len (hA.ext cx.upd.to_ext) (getD_some (ts := rs) (m := k) v0 (by omega)) rfl)
          · exact xs4 rfl id fun cx => (by rw [← bt_text (by omega) (by assumption) (by assumption), ← strL_app, strL_data]; exact run_strcat rfl (cx.an 8) (cx.an 13) (by have := hpu.2.2 (by assumption); simp only [strL_size, List.length_append, List.length_cons, List.length_nil]; omega))
        refine blk_normal (then_normal (wp_region_P [0, 1, 3] [.k 15 (vi ((k : Int))), tI 16 ((k : Int) + 1) (by omega), .k 4 (vi ((k : Int) + 1))] [(4, 2, 1, 5), (10, 0, 2, 12)] hst20 fun W21 hst21 => ?_))
        refine then_normal ?_
        refine ⟨rs.length - ((k + 1)), by omega, ?_⟩
        have hp22 := hst21.pick [] (by decide) rfl
        exact ⟨(k + 1), [vi ((k : Int)), .slice RA rs.length rc, vi ((rs.length : Int)), .bool (decide ((k : Int) < (rs.length : Int))), vi ((k : Int)), vi ((k : Int) + 1), .string (strL (bytesTo rs k)), .slice RA rs.length rc, vi ((k : Int)), .pointer (some ((ad RA).add (k * 3))), .pointer (some ((ad RA).add (k * 3 + 0))), vi ((rs.getD k v0).1), .string (oneS ((rs.getD k v0).1)), .string (strL (bytesTo rs k ++ [UInt8.ofNat (rs.getD k v0).1.toNat])), .slice RA rs.length rc, vi ((k : Int)), .pointer (some ((ad RA).add (k * 3))), .pointer (some ((ad RA).add (k * 3 + 0))), vi ((rs.getD k v0).1), .bool (((rs.getD k v0).1) == 1), (gu u6_ 20), (gu u6_ 21), (gu u6_ 22), (gu u6_ 23), (gu u6_ 24), (gu u6_ 25), (gu u6_ 26), (gu u6_ 27), .slice RA rs.length rc, vi ((k : Int)), .pointer (some ((ad RA).add (k * 3))), .pointer (some ((ad RA).add (k * 3 + 0))), vi ((rs.getD k v0).1), .bool (((rs.getD k v0).1) == 2), .string (strL (bytesTo rs k ++ [UInt8.ofNat (rs.getD k v0).1.toNat])), .slice RA rs.length rc, vi ((k : Int)), .pointer (some ((ad RA).add (k * 3))), .pointer (some ((ad RA).add (k * 3 + 2))), .string ((rs.getD k v0).2.2), vi ((((rs.getD k v0).2.2).size : Int)), .string (oneS (((rs.getD k v0).2.2).size : Int)), .string (strL ((bytesTo rs k ++ [UInt8.ofNat (rs.getD k v0).1.toNat]) ++ [UInt8.ofNat (((rs.getD k v0).2.2.size : Nat) : Int).toNat])), .slice RA rs.length rc, vi ((k : Int)), .pointer (some ((ad RA).add (k * 3))), .pointer (some ((ad RA).add (k * 3 + 2))), .string ((rs.getD k v0).2.2), .string (strL (bytesTo rs (k + 1)))], by omega, rfl, rfl, hp22⟩
      have hs19p : ((rs.getD k v0).1) ≠ 2 := by simpa using hs19
      refine wp_cond_false (show Act.eval _ _ = .bool false from (congrArg Value.bool hs19)) (wp_skip (blk_normal (then_normal (wp_region_P [0, 1, 3] [.k 15 (vi ((k : Int))), tI 16 ((k : Int) + 1) (by omega), .k 4 (vi ((k : Int) + 1))] [(4, 2, 1, 5), (10, 0, 2, 12)] hst18 fun W23 hst23 => ?_))))
      refine then_normal ?_
      refine ⟨rs.length - ((k + 1)), by omega, ?_⟩
      have hp24 := hst23.pick [] (by decide) rfl
      exact ⟨(k + 1), [vi ((k : Int)), .slice RA rs.length rc, vi ((rs.length : Int)), .bool (decide ((k : Int) < (rs.length : Int))), vi ((k : Int)), vi ((k : Int) + 1), .string (strL (bytesTo rs k)), .slice RA rs.length rc, vi ((k : Int)), .pointer (some ((ad RA).add (k * 3))), .pointer (some ((ad RA).add (k * 3 + 0))), vi ((rs.getD k v0).1), .string (oneS ((rs.getD k v0).1)), .string (strL (bytesTo rs k ++ [UInt8.ofNat (rs.getD k v0).1.toNat])), .slice RA rs.length rc, vi ((k : Int)), .pointer (some ((ad RA).add (k * 3))), .pointer (some ((ad RA).add (k * 3 + 0))), vi ((rs.getD k v0).1), .bool (((rs.getD k v0).1) == 1), (gu u6_ 20), (gu u6_ 21), (gu u6_ 22), (gu u6_ 23), (gu u6_ 24), (gu u6_ 25), (gu u6_ 26), (gu u6_ 27), .slice RA rs.length rc, vi ((k : Int)), .pointer (some ((ad RA).add (k * 3))), .pointer (some ((ad RA).add (k * 3 + 0))), vi ((rs.getD k v0).1), .bool (((rs.getD k v0).1) == 2), (gu u6_ 34), (gu u6_ 35), (gu u6_ 36), (gu u6_ 37), (gu u6_ 38), (gu u6_ 39), (gu u6_ 40), (gu u6_ 41), (gu u6_ 42), (gu u6_ 43), (gu u6_ 44), (gu u6_ 45), (gu u6_ 46), (gu u6_ 47), (gu u6_ 48)], by omega, rfl, (by rw [← bt_none (k := k) (by omega) (by assumption) (by assumption)]; rfl), hp24⟩
    have hs9p : ¬ ((k : Int) < (rs.length : Int)) := by simpa using hs9
    refine wp_cond_false (show Act.eval _ _ = .bool false from (congrArg Value.bool hs9)) (wp_exit (then_exit (then_exit (blk_eq (then_normal (wp_seq (wp_region_P [0, 1] [.k 60 (.string (strL (bytesTo rs k))), .k 2 (.string (strL (bytesTo rs k)))] [(2, 1, 1, 3), (57, 0, 1, 58)] hst8 fun W25 hst25 => ?_)))))))
    refine then_normal (wp_ret ?_)
    refine bodyPost_ret (v := .string (strL (bytesTo rs k))) (results_tmp Tryz.results142 rfl) rfl ?_
    exact Ret.of (by rw [vbytesF, if_pos (by assumption), show k = rs.length by omega]) hst25.ext
  refine wp_cond_true (show Act.eval _ _ = .bool true from (congrArg Value.bool (by rw [hs3]; rfl))) (wp_seq (wp_region_P [0] [.k 2 (.string ⟨#[]⟩)] [(2, 0, 1, 3)] hst2 fun W26 hst26 => ?_))
  refine then_normal (wp_ret (then_ret ?_))
  refine bodyPost_ret (v := .string ⟨#[]⟩) (results_tmp Tryz.results142 rfl) rfl ?_
  exact Ret.of (by rw [vbytesF, if_neg (by simp [*])]; rfl) hst26.ext
set_option maxRecDepth 100000 in
set_option maxHeartbeats 2000000 in
theorem r08right_any (a b n1 n2 : Int) (ho : Bool) (RA : Option Addr) (rc : Nat) (rs : List Val) (w : World) (hA : At w RA (flatR rs)) (hlr : rs.length ≤ 9223372036854775807) :
    Calls Tryz.prog 141 #[.agg #[.int .i64 a, .int .i64 b, .int .i64 n1, .int .i64 n2, .bool ho, .slice RA rs.length rc]] w (Ret (.bool (trightF a b n1 n2 rs)) w) := by
  go_enter Tryz.func141, Tryz.ntmps141
  have hst0 := St.start w
  refine wp_seq (wp_region_Y [0, 0] [] [[0]] [] [.a 1, .k 2 (.bool false)] (fun ix σ β X => match ix with | 0 => σ 1 = vp (pb (β 1)) ∧ X 0 = eB (pb (β 1)) 41 #[vi a, vi b, vi n1, vi n2, .bool ho, .slice RA rs.length rc] | _ => True) [0] [0] [(1, 0, 2, 3)] hst0 ?_ ?_ ?_)
  · exact fun ix _ _ _ _ _ _ hs hb hx h => match ix, h with
    | 0, h => by dsimp only at h ⊢; rw [← hs 1 rfl, ← hb 1 rfl, ← hx 0 rfl]; exact h
    | _ + 1, _ => trivial
  · refine ⟨?_, trivial⟩
    · refine sv_any rfl rfl fun ρ β W X cx => ?_
      exact dv_box (cs := #[vi a, vi b, vi n1, vi n2, .bool ho, .slice RA rs.length rc]) rfl (cx.ou 0) rfl rfl rfl (fun σ β' X' hs hb hv hx => ⟨hv, hx⟩)
  intro σ β X W1 hD hst1 fr hfr
  obtain ⟨B1_1, hu_B1_1⟩ : ∃ z, pb (β 1) = z := ⟨_, rfl⟩
  simp only [exq 0 ((dTn (hD 0 lq)).2), hu_B1_1] at hst1
  simp only [ed 1 ((dTn (hD 0 lq)).1), hu_B1_1] at hfr
  clear hD hu_B1_1; subst hfr; clear σ β X
  refine then_normal (wp_seq (wp_region_Z [0, 1, 3, 7] [[], [0]] [.k 6 (vp B1_1), .c 7 (vi a), .c 8 (.bool (onF a)), .k 3 (.bool (onF a))] [0] [1, 2] [(3, 3, 1, 4), (2, 0, 3, 5)] hst1 ?_ fun W2 hst2 => ?_))
  · refine ⟨?_, ?_, trivial⟩
    · exact xs4 rfl id fun cx => run_load1 rfl (by kernel_rfl) (cx.an 0) ((cx.bi 0 rfl).cell 0)
    · exact xsc rfl id rfl rfl fun cx => ⟨_, ron_any a _, (map1 (cx.an 1))⟩
  refine then_normal (wp_seq (wp_region_Z [0, 1, 3, 7] [[], [0]] [.k 9 (.pointer (some ⟨B1_1, 1, none⟩)), .c 10 (vi b), .c 11 (.bool (onF b)), .k 4 (.bool (onF b))] [0] [1, 2] [(4, 3, 1, 5), (4, 0, 3, 7)] hst2 ?_ fun W3 hst3 => ?_))
  · refine ⟨?_, ?_, trivial⟩
    · exact xs4 rfl id fun cx => run_load1 rfl (by kernel_rfl) (cx.an 0) ((cx.bi 0 rfl).cell 1)
    · exact xsc rfl id rfl rfl fun cx => ⟨_, ron_any b _, (map1 (cx.an 1))⟩
  refine then_normal (wp_seq (wp_region_Z [0, 1, 3, 7, 15, 31, 63, 127, 255, 511, 1023, 2047, 4095, 8191, 16383, 32767, 65535, 131071, 262143, 524287, 1048575, 2097151, 4194303, 8388607, 16777215, 33554431, 67108863, 134217727, 268435455, 536870911, 1073741823, 2147483647, 4294967295, 8589934591, 17179869183] [[], [], [0], [], [], [], [], [0], [], [], [], [], [], [0], [], [], [], [], [0], [], [], [], [], [], [0], [], [], [], [], [], [0]] [.k 12 (.pointer (some ⟨B1_1, 2, none⟩)), .k 13 (.pointer (some ⟨B1_1, 2, none⟩)), .c 14 (vi n1), .k 15 (.bool (n1 == (-1))), .k 16 (.bool (n1 == (-1))), .z 17 (n1 == (-1)) (.pointer (some ⟨B1_1, 2, none⟩)), .z 18 (n1 == (-1)) (.pointer (some ⟨B1_1, 3, none⟩)), .y 19 (n1 == (-1)) (vi n2), .z 20 (n1 == (-1)) (.bool (n2 == 0)), tA 21 (n1 == (-1)) (n2 == 0), .k 22 (.bool ((n1 == (-1)) && (n2 == 0))), .z 23 (!((n1 == (-1)) && (n2 == 0))) (.pointer (some ⟨B1_1, 2, none⟩)), .z 24 (!((n1 == (-1)) && (n2 == 0))) (.pointer (some ⟨B1_1, 2, none⟩)), .y 25 (!((n1 == (-1)) && (n2 == 0))) (vi n1), .z 26 (!((n1 == (-1)) && (n2 == 0))) (.bool (decide (0 ≤ n1))), .z 27 (!((n1 == (-1)) && (n2 == 0))) (.bool (decide (0 ≤ n1))), .z 28 ((!((n1 == (-1)) && (n2 == 0))) && (decide (0 ≤ n1))) (.pointer (some ⟨B1_1, 2, none⟩)), .z 29 ((!((n1 == (-1)) && (n2 == 0))) && (decide (0 ≤ n1))) (.pointer (some ⟨B1_1, 2, none⟩)), .y 30 ((!((n1 == (-1)) && (n2 == 0))) && (decide (0 ≤ n1))) (vi n1), .z 31 ((!((n1 == (-1)) && (n2 == 0))) && (decide (0 ≤ n1))) (.bool (decide (n1 < 400))), .y 32 (!((n1 == (-1)) && (n2 == 0))) (.bool ((decide (0 ≤ n1)) && (decide (n1 < 400)))), .z 33 (!((n1 == (-1)) && (n2 == 0))) (.bool ((decide (0 ≤ n1)) && (decide (n1 < 400)))), .z 34 ((!((n1 == (-1)) && (n2 == 0))) && ((decide (0 ≤ n1)) && (decide (n1 < 400)))) (.pointer (some ⟨B1_1, 2, none⟩)), .z 35 ((!((n1 == (-1)) && (n2 == 0))) && ((decide (0 ≤ n1)) && (decide (n1 < 400)))) (.pointer (some ⟨B1_1, 3, none⟩)), .y 36 ((!((n1 == (-1)) && (n2 == 0))) && ((decide (0 ≤ n1)) && (decide (n1 < 400)))) (vi n2), .z 37 ((!((n1 == (-1)) && (n2 == 0))) && ((decide (0 ≤ n1)) && (decide (n1 < 400)))) (.bool (decide (0 ≤ n2))), .y 38 (!((n1 == (-1)) && (n2 == 0))) (.bool (((decide (0 ≤ n1)) && (decide (n1 < 400))) && (decide (0 ≤ n2)))), .z 39 (!((n1 == (-1)) && (n2 == 0))) (.bool (((decide (0 ≤ n1)) && (decide (n1 < 400))) && (decide (0 ≤ n2)))), .z 40 ((!((n1 == (-1)) && (n2 == 0))) && (((decide (0 ≤ n1)) && (decide (n1 < 400))) && (decide (0 ≤ n2)))) (.pointer (some ⟨B1_1, 2, none⟩)), .z 41 ((!((n1 == (-1)) && (n2 == 0))) && (((decide (0 ≤ n1)) && (decide (n1 < 400))) && (decide (0 ≤ n2)))) (.pointer (some ⟨B1_1, 3, none⟩)), .y 42 ((!((n1 == (-1)) && (n2 == 0))) && (((decide (0 ≤ n1)) && (decide (n1 < 400))) && (decide (0 ≤ n2)))) (vi n2), .z 43 ((!((n1 == (-1)) && (n2 == 0))) && (((decide (0 ≤ n1)) && (decide (n1 < 400))) && (decide (0 ≤ n2)))) (.bool (decide (n2 < 24))), .y 44 (!((n1 == (-1)) && (n2 == 0))) (.bool ((((decide (0 ≤ n1)) && (decide (n1 < 400))) && (decide (0 ≤ n2))) && (decide (n2 < 24)))), tO 45 ((n1 == (-1)) && (n2 == 0)) ((((decide (0 ≤ n1)) && (decide (n1 < 400))) && (decide (0 ≤ n2))) && (decide (n2 < 24))), .k 5 (.bool (((n1 == (-1)) && (n2 == 0)) || ((((decide (0 ≤ n1)) && (decide (n1 < 400))) && (decide (0 ≤ n2))) && (decide (n2 < 24)))))] [0] [2, 7, 13, 18, 20, 24, 26, 30, 32] [(5, 34, 1, 6), (6, 0, 34, 40)] hst3 ?_ fun W4 hst4 => ?_))
  · refine ⟨?_, ?_, ?_, ?_, ?_, ?_, ?_, ?_, ?_, trivial⟩
    · exact xs4 rfl id fun cx => run_load1 rfl (by kernel_rfl) (cx.an 1) ((cx.bi 0 rfl).cell 2)
    · exact m2 rfl (fun _ _ _ h => h) (fun cx => (cx.an 4)) fun cx hq => run_load1 rfl (by kernel_rfl) (mbv (cx.an 6) hq) ((cx.bi 0 rfl).cell 3)
    · exact m2 rfl (fun _ _ _ h => h) (fun cx => (cx.an 10)) fun cx hq => run_load1 rfl (by kernel_rfl) (mbv (cx.an 12) hq) ((cx.bi 0 rfl).cell 2)
    · exact m0 rfl (fun _ _ _ h => h) (fun cx => (cx.an 15)) fun cx hq => run_load1 rfl (by kernel_rfl) (mbv (cx.an 17) hq) ((cx.bi 0 rfl).cell 2)
    · exact m2 rfl (fun _ _ _ h => h) (fun cx => (cx.an 10)) fun cx hq => run_pick_and rfl (mbv (cx.an 15) hq) (cx.an 19) (fun e_ => by rw [hq, e_]; rfl) (cx.co _)
    · exact m0 rfl (fun _ _ _ h => h) (fun cx => (cx.an 21)) fun cx hq => run_load1 rfl (by kernel_rfl) (mbv (cx.an 23) hq) ((cx.bi 0 rfl).cell 3)
    · exact m2 rfl (fun _ _ _ h => h) (fun cx => (cx.an 10)) fun cx hq => run_pick_and rfl (mbv (cx.an 21) hq) (cx.an 25) (fun e_ => by rw [hq, e_]; rfl) (cx.co _)
    · exact m0 rfl (fun _ _ _ h => h) (fun cx => (cx.an 27)) fun cx hq => run_load1 rfl (by kernel_rfl) (mbv (cx.an 29) hq) ((cx.bi 0 rfl).cell 3)
    · exact m2 rfl (fun _ _ _ h => h) (fun cx => (cx.an 10)) fun cx hq => run_pick_and rfl (mbv (cx.an 27) hq) (cx.an 31) (fun e_ => by rw [hq, e_]; rfl) (cx.co _)
  refine then_normal (wp_seq (wp_region_Z [0, 1, 3, 7, 15, 31, 63, 127, 255, 511, 1023, 2047, 4095, 8191, 16383, 32767, 65535, 131071, 262143, 524287, 1048575, 2097151, 4194303] [[], [], [], [0], [], [], [], [], [], [], [0], [], [], [], [], [], [], [], [], [0]] [.k 46 (.bool (onF a)), .k 47 (.bool (onF a)), .z 48 (!(onF a)) (vp B1_1), .y 49 (!(onF a)) (vi a), .z 50 (!(onF a)) (.bool (a == 2)), tO 51 (onF a) (a == 2), .k 52 (.bool ((onF a) || (a == 2))), .z 53 ((onF a) || (a == 2)) (.bool (onF b)), .z 54 ((onF a) || (a == 2)) (.bool (onF b)), .z 55 (((onF a) || (a == 2)) && (!(onF b))) (.pointer (some ⟨B1_1, 1, none⟩)), .y 56 (((onF a) || (a == 2)) && (!(onF b))) (vi b), .z 57 (((onF a) || (a == 2)) && (!(onF b))) (.bool (b == 0)), .y 58 ((onF a) || (a == 2)) (.bool ((onF b) || (b == 0))), tA 59 ((onF a) || (a == 2)) ((onF b) || (b == 0)), .k 60 (.bool (((onF a) || (a == 2)) && ((onF b) || (b == 0)))), .z 61 (((onF a) || (a == 2)) && ((onF b) || (b == 0))) (.bool (((n1 == (-1)) && (n2 == 0)) || ((((decide (0 ≤ n1)) && (decide (n1 < 400))) && (decide (0 ≤ n2))) && (decide (n2 < 24))))), tA 62 (((onF a) || (a == 2)) && ((onF b) || (b == 0))) (((n1 == (-1)) && (n2 == 0)) || ((((decide (0 ≤ n1)) && (decide (n1 < 400))) && (decide (0 ≤ n2))) && (decide (n2 < 24)))), .k 63 (.bool ((((onF a) || (a == 2)) && ((onF b) || (b == 0))) && (((n1 == (-1)) && (n2 == 0)) || ((((decide (0 ≤ n1)) && (decide (n1 < 400))) && (decide (0 ≤ n2))) && (decide (n2 < 24)))))), .z 64 ((((onF a) || (a == 2)) && ((onF b) || (b == 0))) && (((n1 == (-1)) && (n2 == 0)) || ((((decide (0 ≤ n1)) && (decide (n1 < 400))) && (decide (0 ≤ n2))) && (decide (n2 < 24))))) (.pointer (some ⟨B1_1, 5, none⟩)), .y 65 ((((onF a) || (a == 2)) && ((onF b) || (b == 0))) && (((n1 == (-1)) && (n2 == 0)) || ((((decide (0 ≤ n1)) && (decide (n1 < 400))) && (decide (0 ≤ n2))) && (decide (n2 < 24))))) (.slice RA rs.length rc), .y 66 ((((onF a) || (a == 2)) && ((onF b) || (b == 0))) && (((n1 == (-1)) && (n2 == 0)) || ((((decide (0 ≤ n1)) && (decide (n1 < 400))) && (decide (0 ≤ n2))) && (decide (n2 < 24))))) (.bool (rrightF rs)), tA 67 ((((onF a) || (a == 2)) && ((onF b) || (b == 0))) && (((n1 == (-1)) && (n2 == 0)) || ((((decide (0 ≤ n1)) && (decide (n1 < 400))) && (decide (0 ≤ n2))) && (decide (n2 < 24))))) (rrightF rs), .k 2 (.bool (((((onF a) || (a == 2)) && ((onF b) || (b == 0))) && (((n1 == (-1)) && (n2 == 0)) || ((((decide (0 ≤ n1)) && (decide (n1 < 400))) && (decide (0 ≤ n2))) && (decide (n2 < 24))))) && (rrightF rs)))] [0] [3, 10, 12, 19, 20] [(2, 22, 1, 3), (43, 0, 22, 65)] hst4 ?_ fun W5 hst5 => ?_))
  · refine ⟨?_, ?_, ?_, ?_, ?_, trivial⟩
    · exact m2 rfl (fun _ _ _ h => h) (fun cx => (cx.an 1)) fun cx hq => run_load1 rfl (by kernel_rfl) (mbv (cx.an 2) hq) ((cx.bi 0 rfl).cell 0)
    · exact m0 rfl (fun _ _ _ h => h) (fun cx => (cx.an 8)) fun cx hq => run_load1 rfl (by kernel_rfl) (mbv (cx.an 9) hq) ((cx.bi 0 rfl).cell 1)
    · exact m2 rfl (fun _ _ _ h => h) (fun cx => (cx.an 6)) fun cx hq => run_pick_or rfl (mbv (cx.an 8) hq) (cx.co _) (cx.an 11) (fun e_ => by rw [hq, e_]; rfl)
    · exact m2 rfl (fun _ _ _ h => h) (fun cx => (cx.an 17)) fun cx hq => run_load1 rfl (by kernel_rfl) (mbv (cx.an 18) hq) ((cx.bi 0 rfl).cell 5)
    · exact m3 rfl (fun _ _ _ h => h) (fun cx => (cx.an 17)) fun cx hq => ⟨_, _, run_callF (args := #[.slice RA rs.length rc]) rfl cx.sees rfl (by kernel_rfl) (map1 (mbv (cx.an 19) hq)), r02row_any _ _ rs _ (hA.ext cx.upd.to_ext) (by omega)⟩
  refine then_normal (wp_ret ?_)
  refine bodyPost_ret (v := .bool (((((onF a) || (a == 2)) && ((onF b) || (b == 0))) && (((n1 == (-1)) && (n2 == 0)) || ((((decide (0 ≤ n1)) && (decide (n1 < 400))) && (decide (0 ≤ n2))) && (decide (n2 < 24))))) && (rrightF rs))) (results_tmp Tryz.results141 rfl) rfl ?_
  exact Ret.bool (by rw [trightF, onZ, tnextF, Bool.or_comm (a == 2), Bool.or_comm (b == 0)]) hst5.ext
set_option maxRecDepth 100000 in
set_option maxHeartbeats 4000000 in
theorem r08bytes_any (a b n1 n2 : Int) (ho : Bool) (RA : Option Addr) (rc : Nat) (rs : List Val) (w : World) (hA : At w RA (flatR rs)) (hlr : rs.length ≤ 9223372036854775807) :
    Calls Tryz.prog 77 #[.agg #[.int .i64 a, .int .i64 b, .int .i64 n1, .int .i64 n2, .bool ho, .slice RA rs.length rc]] w (Ret (.string (tbytesF a b n1 n2 ho rs)) w) := by
  go_enter Tryz.func77, Tryz.ntmps77
  have hst0 := St.start w
  refine wp_seq (wp_region_Y [0, 0] [] [[0]] [] [.a 1, .k 2 (.string ⟨#[]⟩)] (fun ix σ β X => match ix with | 0 => σ 1 = vp (pb (β 1)) ∧ X 0 = eB (pb (β 1)) 41 #[vi a, vi b, vi n1, vi n2, .bool ho, .slice RA rs.length rc] | _ => True) [0] [0] [(1, 0, 2, 3)] hst0 ?_ ?_ ?_)
  · exact fun ix _ _ _ _ _ _ hs hb hx h => match ix, h with
    | 0, h => by dsimp only at h ⊢; rw [← hs 1 rfl, ← hb 1 rfl, ← hx 0 rfl]; exact h
    | _ + 1, _ => trivial
  · refine ⟨?_, trivial⟩
    · refine sv_any rfl rfl fun ρ β W X cx => ?_
      exact dv_box (cs := #[vi a, vi b, vi n1, vi n2, .bool ho, .slice RA rs.length rc]) rfl (cx.ou 0) rfl rfl rfl (fun σ β' X' hs hb hv hx => ⟨hv, hx⟩)
  intro σ β X W1 hD hst1 fr hfr
  obtain ⟨B1_1, hu_B1_1⟩ : ∃ z, pb (β 1) = z := ⟨_, rfl⟩
  simp only [exq 0 ((dTn (hD 0 lq)).2), hu_B1_1] at hst1
  simp only [ed 1 ((dTn (hD 0 lq)).1), hu_B1_1] at hfr
  clear hD hu_B1_1; subst hfr; clear σ β X
  refine then_normal (wp_seq (wp_seq (wp_region_Z [0, 1, 3] [[0]] [.c 5 (.agg #[vi a, vi b, vi n1, vi n2, .bool ho, .slice RA rs.length rc]), .c 6 (.bool (trightF a b n1 n2 rs)), .k 7 (.bool (!(trightF a b n1 n2 rs)))] [0] [0, 1] [(5, 0, 3, 8)] hst1 ?_ fun W2 hst2 => ?_)))
  · refine ⟨?_, ?_, trivial⟩
    · exact xs4 rfl id fun cx => run_loadB (n := 6) rfl (by kernel_rfl) (by kernel_rfl) (cx.ou 1) (cx.bi 0 rfl) (nle rfl) rfl
    · exact xsc rfl id rfl rfl fun cx => ⟨_, r08right_any a b n1 n2 ho _ _ rs _ (hA.ext cx.upd.to_ext) (by omega), (map1 (cx.an 0))⟩
  refine then_normal ?_
  rcases Bool.eq_false_or_eq_true (trightF a b n1 n2 rs) with hs3 | hs3
  · skip
    refine wp_cond_false (show Act.eval _ _ = .bool false from (congrArg Value.bool (by rw [hs3]; rfl))) (wp_skip (then_normal (wp_seq (wp_region_P [0] [.k 3 (vi 0)] [(3, 0, 1, 4)] hst2 fun W4 hst4 => ?_))))
    refine then_normal (wp_seq (wp_seq (wp_region_Z [0, 1] [[], [0]] [.k 8 (.pointer (some ⟨B1_1, 4, none⟩)), .c 9 (.bool ho)] [0] [1] [(8, 0, 2, 10)] hst4 ?_ fun W5 hst5 => ?_)))
    · refine ⟨?_, trivial⟩
      · exact xs4 rfl id fun cx => run_load1 rfl (by kernel_rfl) (cx.an 0) ((cx.bi 0 rfl).cell 4)
    refine then_normal ?_
    rcases Bool.eq_false_or_eq_true (ho) with hs6 | hs6
    · skip
      refine wp_cond_true (show Act.eval _ _ = .bool true from (congrArg Value.bool hs6)) (wp_region_P [0] [.k 3 (vi 1)] [(3, 0, 1, 4)] hst5 fun W7 hst7 => ?_)
      refine then_normal (wp_seq (wp_region_Z [0, 1, 3, 7] [[], [0]] [.k 10 (.pointer (some ⟨B1_1, 5, none⟩)), .c 11 (.slice RA rs.length rc), .c 12 (.string (vbytesF rs)), .k 4 (.string (vbytesF rs))] [0] [1, 2] [(4, 3, 1, 5), (5, 0, 3, 8)] hst7 ?_ fun W8 hst8 => ?_))
      · refine ⟨?_, ?_, trivial⟩
        · exact xs4 rfl id fun cx => run_load1 rfl (by kernel_rfl) (cx.an 0) ((cx.bi 0 rfl).cell 5)
        · exact xsc rfl id rfl rfl fun cx => ⟨_, r02bytes_any _ _ rs _ (hA.ext cx.upd.to_ext) (by omega), (map1 (cx.an 1))⟩
      refine then_normal (wp_seq ?_)
      have hpt := tright_parts (by assumption : trightF a b n1 n2 rs = true)
      have hvz := vbytes_size rs
      have hps1 : ∀ z : Int, (putS z 1).size = 1 := fun z => putS_size z 1 (by omega)
      have hps2 : ∀ z : Int, (putS z 2).size = 2 := fun z => putS_size z 2 (by omega)
      refine wp_region_Z [0, 1, 3, 0, 8, 31, 63, 0, 128, 384, 896, 1983, 4095, 0, 8192, 24576, 61375, 131071, 0, 389055, 1048575, 0, 2097152, 7204799, 16777215, 0, 67108863, 134217727] [[], [0], [], [], [0], [], [], [], [], [0], [], [], [], [], [], [0]] [.k 13 (vp B1_1), .c 14 (vi a), .c 15 (.string (putS a 1)), .k 16 (.pointer (some ⟨B1_1, 1, none⟩)), .c 17 (vi b), .c 18 (.string (putS b 1)), tS 19 (putS a 1) (putS b 1) (by simp only [ByteArray.size_append, hps1, hps2]; omega), .k 20 (.pointer (some ⟨B1_1, 2, none⟩)), .k 21 (.pointer (some ⟨B1_1, 2, none⟩)), .c 22 (vi n1), tI 23 (n1 + 1) (by omega), .c 24 (.string (putS (n1 + 1) 2)), tS 25 ((putS a 1) ++ (putS b 1)) (putS (n1 + 1) 2) (by simp only [ByteArray.size_append, hps1, hps2]; omega), .k 26 (.pointer (some ⟨B1_1, 2, none⟩)), .k 27 (.pointer (some ⟨B1_1, 3, none⟩)), .c 28 (vi n2), .c 29 (.string (putS n2 1)), tS 30 (((putS a 1) ++ (putS b 1)) ++ (putS (n1 + 1) 2)) (putS n2 1) (by simp only [ByteArray.size_append, hps1, hps2]; omega), .k 31 (vi 1), .c 32 (.string (putS 1 1)), tS 33 ((((putS a 1) ++ (putS b 1)) ++ (putS (n1 + 1) 2)) ++ (putS n2 1)) (putS 1 1) (by simp only [ByteArray.size_append, hps1, hps2]; omega), .k 34 (.string (vbytesF rs)), .k 35 (vi (((vbytesF rs).size : Int))), .c 36 (.string (putS ((vbytesF rs).size : Int) 2)), tS 37 (((((putS a 1) ++ (putS b 1)) ++ (putS (n1 + 1) 2)) ++ (putS n2 1)) ++ (putS 1 1)) (putS ((vbytesF rs).size : Int) 2) (by simp only [ByteArray.size_append, hps1, hps2]; omega), .k 38 (.string (vbytesF rs)), tS 39 ((((((putS a 1) ++ (putS b 1)) ++ (putS (n1 + 1) 2)) ++ (putS n2 1)) ++ (putS 1 1)) ++ (putS ((vbytesF rs).size : Int) 2)) (vbytesF rs) (by simp only [ByteArray.size_append, hps1, hps2]; omega), .k 2 (.string (((((((putS a 1) ++ (putS b 1)) ++ (putS (n1 + 1) 2)) ++ (putS n2 1)) ++ (putS 1 1)) ++ (putS ((vbytesF rs).size : Int) 2)) ++ (vbytesF rs)))] [0] [1, 2, 4, 5, 9, 11, 15, 16, 19, 23] [(2, 27, 1, 3), (10, 0, 27, 37)] hst8 ?_ fun W9 hst9 => ?_
      · refine ⟨?_, ?_, ?_, ?_, ?_, ?_, ?_, ?_, ?_, ?_, trivial⟩
        · exact xs4 rfl id fun cx => run_load1 rfl (by kernel_rfl) (cx.an 0) ((cx.bi 0 rfl).cell 0)
        · exact xsc rfl id rfl rfl fun cx => ⟨_, r04num_any a 1 _ (by omega), (map2 (cx.an 1) (cx.co _))⟩
        · exact xs4 rfl id fun cx => run_load1 rfl (by kernel_rfl) (cx.an 3) ((cx.bi 0 rfl).cell 1)
        · exact xsc rfl id rfl rfl fun cx => ⟨_, r04num_any b 1 _ (by omega), (map2 (cx.an 4) (cx.co _))⟩
        · exact xs4 rfl id fun cx => run_load1 rfl (by kernel_rfl) (cx.an 8) ((cx.bi 0 rfl).cell 2)
        · exact xsc rfl id rfl rfl fun cx => ⟨_, r04num_any (n1 + 1) 2 _ (by omega), (map2 (cx.an 10) (cx.co _))⟩
        · exact xs4 rfl id fun cx => run_load1 rfl (by kernel_rfl) (cx.an 14) ((cx.bi 0 rfl).cell 3)
        · exact xsc rfl id rfl rfl fun cx => ⟨_, r04num_any n2 1 _ (by omega), (map2 (cx.an 15) (cx.co _))⟩
        · exact xsc rfl id rfl rfl fun cx => ⟨_, r04num_any 1 1 _ (by omega), (map2 (cx.an 18) (cx.co _))⟩
        · exact xsc rfl id rfl rfl fun cx => ⟨_, r04num_any ((vbytesF rs).size : Int) 2 _ (by omega), (map2 (cx.an 22) (cx.co _))⟩
      refine then_normal (wp_ret ?_)
      refine bodyPost_ret (v := .string (((((((putS a 1) ++ (putS b 1)) ++ (putS (n1 + 1) 2)) ++ (putS n2 1)) ++ (putS 1 1)) ++ (putS ((vbytesF rs).size : Int) 2)) ++ (vbytesF rs))) (results_tmp Tryz.results77 rfl) rfl ?_
      exact Ret.of (by rw [← tb_cat (by assumption), hotI, show ho = true by assumption]; rfl) hst9.ext
    refine wp_cond_false (show Act.eval _ _ = .bool false from (congrArg Value.bool hs6)) (wp_skip (then_normal (wp_seq (wp_region_Z [0, 1, 3, 7] [[], [0]] [.k 10 (.pointer (some ⟨B1_1, 5, none⟩)), .c 11 (.slice RA rs.length rc), .c 12 (.string (vbytesF rs)), .k 4 (.string (vbytesF rs))] [0] [1, 2] [(4, 3, 1, 5), (5, 0, 3, 8)] hst5 ?_ fun W10 hst10 => ?_))))
    · refine ⟨?_, ?_, trivial⟩
      · exact xs4 rfl id fun cx => run_load1 rfl (by kernel_rfl) (cx.an 0) ((cx.bi 0 rfl).cell 5)
      · exact xsc rfl id rfl rfl fun cx => ⟨_, r02bytes_any _ _ rs _ (hA.ext cx.upd.to_ext) (by omega), (map1 (cx.an 1))⟩
    refine then_normal (wp_seq ?_)
    have hpt := tright_parts (by assumption : trightF a b n1 n2 rs = true)
    have hvz := vbytes_size rs
    have hps1 : ∀ z : Int, (putS z 1).size = 1 := fun z => putS_size z 1 (by omega)
    have hps2 : ∀ z : Int, (putS z 2).size = 2 := fun z => putS_size z 2 (by omega)
    refine wp_region_Z [0, 1, 3, 0, 8, 31, 63, 0, 128, 384, 896, 1983, 4095, 0, 8192, 24576, 61375, 131071, 0, 389055, 1048575, 0, 2097152, 7204799, 16777215, 0, 67108863, 134217727] [[], [0], [], [], [0], [], [], [], [], [0], [], [], [], [], [], [0]] [.k 13 (vp B1_1), .c 14 (vi a), .c 15 (.string (putS a 1)), .k 16 (.pointer (some ⟨B1_1, 1, none⟩)), .c 17 (vi b), .c 18 (.string (putS b 1)), tS 19 (putS a 1) (putS b 1) (by simp only [ByteArray.size_append, hps1, hps2]; omega), .k 20 (.pointer (some ⟨B1_1, 2, none⟩)), .k 21 (.pointer (some ⟨B1_1, 2, none⟩)), .c 22 (vi n1), tI 23 (n1 + 1) (by omega), .c 24 (.string (putS (n1 + 1) 2)), tS 25 ((putS a 1) ++ (putS b 1)) (putS (n1 + 1) 2) (by simp only [ByteArray.size_append, hps1, hps2]; omega), .k 26 (.pointer (some ⟨B1_1, 2, none⟩)), .k 27 (.pointer (some ⟨B1_1, 3, none⟩)), .c 28 (vi n2), .c 29 (.string (putS n2 1)), tS 30 (((putS a 1) ++ (putS b 1)) ++ (putS (n1 + 1) 2)) (putS n2 1) (by simp only [ByteArray.size_append, hps1, hps2]; omega), .k 31 (vi 0), .c 32 (.string (putS 0 1)), tS 33 ((((putS a 1) ++ (putS b 1)) ++ (putS (n1 + 1) 2)) ++ (putS n2 1)) (putS 0 1) (by simp only [ByteArray.size_append, hps1, hps2]; omega), .k 34 (.string (vbytesF rs)), .k 35 (vi (((vbytesF rs).size : Int))), .c 36 (.string (putS ((vbytesF rs).size : Int) 2)), tS 37 (((((putS a 1) ++ (putS b 1)) ++ (putS (n1 + 1) 2)) ++ (putS n2 1)) ++ (putS 0 1)) (putS ((vbytesF rs).size : Int) 2) (by simp only [ByteArray.size_append, hps1, hps2]; omega), .k 38 (.string (vbytesF rs)), tS 39 ((((((putS a 1) ++ (putS b 1)) ++ (putS (n1 + 1) 2)) ++ (putS n2 1)) ++ (putS 0 1)) ++ (putS ((vbytesF rs).size : Int) 2)) (vbytesF rs) (by simp only [ByteArray.size_append, hps1, hps2]; omega), .k 2 (.string (((((((putS a 1) ++ (putS b 1)) ++ (putS (n1 + 1) 2)) ++ (putS n2 1)) ++ (putS 0 1)) ++ (putS ((vbytesF rs).size : Int) 2)) ++ (vbytesF rs)))] [0] [1, 2, 4, 5, 9, 11, 15, 16, 19, 23] [(2, 27, 1, 3), (10, 0, 27, 37)] hst10 ?_ fun W11 hst11 => ?_
    · refine ⟨?_, ?_, ?_, ?_, ?_, ?_, ?_, ?_, ?_, ?_, trivial⟩
      · exact xs4 rfl id fun cx => run_load1 rfl (by kernel_rfl) (cx.an 0) ((cx.bi 0 rfl).cell 0)
      · exact xsc rfl id rfl rfl fun cx => ⟨_, r04num_any a 1 _ (by omega), (map2 (cx.an 1) (cx.co _))⟩
      · exact xs4 rfl id fun cx => run_load1 rfl (by kernel_rfl) (cx.an 3) ((cx.bi 0 rfl).cell 1)
      · exact xsc rfl id rfl rfl fun cx => ⟨_, r04num_any b 1 _ (by omega), (map2 (cx.an 4) (cx.co _))⟩
      · exact xs4 rfl id fun cx => run_load1 rfl (by kernel_rfl) (cx.an 8) ((cx.bi 0 rfl).cell 2)
      · exact xsc rfl id rfl rfl fun cx => ⟨_, r04num_any (n1 + 1) 2 _ (by omega), (map2 (cx.an 10) (cx.co _))⟩
      · exact xs4 rfl id fun cx => run_load1 rfl (by kernel_rfl) (cx.an 14) ((cx.bi 0 rfl).cell 3)
      · exact xsc rfl id rfl rfl fun cx => ⟨_, r04num_any n2 1 _ (by omega), (map2 (cx.an 15) (cx.co _))⟩
      · exact xsc rfl id rfl rfl fun cx => ⟨_, r04num_any 0 1 _ (by omega), (map2 (cx.an 18) (cx.co _))⟩
      · exact xsc rfl id rfl rfl fun cx => ⟨_, r04num_any ((vbytesF rs).size : Int) 2 _ (by omega), (map2 (cx.an 22) (cx.co _))⟩
    refine then_normal (wp_ret ?_)
    refine bodyPost_ret (v := .string (((((((putS a 1) ++ (putS b 1)) ++ (putS (n1 + 1) 2)) ++ (putS n2 1)) ++ (putS 0 1)) ++ (putS ((vbytesF rs).size : Int) 2)) ++ (vbytesF rs))) (results_tmp Tryz.results77 rfl) rfl ?_
    exact Ret.of (by rw [← tb_cat (by assumption), hotI, show ho = false by assumption]; rfl) hst11.ext
  refine wp_cond_true (show Act.eval _ _ = .bool true from (congrArg Value.bool (by rw [hs3]; rfl))) (wp_seq (wp_region_P [0] [.k 2 (.string ⟨#[]⟩)] [(2, 0, 1, 3)] hst2 fun W12 hst12 => ?_))
  refine then_normal (wp_ret (then_ret ?_))
  refine bodyPost_ret (v := .string ⟨#[]⟩) (results_tmp Tryz.results77 rfl) rfl ?_
  exact Ret.of (by rw [tbytesF, if_neg (by simp [*])]; rfl) hst12.ext
end
end Go.Proofs.YtjnplglnnamfdaaGreatDoor
namespace Go.Proofs.YtjnplglnnamfdaaGreatDoor
section
open Go.RowKit
set_option linter.unusedVariables false
set_option linter.unusedSimpArgs false
/-- where a reader stands that has read fields of these widths (the last one first), and whether it has failed -/
def stT (s : ByteArray) : List Nat → Nat × Bool
  | [] => (0, false)
  | k :: L => if (stT s L).2 = false ∧ (stT s L).1 + k ≤ s.size then ((stT s L).1 + k, false) else ((stT s L).1, true)
def stV (s : ByteArray) (L : List Nat) (k : Nat) : Int := if (stT s L).2 = false ∧ (stT s L).1 + k ≤ s.size then (numS s (stT s L).1 k : Int) else 0
theorem stT_le (s : ByteArray) (L : List Nat) : (stT s L).1 ≤ s.size := by
  cases L with
  | nil => exact Nat.zero_le _
  | cons k L =>
    have := stT_le s L
    simp only [stT]
    split <;> omega
theorem stV_bd (s : ByteArray) (L : List Nat) : 0 ≤ stV s L 2 ∧ stV s L 2 < 65536 := by
  have := numS_lt2 s (stT s L).1
  rw [stV]
  split <;> omega
theorem num_st (B : Nat) (s : ByteArray) (L : List Nat) (k : Nat) (w : World) (h : Rd 304 w B s (stT s L).1 (stT s L).2) (hk : k ≤ 4) :
    Calls Tryz.prog 130 #[.pointer (some ⟨B, 0, none⟩), .int .i64 k] w (RdPost 304 (.int .i64 (stV s L k)) B s (stT s (k :: L)).1 (stT s (k :: L)).2 w) := by
  by_cases hc : (stT s L).2 = false ∧ (stT s L).1 + k ≤ s.size
  · have e1 : stT s (k :: L) = ((stT s L).1 + k, false) := by simp only [stT]; rw [if_pos hc]
    rw [e1, stV, if_pos hc]
    rw [hc.1] at h
    exact num_ok B s _ k w h hk hc.2
  · have e1 : stT s (k :: L) = ((stT s L).1, true) := by simp only [stT]; rw [if_neg hc]
    rw [e1, stV, if_neg hc]
    refine num_bad B s _ k _ w h hk ?_
    cases hf : (stT s L).2 with
    | true => exact .inl rfl
    | false => exact .inr (Nat.lt_of_not_le fun h_ => hc ⟨hf, h_⟩)
theorem st_short {s : ByteArray} (h : s.size < 8) : (stT s [1, 1, 2, 1, 1]).2 = true ∨ s.size < (stT s [1, 1, 2, 1, 1]).1 + 2 := by
  simp only [stT]
  repeat' split
  all_goals first | exact .inl rfl | (refine .inr ?_; simp only at *; omega) | (simp_all <;> omega)
set_option maxRecDepth 100000 in
set_option maxHeartbeats 2000000 in
theorem tread_sh (s : ByteArray) (w : World) (hs : s.size < 8) :
    Calls Tryz.prog 60 #[.string s] w (Ret (.tuple #[.agg #[.int .i64 0, .int .i64 0, .int .i64 0, .int .i64 0, .bool false, .slice none 0 0], .int .i64 10]) w) := by
  have hvb := stV_bd s [1, 1]
  go_enter Tryz.func60, Tryz.ntmps60
  have hst0 := St.start w
  refine wp_seq (wp_region_Y [0, 0] [] [[0]] [] [.a 2, .k 3 (vi 0)] (fun ix σ β X => match ix with | 0 => σ 2 = vp (pb (β 2)) ∧ X 0 = eB (pb (β 2)) 41 #[vi 0, vi 0, vi 0, vi 0, .bool false, .slice none 0 0] | _ => True) [0] [0] [(2, 0, 2, 4)] hst0 ?_ ?_ ?_)
  · exact fun ix _ _ _ _ _ _ hs hb hx h => match ix, h with
    | 0, h => by dsimp only at h ⊢; rw [← hs 2 rfl, ← hb 2 rfl, ← hx 0 rfl]; exact h
    | _ + 1, _ => trivial
  · refine ⟨?_, trivial⟩
    · refine sv_any rfl rfl fun ρ β W X cx => ?_
      exact dv_alloc (cs := #[vi 0, vi 0, vi 0, vi 0, .bool false, .slice none 0 0]) rfl (by kernel_rfl) rfl rfl (fun σ β' X' hs hb hv hx => ⟨hv, hx⟩)
  intro σ β X W1 hD hst1 fr hfr
  obtain ⟨B2_1, hu_B2_1⟩ : ∃ z, pb (β 2) = z := ⟨_, rfl⟩
  simp only [exq 0 ((dTn (hD 0 lq)).2), hu_B2_1] at hst1
  simp only [ed 2 ((dTn (hD 0 lq)).1), hu_B2_1] at hfr
  clear hD hu_B2_1; subst hfr; clear σ β X
  refine then_normal (wp_seq (wp_region_Y [0, 1, 3] [] [[], [1]] [] [.k 9 (.string s), .a 10, .a 4] (fun ix σ β X => match ix with | 0 => True | 1 => σ 10 = vp (pb (β 10)) ∧ X 1 = eB (pb (β 10)) 304 #[.string s, vi (((stT s []).1 : Int)), .bool ((stT s []).2)] | 2 => σ 4 = vp (pb (β 10)) | _ => True) [0, 1] [1, 2] [(4, 2, 1, 5), (4, 0, 2, 6)] hst1 ?_ ?_ ?_))
  · exact fun ix _ _ _ _ _ _ hs hb hx h => match ix, h with
    | 1, h => by dsimp only at h ⊢; rw [← hs 10 rfl, ← hb 10 rfl, ← hx 1 rfl]; exact h
    | 2, h => by dsimp only at h ⊢; rw [← hs 4 rfl, ← hb 10 rfl]; exact h
    | 0, _ | _ + 3, _ => trivial
  · refine ⟨?_, ?_, trivial⟩
    · refine sv_any rfl rfl fun ρ β W X cx => ?_
      refine DoesU.call (run_callF (args := #[.string s]) rfl cx.sees rfl (by kernel_rfl) (map1 (cx.an 0))) ?_
      refine (oread_b s _).mono ?_
      rintro e W1 ⟨B4, rfl, ⟨hb4, hw4⟩, hx⟩
      refine ⟨_, rfl, post_call [eB B4 304 #[.string s, vi (((stT s []).1 : Int)), .bool ((stT s []).2)]] rfl rfl hx (one_new ⟨hb4, eB_loc _ _ _, fun k hk => by simp [eB] at hk; subst hk; exact ⟨hw4, hb4.lt⟩⟩) (List.pairwise_singleton _ _) (fun σ β' X' hs hb hv hN => ?_)⟩
      have hv1 := (hv 10 rfl).1; have hv2 := (hv 10 rfl).2
      exact ⟨hv1.trans (by rw [hv2]; rfl), (by rw [hv2]; exact (List.cons.inj hN).1)⟩
    · exact sv rfl rfl rfl rfl rfl _ (fun _ _ _ h => h) (fun β β' h => by rw [h 10 (by decide)]) fun ρ β W X cx => run_assign' rfl (dTn (cx.an 1)).1
  intro σ β X W2 hD hst2 fr hfr
  obtain ⟨B10_2, hu_B10_2⟩ : ∃ z, pb (β 10) = z := ⟨_, rfl⟩
  simp only [exq 1 ((dTn (hD 1 lq)).2), hu_B10_2] at hst2
  simp only [ed 10 ((dTn (hD 1 lq)).1), ed 4 ((dTn (hD 2 lq))), hu_B10_2] at hfr
  clear hD hu_B10_2; subst hfr; clear σ β X
  refine then_normal (wp_seq (wp_region_Y [0, 1, 0, 7, 15, 0, 63] [[], [1], [], [2], [], [], [4]] [[], [2], [], [3], [], [4], [5]] [[], [1], [], [2], [], [], [4]] [.k 11 (vp B10_2), .a 12, .k 13 (vp B10_2), .a 14, .c 15 (.agg #[vi ((stV s [] 1)), vi ((stV s [1] 1)), vi 0, vi 0, .bool false, .slice none 0 0]), .a 5, .n] (fun ix σ β X => match ix with | 0 => True | 1 => σ 12 = vi ((stV s [] 1)) ∧ X 2 = eB B10_2 304 #[.string s, vi (((stT s [1]).1 : Int)), .bool ((stT s [1]).2)] | 2 => True | 3 => σ 14 = vi ((stV s [1] 1)) ∧ X 3 = eB B10_2 304 #[.string s, vi (((stT s [1, 1]).1 : Int)), .bool ((stT s [1, 1]).2)] | 4 => True | 5 => σ 5 = vp (pb (β 5)) ∧ X 4 = eB (pb (β 5)) 41 #[vi 0, vi 0, vi 0, vi 0, .bool false, .slice none 0 0] | 6 => X 5 = eB (pb (β 5)) 41 #[vi ((stV s [] 1)), vi ((stV s [1] 1)), vi 0, vi 0, .bool false, .slice none 0 0] | _ => True) [0, 3, 5] [1, 3, 4, 5, 6] [(5, 5, 1, 6), (5, 0, 5, 10)] hst2 ?_ ?_ ?_))
  · exact fun ix _ _ _ _ _ _ hs hb hx h => match ix, h with
    | 1, h => by dsimp only at h ⊢; rw [← hs 12 rfl, ← hx 2 rfl]; exact h
    | 3, h => by dsimp only at h ⊢; rw [← hs 14 rfl, ← hx 3 rfl]; exact h
    | 5, h => by dsimp only at h ⊢; rw [← hs 5 rfl, ← hb 5 rfl, ← hx 4 rfl]; exact h
    | 6, h => by dsimp only at h ⊢; rw [← hb 5 rfl, ← hx 5 rfl]; exact h
    | 0, _ | 2, _ | 4, _ | _ + 7, _ => trivial
  · refine ⟨?_, ?_, ?_, ?_, ?_, trivial⟩
    · refine sv_any rfl rfl fun ρ β W X cx => ?_
      refine DoesU.call (run_callF (args := #[vp B10_2, vi 1]) rfl cx.sees rfl (by kernel_rfl) (map2 (cx.an 0) (cx.co _))) ?_
      refine (num_st _ s [] 1 _ ⟨(cx.bi 1 rfl), stT_le s _, by omega⟩ (by omega)).mono ?_
      rintro e W1 ⟨rfl, hrd, hu⟩
      refine ⟨_, rfl, post_mut (cx.init 1 _ rfl) rfl rfl hu hrd.1 (fun σ β' X' hs hb hv hx => ?_)⟩
      exact ⟨(hv 12 rfl).1.trans rfl, hx⟩
    · refine sv_any rfl rfl fun ρ β W X cx => ?_
      refine DoesU.call (run_callF (args := #[vp B10_2, vi 1]) rfl cx.sees rfl (by kernel_rfl) (map2 (cx.an 2) (cx.co _))) ?_
      refine (num_st _ s [1] 1 _ ⟨(cx.blk (dTn (cx.an 1)).2 rfl), stT_le s _, by omega⟩ (by omega)).mono ?_
      rintro e W1 ⟨rfl, hrd, hu⟩
      refine ⟨_, rfl, post_mut (dTn (cx.an 1)).2 rfl rfl hu hrd.1 (fun σ β' X' hs hb hv hx => ?_)⟩
      exact ⟨(hv 14 rfl).1.trans rfl, hx⟩
    · exact xs4 rfl id fun cx => run_buildL rfl (pmc (dTn (cx.an 1)).1 (pmc (dTn (cx.an 3)).1 pmn)) (by kernel_rfl)
    · refine sv_any rfl rfl fun ρ β W X cx => ?_
      exact dv_alloc (cs := #[vi 0, vi 0, vi 0, vi 0, .bool false, .slice none 0 0]) rfl (by kernel_rfl) rfl rfl (fun σ β' X' hs hb hv hx => ⟨hv, hx⟩)
    · refine sv_any rfl rfl fun ρ β W X cx => ?_
      exact dv_store (n := 6) rfl (dTn (cx.an 5)).1 (cx.an 4) (by kernel_rfl) (by kernel_rfl) (by kernel_rfl) cx (dTn (cx.an 5)).2 rfl (nle rfl) (by kernel_rfl) rfl rfl rfl (fun σ β' X' hs hb hx => by rw [hb 5]; exact hx)
  intro σ β X W3 hD hst3 fr hfr
  obtain ⟨B5_3, hu_B5_3⟩ : ∃ z, pb (β 5) = z := ⟨_, rfl⟩
  simp only [exq 3 ((dTn (hD 3 lq)).2), exq 5 ((dTn (hD 6 lq))), hu_B5_3] at hst3
  simp only [ed 12 ((dTn (hD 1 lq)).1), ed 14 ((dTn (hD 3 lq)).1), ed 5 ((dTn (hD 5 lq)).1), hu_B5_3] at hfr
  clear hD hu_B5_3; subst hfr; clear σ β X
  refine then_normal (wp_seq (wp_region_Y [0, 1, 3, 0, 11, 31, 63, 127] [[], [1], [], [], [3], [], [], [2]] [[], [3], [], [], [4], [], [], [5]] [[], [1], [], [], [3], [], [], [2]] [.k 16 (vp B10_2), .a 17, .c 18 (vi ((stV s [1, 1] 2) - 1)), .k 19 (vp B10_2), .a 20, .c 21 (.agg #[vi ((stV s [1, 1] 2) - 1), vi ((stV s [2, 1, 1] 1))]), .k 22 (.pointer (some ⟨B5_3, 2, none⟩)), .n] (fun ix σ β X => match ix with | 0 => True | 1 => σ 17 = vi ((stV s [1, 1] 2)) ∧ X 3 = eB B10_2 304 #[.string s, vi (((stT s [2, 1, 1]).1 : Int)), .bool ((stT s [2, 1, 1]).2)] | 2 => True | 3 => True | 4 => σ 20 = vi ((stV s [2, 1, 1] 1)) ∧ X 4 = eB B10_2 304 #[.string s, vi (((stT s [1, 2, 1, 1]).1 : Int)), .bool ((stT s [1, 2, 1, 1]).2)] | 5 => True | 6 => True | 7 => X 5 = eB B5_3 41 #[vi ((stV s [] 1)), vi ((stV s [1] 1)), vi ((stV s [1, 1] 2) - 1), vi ((stV s [2, 1, 1] 1)), .bool false, .slice none 0 0] | _ => True) [0, 4, 5] [1, 2, 4, 5, 7] [(16, 0, 7, 23)] hst3 ?_ ?_ ?_))
  · exact fun ix _ _ _ _ _ _ hs hb hx h => match ix, h with
    | 1, h => by dsimp only at h ⊢; rw [← hs 17 rfl, ← hx 3 rfl]; exact h
    | 4, h => by dsimp only at h ⊢; rw [← hs 20 rfl, ← hx 4 rfl]; exact h
    | 7, h => by dsimp only at h ⊢; rw [← hx 5 rfl]; exact h
    | 0, _ | 2, _ | 3, _ | 5, _ | 6, _ | _ + 8, _ => trivial
  · refine ⟨?_, ?_, ?_, ?_, ?_, trivial⟩
    · refine sv_any rfl rfl fun ρ β W X cx => ?_
      refine DoesU.call (run_callF (args := #[vp B10_2, vi 2]) rfl cx.sees rfl (by kernel_rfl) (map2 (cx.an 0) (cx.co _))) ?_
      refine (num_st _ s [1, 1] 2 _ ⟨(cx.bi 1 rfl), stT_le s _, by omega⟩ (by omega)).mono ?_
      rintro e W1 ⟨rfl, hrd, hu⟩
      refine ⟨_, rfl, post_mut (cx.init 1 _ rfl) rfl rfl hu hrd.1 (fun σ β' X' hs hb hv hx => ?_)⟩
      exact ⟨(hv 17 rfl).1.trans rfl, hx⟩
    · exact xs4 rfl id fun cx => run_bin rfl (dTn (cx.an 1)).1 (cx.co _) (congrArg (fun z => some (Value.int .i64 z)) ((IntWalk.i64_in _ (by omega)).trans (by omega)))
    · refine sv_any rfl rfl fun ρ β W X cx => ?_
      refine DoesU.call (run_callF (args := #[vp B10_2, vi 1]) rfl cx.sees rfl (by kernel_rfl) (map2 (cx.an 3) (cx.co _))) ?_
      refine (num_st _ s [2, 1, 1] 1 _ ⟨(cx.blk (dTn (cx.an 1)).2 rfl), stT_le s _, by omega⟩ (by omega)).mono ?_
      rintro e W1 ⟨rfl, hrd, hu⟩
      refine ⟨_, rfl, post_mut (dTn (cx.an 1)).2 rfl rfl hu hrd.1 (fun σ β' X' hs hb hv hx => ?_)⟩
      exact ⟨(hv 20 rfl).1.trans rfl, hx⟩
    · exact xs4 rfl id fun cx => run_buildL rfl (pmc (cx.an 2) (pmc (dTn (cx.an 4)).1 pmn)) (by kernel_rfl)
    · refine sv_any rfl rfl fun ρ β W X cx => ?_
      exact dv_store (n := 2) rfl (cx.an 6) (cx.an 5) (by kernel_rfl) (by kernel_rfl) (by kernel_rfl) cx (cx.init 2 _ rfl) rfl (nle rfl) (by kernel_rfl) rfl rfl rfl (fun σ β' X' hs hb hx => hx)
  intro σ β X W4 hD hst4 fr hfr
  simp only [exq 4 ((dTn (hD 4 lq)).2), exq 5 ((dTn (hD 7 lq)))] at hst4
  simp only [ed 17 ((dTn (hD 1 lq)).1), ed 20 ((dTn (hD 4 lq)).1)] at hfr
  clear hD; subst hfr; clear σ β X
  refine then_normal (wp_seq (wp_region_Y [0, 1, 3, 7, 15] [[], [1], [], [], [2]] [[], [3], [], [], [4]] [[], [1], [], [], [2]] [.k 23 (vp B10_2), .a 24, .c 25 (.bool ((stV s [1, 2, 1, 1] 1) == 1)), .k 26 (.pointer (some ⟨B5_3, 4, none⟩)), .n] (fun ix σ β X => match ix with | 0 => True | 1 => σ 24 = vi ((stV s [1, 2, 1, 1] 1)) ∧ X 3 = eB B10_2 304 #[.string s, vi (((stT s [1, 1, 2, 1, 1]).1 : Int)), .bool ((stT s [1, 1, 2, 1, 1]).2)] | 2 => True | 3 => True | 4 => X 4 = eB B5_3 41 #[vi ((stV s [] 1)), vi ((stV s [1] 1)), vi ((stV s [1, 1] 2) - 1), vi ((stV s [2, 1, 1] 1)), .bool ((stV s [1, 2, 1, 1] 1) == 1), .slice none 0 0] | _ => True) [0, 3, 4] [1, 2, 4] [(23, 0, 4, 27)] hst4 ?_ ?_ ?_))
  · exact fun ix _ _ _ _ _ _ hs hb hx h => match ix, h with
    | 1, h => by dsimp only at h ⊢; rw [← hs 24 rfl, ← hx 3 rfl]; exact h
    | 4, h => by dsimp only at h ⊢; rw [← hx 4 rfl]; exact h
    | 0, _ | 2, _ | 3, _ | _ + 5, _ => trivial
  · refine ⟨?_, ?_, ?_, trivial⟩
    · refine sv_any rfl rfl fun ρ β W X cx => ?_
      refine DoesU.call (run_callF (args := #[vp B10_2, vi 1]) rfl cx.sees rfl (by kernel_rfl) (map2 (cx.an 0) (cx.co _))) ?_
      refine (num_st _ s [1, 2, 1, 1] 1 _ ⟨(cx.bi 1 rfl), stT_le s _, by omega⟩ (by omega)).mono ?_
      rintro e W1 ⟨rfl, hrd, hu⟩
      refine ⟨_, rfl, post_mut (cx.init 1 _ rfl) rfl rfl hu hrd.1 (fun σ β' X' hs hb hv hx => ?_)⟩
      exact ⟨(hv 24 rfl).1.trans rfl, hx⟩
    · exact xs4 rfl id fun cx => run_bin rfl (dTn (cx.an 1)).1 (cx.co _) rfl
    · refine sv_any rfl rfl fun ρ β W X cx => ?_
      exact dv_store (n := 1) rfl (cx.an 3) (cx.an 2) (by kernel_rfl) (by kernel_rfl) (by kernel_rfl) cx (cx.init 2 _ rfl) rfl (nle rfl) (by kernel_rfl) rfl rfl rfl (fun σ β' X' hs hb hx => hx)
  intro σ β X W5 hD hst5 fr hfr
  simp only [exq 3 ((dTn (hD 1 lq)).2), exq 4 ((dTn (hD 4 lq)))] at hst5
  simp only [ed 24 ((dTn (hD 1 lq)).1)] at hfr
  clear hD; subst hfr; clear σ β X
  refine then_normal (wp_seq (wp_region_Y [0, 1, 3] [[], [1]] [[], [3]] [[], [1]] [.k 27 (vp B10_2), .a 28, .c 6 (.string ByteArray.empty)] (fun ix σ β X => match ix with | 0 => True | 1 => σ 28 = .string ByteArray.empty ∧ X 3 = eB B10_2 304 #[.string s, vi (((stT s [1, 1, 2, 1, 1]).1 : Int)), .bool true] | _ => True) [0, 2, 3] [1, 2] [(6, 2, 1, 7), (20, 0, 2, 22)] hst5 ?_ ?_ ?_))
  · exact fun ix _ _ _ _ _ _ hs hb hx h => match ix, h with
    | 1, h => by dsimp only at h ⊢; rw [← hs 28 rfl, ← hx 3 rfl]; exact h
    | 0, _ | _ + 2, _ => trivial
  · refine ⟨?_, ?_, trivial⟩
    · refine sv_any rfl rfl fun ρ β W X cx => ?_
      refine DoesU.call (run_callF (args := #[vp B10_2]) rfl cx.sees rfl (by kernel_rfl) (map1 (cx.an 0))) ?_
      refine (text_bad _ s (stT s [1, 1, 2, 1, 1]).1 (stT s [1, 1, 2, 1, 1]).2 _ ⟨(cx.bi 1 rfl), stT_le s _, by omega⟩ (by rcases st_short hs with h_ | h_ <;> simp [h_])).mono ?_
      rintro e W1 ⟨rfl, hrd, hu⟩
      refine ⟨_, rfl, post_mut (cx.init 1 _ rfl) rfl rfl hu hrd.1 (fun σ β' X' hs hb hv hx => ?_)⟩
      exact ⟨(hv 28 rfl).1.trans rfl, hx⟩
    · exact xs4 rfl id fun cx => run_assign' rfl (dTn (cx.an 1)).1
  intro σ β X W6 hD hst6 fr hfr
  simp only [exq 3 ((dTn (hD 1 lq)).2)] at hst6
  simp only [ed 28 ((dTn (hD 1 lq)).1)] at hfr
  clear hD; subst hfr; clear σ β X
  refine then_normal (wp_seq (wp_seq (wp_region_Y [0, 1] [[], [2]] [] [] [.k 29 (vp B10_2), .a 30] (fun ix σ β X => match ix with | 0 => True | 1 => σ 30 = .bool true | _ => True) [0, 1, 2] [1] [(29, 0, 2, 31)] hst6 ?_ ?_ ?_)))
  · exact fun ix _ _ _ _ _ _ hs hb hx h => match ix, h with
    | 1, h => (hs _ rfl).symm.trans h
    | 0, _ | _ + 2, _ => trivial
  · refine ⟨?_, trivial⟩
    · refine sv_any rfl rfl fun ρ β W X cx => ?_
      refine DoesU.call (run_callF (args := #[vp B10_2]) rfl cx.sees rfl (by kernel_rfl) (map1 (cx.an 0))) ?_
      refine (failed_any _ s (stT s [1, 1, 2, 1, 1]).1 true _ ⟨(cx.bi 2 rfl), stT_le s _, by omega⟩).mono ?_
      rintro e W1 ⟨rfl, rfl⟩
      refine ⟨_, rfl, post_call [] rfl rfl (Ext.refl _) (by simp) List.Pairwise.nil (fun σ β' X' hs hb hv hN => ?_)⟩
      have hv1 := (hv 30 rfl).1; have hv2 := (hv 30 rfl).2
      exact hv1.trans rfl
  intro σ β X W7 hD hst7 fr hfr
  simp only [ed 30 ((dTn (hD 1 lq)))] at hfr
  clear hD; subst hfr; clear σ β X
  refine then_normal (wp_cond_true (show Act.eval _ _ = .bool true from rfl) (wp_seq (wp_region_Y [0, 1, 3] [[], [0]] [[], [3]] [[], [0]] [.k 31 (.agg #[vi 0, vi 0, vi 0, vi 0, .bool false, .slice none 0 0]), .n, .k 3 (vi 10)] (fun ix σ β X => match ix with | 0 => True | 1 => X 3 = eB B2_1 41 #[vi 0, vi 0, vi 0, vi 0, .bool false, .slice none 0 0] | _ => True) [1, 2, 3] [1] [(3, 2, 1, 4), (27, 0, 1, 28)] hst7 ?_ ?_ ?_)))
  · exact fun ix _ _ _ _ _ _ hs hb hx h => match ix, h with
    | 1, h => by dsimp only at h ⊢; rw [← hx 3 rfl]; exact h
    | 0, _ | _ + 2, _ => trivial
  · refine ⟨?_, trivial⟩
    · refine sv_any rfl rfl fun ρ β W X cx => ?_
      exact dv_store (n := 6) rfl (cx.ou 2) (cx.an 0) (by kernel_rfl) (by kernel_rfl) (by kernel_rfl) cx (cx.init 0 _ rfl) rfl (nle rfl) (by kernel_rfl) rfl rfl rfl (fun σ β' X' hs hb hx => hx)
  intro σ β X W8 hD hst8 fr hfr
  simp only [exq 3 ((dTn (hD 1 lq)))] at hst8
  clear hD; subst hfr; clear σ β X
  refine then_normal (wp_ret (then_ret ?_))
  have hr9 : W8.cell? ⟨B2_1, 0, none⟩ = some (vi 0) := (hst8.blk 2 rfl).cell 0
  have hr10 : W8.cell? ⟨B2_1, 1, none⟩ = some (vi 0) := (hst8.blk 2 rfl).cell 1
  have hr11 : W8.cell? ⟨B2_1, 2, none⟩ = some (vi 0) := (hst8.blk 2 rfl).cell 2
  have hr12 : W8.cell? ⟨B2_1, 3, none⟩ = some (vi 0) := (hst8.blk 2 rfl).cell 3
  have hr13 : W8.cell? ⟨B2_1, 4, none⟩ = some (.bool false) := (hst8.blk 2 rfl).cell 4
  have hr14 : W8.cell? ⟨B2_1, 5, none⟩ = some (.slice none 0 0) := (hst8.blk 2 rfl).cell 5
  refine bodyPost_ret (v := .tuple #[.agg #[vi 0, vi 0, vi 0, vi 0, .bool false, .slice none 0 0], vi 10]) (by simp [results, Tryz.results60, go_sem, hr9, hr10, hr11, hr12, hr13, hr14]) rfl ?_
  exact Ret.of rfl hst8.ext
set_option maxRecDepth 100000 in
set_option maxHeartbeats 2000000 in
theorem r08read_sh (s : ByteArray) (w : World) (hs : s.size < 8) :
    Calls Tryz.prog 139 #[.string s] w (Ret (.agg #[.int .i64 0, .int .i64 0, .int .i64 0, .int .i64 0, .bool false, .slice none 0 0, .int .i64 10]) w) := by
  go_enter Tryz.func139, Tryz.ntmps139
  have hst0 := St.start w
  refine wp_seq (wp_region_Y [0] [] [[0]] [] [.a 2] (fun ix σ β X => match ix with | 0 => σ 2 = vp (pb (β 2)) ∧ X 0 = eB (pb (β 2)) 247 #[vi 0, vi 0, vi 0, vi 0, .bool false, .slice none 0 0, vi 0] | _ => True) [0] [0] [(2, 0, 1, 3)] hst0 ?_ ?_ ?_)
  · exact fun ix _ _ _ _ _ _ hs hb hx h => match ix, h with
    | 0, h => by dsimp only at h ⊢; rw [← hs 2 rfl, ← hb 2 rfl, ← hx 0 rfl]; exact h
    | _ + 1, _ => trivial
  · refine ⟨?_, trivial⟩
    · refine sv_any rfl rfl fun ρ β W X cx => ?_
      exact dv_alloc (cs := #[vi 0, vi 0, vi 0, vi 0, .bool false, .slice none 0 0, vi 0]) rfl (by kernel_rfl) rfl rfl (fun σ β' X' hs hb hv hx => ⟨hv, hx⟩)
  intro σ β X W1 hD hst1 fr hfr
  obtain ⟨B2_1, hu_B2_1⟩ : ∃ z, pb (β 2) = z := ⟨_, rfl⟩
  simp only [exq 0 ((dTn (hD 0 lq)).2), hu_B2_1] at hst1
  simp only [ed 2 ((dTn (hD 0 lq)).1), hu_B2_1] at hfr
  clear hD hu_B2_1; subst hfr; clear σ β X
  refine then_normal (wp_seq (wp_seq ?_))
  have hd3 : (decide ((s.size : Int) < 8)) = true := decide_eq_true (by omega)
  refine wp_region_P [0, 1, 3, 7, 15, 31, 15, 79, 207, 463, 975, 15, 2063, 6159, 16335, 32767, 65535] [.k 5 (.string s), .k 6 (vi ((s.size : Int))), .e 7 (.bool (decide ((s.size : Int) < 8))) (.bool true) (congrArg Value.bool hd3), .k 8 (.bool true), .u 9, .u 10, .u 11, .u 12, .u 13, .u 14, .u 15, .u 16, .u 17, .u 18, .u 19, .u 20, .k 21 (.bool true)] [(5, 0, 17, 22)] hst1 fun W2 hst2 => ?_
  refine then_normal (wp_cond_true (show Act.eval _ _ = .bool true from rfl) (wp_seq (wp_region_Y [0, 1] [[], [0]] [[], [1]] [[], [0]] [.k 22 (.agg #[vi 0, vi 0, vi 0, vi 0, .bool false, .slice none 0 0, vi 10]), .n] (fun ix σ β X => match ix with | 0 => True | 1 => X 1 = eB B2_1 247 #[vi 0, vi 0, vi 0, vi 0, .bool false, .slice none 0 0, vi 10] | _ => True) [1] [1] [(22, 0, 1, 23)] hst2 ?_ ?_ ?_)))
  · exact fun ix _ _ _ _ _ _ hs hb hx h => match ix, h with
    | 1, h => by dsimp only at h ⊢; rw [← hx 1 rfl]; exact h
    | 0, _ | _ + 2, _ => trivial
  · refine ⟨?_, trivial⟩
    · refine sv_any rfl rfl fun ρ β W X cx => ?_
      exact dv_store (n := 7) rfl (cx.ou 2) (cx.an 0) (by kernel_rfl) (by kernel_rfl) (by kernel_rfl) cx (cx.init 0 _ rfl) rfl (nle rfl) (by kernel_rfl) rfl rfl rfl (fun σ β' X' hs hb hx => hx)
  intro σ β X W4 hD hst4 fr hfr
  simp only [exq 1 ((dTn (hD 1 lq)))] at hst4
  clear hD; subst hfr; clear σ β X
  refine then_normal (wp_ret (then_ret ?_))
  refine bodyPost_ret (v := .agg #[vi 0, vi 0, vi 0, vi 0, .bool false, .slice none 0 0, vi 10]) (results_cell (n := 7) Tryz.results139 rfl (by kernel_rfl) (by kernel_rfl) (hst4.blk 0 rfl) rfl) rfl ?_
  exact Ret.of rfl hst4.ext
end
end Go.Proofs.YtjnplglnnamfdaaGreatDoor
namespace Go.Proofs.YtjnplglnnamfdaaGreatDoor
section
open Go.RowKit
set_option linter.unusedVariables false
set_option linter.unusedSimpArgs false
theorem byte_app {A C : List UInt8} {p : Nat} (hp : A.length = p) (j : Nat) : byteI (A ++ C) (p + j) = byteI C j := by
  subst hp
  rw [byteI, byteI, List.getD_eq_getElem?_getD, List.getD_eq_getElem?_getD, List.getElem?_append_right (by omega), Nat.add_sub_cancel_left]
theorem byte_left {A C : List UInt8} {j : Nat} (h : j < A.length) : byteI (A ++ C) j = byteI A j := by
  rw [byteI, byteI, List.getD_eq_getElem?_getD, List.getD_eq_getElem?_getD, List.getElem?_append_left h]
theorem byte_bI (s : ByteArray) (j : Nat) : byteI s.data.toList j = (bI s).getD j 0 := by
  rw [byteI, bI, List.getD_eq_getElem?_getD, List.getD_eq_getElem?_getD, List.getElem?_map]
  cases s.data.toList[j]? <;> rfl
theorem sub_at {l A B C : List UInt8} {p q : Nat} (hl : l = A ++ (B ++ C)) (hp : A.length = p) (hq : p + B.length = q) : (strL l).extract p q = strL B := by
  rw [strL_ext, hl, ← hp, List.drop_left]
  congr 1
  rw [← hq, ← hp, Nat.add_sub_cancel_left, List.take_left]
theorem vals_split (rs : List Val) {k : Nat} (h : k < rs.length) : valsB rs = valsB (rs.take k) ++ (UInt8.ofNat (rs.getD k v0).1.toNat :: (tailB (rs.getD k v0) ++ valsB (rs.drop (k + 1)))) := by
  rw [← valsB_at h, valsB, ← List.flatMap_append, List.take_append_drop]
theorem vals_take (rs : List Val) {k : Nat} (h : k < rs.length) : (valsB (rs.take (k + 1))).length = (valsB (rs.take k)).length + 1 + (tailB (rs.getD k v0)).length := by
  rw [valsB, List.take_add_one, List.getElem?_eq_getElem h, List.flatMap_append, List.length_append, List.getD_eq_getElem?_getD, List.getElem?_eq_getElem h]
  simp [valB, tailB]
  omega
theorem acc_mul (N : Int) {j : Nat} (hj : j < 8) : IntKind.i64.wrap (IntKind.i64.wrap (accN N j * 256) + (oct8 N).getD j 0) = accN N (j + 1) := by
  have h := u64_bd N
  have e : ∀ x c : Int, IntKind.i64.wrap (IntKind.i64.wrap (IntKind.i64.wrap x * 256) + c) = IntKind.i64.wrap (x * 256 + c) := fun x c => by
    simp only [IntKind.wrap_i64]; omega
  rw [accN, e, accN]
  congr 1
  unfold oct8
  generalize IntKind.u64.wrap N = u at *
  rcases (by omega : j = 0 ∨ j = 1 ∨ j = 2 ∨ j = 3 ∨ j = 4 ∨ j = 5 ∨ j = 6 ∨ j = 7) with rfl | rfl | rfl | rfl | rfl | rfl | rfl | rfl <;> simp only [List.getD_cons_zero, List.getD_cons_succ, Nat.reduceSub, Nat.reduceAdd, Int.reducePow] <;> omega
def Rd02Post (rs : List Val) (w : World) (e : Ending) (w' : World) : Prop := ∃ A c, e = .returned (.agg #[.slice A rs.length c, .int .i64 0]) ∧ w'.ownsRow w.heap.size 45 3 (.slice A rs.length c) rs.length (flatR (plainR rs)) ∧ Ext w w'
set_option maxRecDepth 100000 in
set_option maxHeartbeats 8000000 in
theorem r02read_any (rs : List Val) (h0 : UInt8) (l : List UInt8) (w : World) (hl : l = h0 :: valsB rs) (hr : rrightF rs = true) (hrN : ∀ v ∈ rs, v.1 = 1 → -9223372036854775808 ≤ v.2.1 ∧ v.2.1 ≤ 9223372036854775807) (hh0 : ((h0.toNat : Nat) : Int) = (rs.length : Int)) (hlm : l.length ≤ 1000) :
    Calls Tryz.prog 207 #[.string (strL l)] w (Rd02Post rs w) := by
  have hl6 := rright_len hr
  have hsl := strL_size l
  have hb00 : byteI l 0 = (rs.length : Int) := by rw [hl]; exact hh0
  have hl0 : l.length = 1 + (valsB rs).length := by rw [hl, List.length_cons]; omega
  go_enter Tryz.func207, Tryz.ntmps207
  have hst0 := St.start w
  refine wp_seq (wp_region_Y [0] [] [[0]] [] [.a 2] (fun ix σ β X => match ix with | 0 => σ 2 = vp (pb (β 2)) ∧ X 0 = eB (pb (β 2)) 311 #[.slice none 0 0, vi 0] | _ => True) [0] [0] [(2, 0, 1, 3)] hst0 ?_ ?_ ?_)
  · exact fun ix _ _ _ _ _ _ hs hb hx h => match ix, h with
    | 0, h => by dsimp only at h ⊢; rw [← hs 2 rfl, ← hb 2 rfl, ← hx 0 rfl]; exact h
    | _ + 1, _ => trivial
  · refine ⟨?_, trivial⟩
    · refine sv_any rfl rfl fun ρ β W X cx => ?_
      exact dv_alloc (cs := #[.slice none 0 0, vi 0]) rfl (by kernel_rfl) rfl rfl (fun σ β' X' hs hb hv hx => ⟨hv, hx⟩)
  intro σ β X W1 hD hst1 fr hfr
  obtain ⟨B2_1, hu_B2_1⟩ : ∃ z, pb (β 2) = z := ⟨_, rfl⟩
  simp only [exq 0 ((dTn (hD 0 lq)).2), hu_B2_1] at hst1
  simp only [ed 2 ((dTn (hD 0 lq)).1), hu_B2_1] at hfr
  clear hD hu_B2_1; subst hfr; clear σ β X
  refine then_normal (wp_seq (wp_seq ?_))
  have hd3 : (decide (((strL l).size : Int) < 1)) = false := decide_eq_false (by omega)
  refine wp_region_P [0, 1, 3] [.k 10 (.string (strL l)), .k 11 (vi (((strL l).size : Int))), .e 12 (.bool (decide (((strL l).size : Int) < 1))) (.bool false) (congrArg Value.bool hd3)] [(10, 0, 3, 13)] hst1 fun W2 hst2 => ?_
  refine then_normal (wp_cond_false (show Act.eval _ _ = .bool false from rfl) (wp_skip (then_normal (wp_seq (wp_region_Z [0, 1, 3, 7] [] [.k 14 (.string (strL l)), .c 15 (.int .u8 ((rs.length : Int))), tW 16 .i64 (rs.length : Int) (rs.length : Int) (IntWalk.i64_in _ (by omega)), .k 3 (vi ((rs.length : Int)))] [0] [1] [(3, 3, 1, 4), (10, 0, 3, 13)] hst2 ?_ fun W4 hst4 => ?_)))))
  · refine ⟨?_, trivial⟩
    · exact xs4 rfl id fun cx => (by refine (run_indexStr (l := l) (m := 0) rfl (by kernel_rfl) (cx.an 0) (cx.co _) (by omega) (by omega)).trans ?_; rw [hb00])
  refine then_normal (wp_seq (wp_seq ?_))
  have hd6 : (decide (6 < (rs.length : Int))) = false := decide_eq_false (by omega)
  refine wp_region_P [0, 1] [.k 17 (vi ((rs.length : Int))), .e 18 (.bool (decide (6 < (rs.length : Int)))) (.bool false) (congrArg Value.bool hd6)] [(17, 0, 2, 19)] hst4 fun W5 hst5 => ?_
  refine then_normal (wp_cond_false (show Act.eval _ _ = .bool false from rfl) (wp_skip (then_normal (wp_seq (wp_region_P [0] [.k 4 (vi 1)] [(4, 0, 1, 5)] hst5 fun W7 hst7 => ?_)))))
  refine then_normal (wp_seq (wp_region_Y [0, 1] [] [[1]] [] [.a 20, .a 5] (fun ix σ β X => match ix with | 0 => σ 20 = .slice ((some ⟨(pb' (β 20)), 0, none⟩)) 0 0 ∧ X 1 = eO 45 3 (.slice ((some ⟨(pb' (β 20)), 0, none⟩)) 0 0) 0 ([]) | 1 => σ 5 = .slice ((some ⟨(pb' (β 20)), 0, none⟩)) 0 0 | _ => True) [0, 1] [0, 1] [(5, 1, 1, 6), (14, 0, 1, 15)] hst7 ?_ ?_ ?_))
  · exact fun ix _ _ _ _ _ _ hs hb hx h => match ix, h with
    | 0, h => by dsimp only at h ⊢; rw [← hs 20 rfl, ← hb 20 rfl, ← hx 1 rfl]; exact h
    | 1, h => by dsimp only at h ⊢; rw [← hs 5 rfl, ← hb 20 rfl]; exact h
    | _ + 2, _ => trivial
  · refine ⟨?_, ?_, trivial⟩
    · refine sv_any rfl rfl fun ρ β W X cx => ?_
      exact dv_litN (e := 45) (sz := 3) (xs := []) rfl (by simp [go_sem]) rfl (by decide) rfl rfl (fun σ β' X' hs hb hv hx => ⟨hv, hx⟩)
    · exact sv rfl rfl rfl rfl rfl _ (fun _ _ _ h => h) (fun β β' h => by rw [h 20 (by decide)]) fun ρ β W X cx => run_assign' rfl (dTn (cx.an 0)).1
  intro σ β X W8 hD hst8 fr hfr
  obtain ⟨B20_8, hu_B20_8⟩ : ∃ z, pb' (β 20) = z := ⟨_, rfl⟩
  simp only [exq 1 ((dTn (hD 0 lq)).2), hu_B20_8] at hst8
  simp only [ed 20 ((dTn (hD 0 lq)).1), ed 5 ((dTn (hD 1 lq))), hu_B20_8] at hfr
  clear hD hu_B20_8; subst hfr; clear σ β X
  refine then_normal (wp_seq (wp_seq (wp_region_P [0] [.k 6 (vi 0)] [(6, 0, 1, 7)] hst8 fun W9 hst9 => ?_)))
  refine then_normal (wp_block ?_)
  refine wp_loopN (fun mz az W => ∃ k : Nat, ∃ p : Nat, ∃ RA : Option Addr, ∃ RC : Nat, ∃ u10_ : List Value, k ≤ rs.length ∧ p = 1 + (valsB (rs.take k)).length ∧ mz = rs.length - k ∧ az = ⟨#[.string (strL l), undef, vp B2_1, vi ((rs.length : Int)), vi ((p : Int)), .slice RA k RC, vi ((k : Int)), (gu u10_ 0), (gu u10_ 1), (gu u10_ 2), .string (strL l), vi (((strL l).size : Int)), .bool false, undef, .string (strL l), .int .u8 ((rs.length : Int)), vi ((rs.length : Int)), vi ((rs.length : Int)), .bool false, undef, .slice ((some ⟨B20_8, 0, none⟩)) 0 0, (gu u10_ 3), (gu u10_ 4), (gu u10_ 5), (gu u10_ 6), (gu u10_ 7), (gu u10_ 8), (gu u10_ 9), (gu u10_ 10), (gu u10_ 11), (gu u10_ 12), (gu u10_ 13), (gu u10_ 14), (gu u10_ 15), (gu u10_ 16), (gu u10_ 17), (gu u10_ 18), (gu u10_ 19), (gu u10_ 20), (gu u10_ 21), (gu u10_ 22), (gu u10_ 23), (gu u10_ 24), (gu u10_ 25), (gu u10_ 26), (gu u10_ 27), (gu u10_ 28), (gu u10_ 29), (gu u10_ 30), (gu u10_ 31), (gu u10_ 32), (gu u10_ 33), (gu u10_ 34), (gu u10_ 35), (gu u10_ 36), (gu u10_ 37), (gu u10_ 38), (gu u10_ 39), (gu u10_ 40), (gu u10_ 41), (gu u10_ 42), (gu u10_ 43), (gu u10_ 44), (gu u10_ 45), (gu u10_ 46), (gu u10_ 47), (gu u10_ 48), (gu u10_ 49), (gu u10_ 50), (gu u10_ 51), (gu u10_ 52), (gu u10_ 53), (gu u10_ 54), (gu u10_ 55), (gu u10_ 56), (gu u10_ 57), (gu u10_ 58), (gu u10_ 59), (gu u10_ 60), (gu u10_ 61), (gu u10_ 62), (gu u10_ 63), (gu u10_ 64), (gu u10_ 65), (gu u10_ 66), (gu u10_ 67), (gu u10_ 68), (gu u10_ 69), (gu u10_ 70), (gu u10_ 71), (gu u10_ 72), (gu u10_ 73), (gu u10_ 74), (gu u10_ 75), (gu u10_ 76), (gu u10_ 77), (gu u10_ 78), (gu u10_ 79), (gu u10_ 80), (gu u10_ 81), (gu u10_ 82), (gu u10_ 83), (gu u10_ 84), (gu u10_ 85), (gu u10_ 86), (gu u10_ 87), (gu u10_ 88), undef, undef, undef, undef, undef, undef, undef], []⟩ ∧ St w [] [eO 45 3 (.slice RA k RC) k (flatR (plainR (rs.take k))), eB B2_1 311 #[.slice none 0 0, vi 0]] W) (rs.length - 0) ?_ ?_
  · -- the loop begins
    have hp11 := hst9.pick [1, 0] (by decide) rfl
    exact ⟨0, 1, (some ⟨B20_8, 0, none⟩), 0, [undef, undef, undef, undef, undef, undef, undef, undef, undef, undef, undef, undef, undef, undef, undef, undef, undef, undef, undef, undef, undef, undef, undef, undef, undef, undef, undef, undef, undef, undef, undef, undef, undef, undef, undef, undef, undef, undef, undef, undef, undef, undef, undef, undef, undef, undef, undef, undef, undef, undef, undef, undef, undef, undef, undef, undef, undef, undef, undef, undef, undef, undef, undef, undef, undef, undef, undef, undef, undef, undef, undef, undef, undef, undef, undef, undef, undef, undef, undef, undef, undef, undef, undef, undef, undef, undef, undef, undef, undef], by omega, rfl, rfl, rfl, hp11⟩
  rintro n10 a10 W10 ⟨k, p, RA, RC, u10_, hk, hp, rfl, rfl, hst10⟩
  refine wp_seq (wp_seq (wp_region_P [0, 0, 3] [.k 21 (vi ((k : Int))), .k 22 (vi ((rs.length : Int))), .k 23 (.bool (decide ((k : Int) < (rs.length : Int))))] [(21, 0, 3, 24)] hst10 fun W12 hst12 => ?_))
  refine then_normal ?_
  rcases Bool.eq_false_or_eq_true (decide ((k : Int) < (rs.length : Int))) with hs13 | hs13
  · skip
    have hs13p : (k : Int) < (rs.length : Int) := by simpa using hs13
    refine wp_cond_true (show Act.eval _ _ = .bool true from (congrArg Value.bool hs13)) (wp_skip (then_normal (wp_seq (wp_block (wp_seq (wp_seq ?_))))))
    obtain ⟨u, hu⟩ : ∃ z, rs.getD k v0 = z := ⟨_, rfl⟩
    have hvu : vrightF u = true := by rw [← hu]; exact rright_at hr (by omega)
    have hpu := vright_parts hvu
    have hkn : 0 ≤ u.1 ∧ u.1 ≤ 2 := by omega
    have huN : u.1 = 1 → -9223372036854775808 ≤ u.2.1 ∧ u.2.1 ≤ 9223372036854775807 := by rw [← hu]; exact hrN _ (by rw [List.getD_eq_getElem?_getD, List.getElem?_eq_getElem (by omega), Option.getD_some]; exact List.getElem_mem _)
    obtain ⟨hd, hhd⟩ : ∃ z, UInt8.ofNat u.1.toNat = z := ⟨_, rfl⟩
    have hdv : ((hd.toNat : Nat) : Int) = u.1 := by rw [← hhd]; exact u8_int (by omega)
    obtain ⟨TB, hTB⟩ : ∃ z, tailB u = z := ⟨_, rfl⟩
    obtain ⟨R, hR⟩ : ∃ z, valsB (rs.drop (k + 1)) = z := ⟨_, rfl⟩
    obtain ⟨A, hA⟩ : ∃ z, h0 :: valsB (rs.take k) = z := ⟨_, rfl⟩
    have hAl : A.length = p := by rw [← hA, hp, List.length_cons]; omega
    have hl_ : l = A ++ (hd :: (TB ++ R)) := by rw [hl, vals_split rs (k := k) (by omega), hu, hhd, hTB, hR, ← hA, List.cons_append]
    have hlen : l.length = p + 1 + TB.length + R.length := by rw [hl_]; simp only [List.length_append, List.length_cons]; omega
    have hst1 : (valsB (rs.take (k + 1))).length + 1 = p + 1 + TB.length := by rw [vals_take rs (by omega), hu, hTB]; omega
    have hbt0 : byteI l p = u.1 := by rw [hl_]; exact (byte_app hAl 0).trans hdv
    have hbtj : ∀ j, j < TB.length → byteI l (p + 1 + j) = byteI TB j := fun j hj_ => by rw [hl_, show A ++ hd :: (TB ++ R) = (A ++ [hd]) ++ (TB ++ R) by simp, byte_app (by simp; omega), byte_left hj_]
    clear hhd
    have hd15 : (decide (((strL l).size : Int) ≤ (p : Int))) = false := decide_eq_false (by omega)
    refine wp_region_P [0, 0, 2, 7] [.k 26 (vi ((p : Int))), .k 27 (.string (strL l)), .k 28 (vi (((strL l).size : Int))), .e 29 (.bool (decide (((strL l).size : Int) ≤ (p : Int)))) (.bool false) (congrArg Value.bool hd15)] [(26, 0, 4, 30)] hst12 fun W14 hst14 => ?_
    refine then_normal (wp_cond_false (show Act.eval _ _ = .bool false from rfl) (wp_skip (then_normal (wp_seq (wp_region_Y [0, 0, 3, 7, 15, 0, 63] [[], [], [], [], [], [], [2]] [[], [], [], [], [], [2], [3]] [[], [], [], [], [], [], [2]] [.k 31 (.string (strL l)), .k 32 (vi ((p : Int))), .c 33 (.int .u8 u.1), tW 34 .i64 u.1 u.1 (IntWalk.i64_in _ (by omega)), .k 35 (.agg #[vi u.1, vi 0, .string ByteArray.empty]), .a 7, .n] (fun ix σ β X => match ix with | 0 => True | 1 => True | 2 => True | 3 => True | 4 => True | 5 => σ 7 = vp (pb (β 7)) ∧ X 2 = eB (pb (β 7)) 45 #[vi 0, vi 0, .string ByteArray.empty] | 6 => X 3 = eB (pb (β 7)) 45 #[vi u.1, vi 0, .string ByteArray.empty] | _ => True) [0, 1, 3] [2, 5, 6] [(7, 5, 1, 8), (23, 0, 5, 28)] hst14 ?_ ?_ ?_)))))
    · exact fun ix _ _ _ _ _ _ hs hb hx h => match ix, h with
      | 5, h => by dsimp only at h ⊢; rw [← hs 7 rfl, ← hb 7 rfl, ← hx 2 rfl]; exact h
      | 6, h => by dsimp only at h ⊢; rw [← hb 7 rfl, ← hx 3 rfl]; exact h
      | 0, _ | 1, _ | 2, _ | 3, _ | 4, _ | _ + 7, _ => trivial
    · refine ⟨?_, ?_, ?_, trivial⟩
      · exact xs4 rfl id fun cx => (by refine (run_indexStr (l := l) (m := p) rfl (by kernel_rfl) (cx.an 0) (cx.an 1) (by omega) (by omega)).trans ?_; rw [hbt0])
      · refine sv_any rfl rfl fun ρ β W X cx => ?_
        exact dv_alloc (cs := #[vi 0, vi 0, .string ByteArray.empty]) rfl (by kernel_rfl) rfl rfl (fun σ β' X' hs hb hv hx => ⟨hv, hx⟩)
      · refine sv_any rfl rfl fun ρ β W X cx => ?_
        exact dv_store (n := 3) rfl (dTn (cx.an 5)).1 (cx.an 4) (by kernel_rfl) (by kernel_rfl) (by kernel_rfl) cx (dTn (cx.an 5)).2 rfl (nle rfl) (by kernel_rfl) rfl rfl rfl (fun σ β' X' hs hb hx => by rw [hb 7]; exact hx)
    intro σ β X W16 hD hst16 fr hfr
    obtain ⟨B7_16, hu_B7_16⟩ : ∃ z, pb (β 7) = z := ⟨_, rfl⟩
    simp only [exq 3 ((dTn (hD 6 lq))), hu_B7_16] at hst16
    simp only [ed 7 ((dTn (hD 5 lq)).1), hu_B7_16] at hfr
    clear hD hu_B7_16; subst hfr; clear σ β X
    refine then_normal (wp_seq (wp_region_P [0, 1, 3] [.k 36 (vi ((p : Int))), tI 37 ((p : Int) + 1) (by omega), .k 4 (vi ((p : Int) + 1))] [(4, 2, 1, 5), (31, 0, 2, 33)] hst16 fun W17 hst17 => ?_))
    refine then_normal (wp_seq (wp_seq (wp_region_Z [0, 1] [[], [2]] [.k 38 (vp B7_16), .c 39 (vi u.1)] [0, 1, 2] [1] [(38, 0, 2, 40)] hst17 ?_ fun W18 hst18 => ?_)))
    · refine ⟨?_, trivial⟩
      · exact xs4 rfl id fun cx => run_load1 rfl (by kernel_rfl) (cx.an 0) ((cx.bi 2 rfl).cell 0)
    refine then_normal (wp_block (wp_seq (wp_region_P [0, 1] [.k 42 (.bool (u.1 == 0)), .k 41 (.bool (u.1 == 0))] [(41, 1, 1, 42), (0, 0, 1, 1)] hst18 fun W19 hst19 => ?_)))
    refine then_normal ?_
    rcases Bool.eq_false_or_eq_true (u.1 == 0) with hs20 | hs20
    · skip
      have hs20p : u.1 = 0 := by simpa using hs20
      refine wp_cond_true (show Act.eval _ _ = .bool true from (congrArg Value.bool hs20)) (wp_skip (blk_normal (then_normal ?_)))
      have hp8 : TB.length = 0 := by rw [← hTB, tailB, if_neg (by omega), if_neg (by omega)]; rfl
      refine wp_region_Y [0, 0, 2, 7, 15] [[], [2], [], [3, 0]] [[], [], [3], [4]] [[], [], [], [0]] [.k 103 (.slice RA k RC), .c 104 (.agg #[vi u.1, vi 0, .string ByteArray.empty]), .a 105, .a 106, .a 5] (fun ix σ β X => match ix with | 0 => True | 1 => True | 2 => σ 105 = .slice ((some ⟨(pb' (β 105)), 0, none⟩)) 1 1 ∧ X 3 = eO 45 3 (.slice ((some ⟨(pb' (β 105)), 0, none⟩)) 1 1) 1 ([vi u.1, vi 0, .string ByteArray.empty]) | 3 => σ 106 = .slice (sA (β 106)) (k + 1) (sC (β 106)) ∧ X 4 = eO 45 3 (.slice (sA (β 106)) (k + 1) (sC (β 106))) (k + 1) (flatR (plainR (rs.take (k + 1)))) | 4 => σ 5 = .slice (sA (β 106)) (k + 1) (sC (β 106)) | _ => True) [1, 2, 3, 4] [1, 2, 3, 4] [(5, 4, 1, 6), (97, 0, 4, 101)] hst19 ?_ ?_ ?_
      · exact fun ix _ _ _ _ _ _ hs hb hx h => match ix, h with
        | 2, h => by dsimp only at h ⊢; rw [← hs 105 rfl, ← hb 105 rfl, ← hx 3 rfl]; exact h
        | 3, h => by dsimp only at h ⊢; rw [← hs 106 rfl, ← hb 106 rfl, ← hx 4 rfl]; exact h
        | 4, h => by dsimp only at h ⊢; rw [← hs 5 rfl, ← hb 106 rfl]; exact h
        | 0, _ | 1, _ | _ + 5, _ => trivial
      · refine ⟨?_, ?_, ?_, ?_, trivial⟩
        · exact xs4 rfl id fun cx => run_loadB (n := 3) rfl (by kernel_rfl) (by kernel_rfl) (cx.ou 7) (cx.bi 2 rfl) (nle rfl) rfl
        · refine sv_any rfl rfl fun ρ β W X cx => ?_
          have fF104 : ρ (.tmp 104) = .agg #[vi u.1, vi 0, .string ByteArray.empty] := (cx.an 1)
          exact dv_litN (e := 45) (sz := 3) (xs := [vi u.1, vi 0, .string ByteArray.empty]) rfl (by simp [go_sem, fF104]) rfl (by decide) rfl rfl (fun σ β' X' hs hb hv hx => ⟨hv, hx⟩)
        · refine sv_any rfl rfl fun ρ β W X cx => ?_
          obtain ⟨i0, hi0, hz0, hz1, hz2⟩ := info_parts Tryz.infoVal
          refine dv_appendN (n := k) (m := 1) (nm := k + 1) (sz := 3) (xs := flatR (plainR (rs.take k))) (news := [vi u.1, vi 0, .string ByteArray.empty]) (xs' := flatR (plainR (rs.take (k + 1)))) rfl (ty := 39) rfl (by kernel_rfl) hi0 hz0 hz1 hz2 rfl (by decide) (cx.an 0) cx (cx.init 0 _ rfl) rfl (dTn (cx.an 2)).1 (by rfl) (At.of_ownN (cx.row (dTn (cx.an 2)).2 rfl)) (by simp [Value.oneCell']) (by simp only [maxLen]; omega) (by omega) rfl rfl rfl (by omega) (plain_snoc (by omega) (by rw [hu]; simp [cellsV, plainV, *])) (fun σ β' X' hs hb hv hx => ?_)
          exact ⟨hv, hx⟩
        · exact sv rfl rfl rfl rfl rfl _ (fun _ _ _ h => h) (fun β β' h => by rw [h 106 (by decide)]) fun ρ β W X cx => run_assign' rfl (dTn (cx.an 3)).1
      intro σ β X W21 hD hst21 fr hfr
      obtain ⟨B105_21, hu_B105_21⟩ : ∃ z, pb' (β 105) = z := ⟨_, rfl⟩
      obtain ⟨A106_21, hu_A106_21⟩ : ∃ z, sA (β 106) = z := ⟨_, rfl⟩
      obtain ⟨c106_21, hu_c106_21⟩ : ∃ z, sC (β 106) = z := ⟨_, rfl⟩
      simp only [exq 3 ((dTn (hD 2 lq)).2), exq 4 ((dTn (hD 3 lq)).2), hu_B105_21, hu_A106_21, hu_c106_21] at hst21
      simp only [ed 105 ((dTn (hD 2 lq)).1), ed 106 ((dTn (hD 3 lq)).1), ed 5 ((dTn (hD 4 lq))), hu_B105_21, hu_A106_21, hu_c106_21] at hfr
      clear hD hu_B105_21 hu_A106_21 hu_c106_21; subst hfr; clear σ β X
      refine blk_normal (then_normal (wp_region_P [0, 1, 3] [.k 24 (vi ((k : Int))), tI 25 ((k : Int) + 1) (by omega), .k 6 (vi ((k : Int) + 1))] [(6, 2, 1, 7), (17, 0, 2, 19)] hst21 fun W22 hst22 => ?_))
      refine then_normal ?_
      refine ⟨rs.length - ((k + 1)), by omega, ?_⟩
      have hp23 := hst22.pick [3, 0] (by decide) rfl
      exact ⟨(k + 1), (p + 1), A106_21, c106_21, [vp B7_16, (gu u10_ 1), (gu u10_ 2), vi ((k : Int)), vi ((rs.length : Int)), .bool (decide ((k : Int) < (rs.length : Int))), vi ((k : Int)), vi ((k : Int) + 1), vi ((p : Int)), .string (strL l), vi (((strL l).size : Int)), .bool false, (gu u10_ 12), .string (strL l), vi ((p : Int)), .int .u8 u.1, vi u.1, .agg #[vi u.1, vi 0, .string ByteArray.empty], vi ((p : Int)), vi ((p : Int) + 1), vp B7_16, vi u.1, (gu u10_ 22), .bool (u.1 == 0), .bool (u.1 == 0), (gu u10_ 25), (gu u10_ 26), (gu u10_ 27), (gu u10_ 28), (gu u10_ 29), (gu u10_ 30), (gu u10_ 31), (gu u10_ 32), (gu u10_ 33), (gu u10_ 34), (gu u10_ 35), (gu u10_ 36), (gu u10_ 37), (gu u10_ 38), (gu u10_ 39), (gu u10_ 40), (gu u10_ 41), (gu u10_ 42), (gu u10_ 43), (gu u10_ 44), (gu u10_ 45), (gu u10_ 46), (gu u10_ 47), (gu u10_ 48), (gu u10_ 49), (gu u10_ 50), (gu u10_ 51), (gu u10_ 52), (gu u10_ 53), (gu u10_ 54), (gu u10_ 55), (gu u10_ 56), (gu u10_ 57), (gu u10_ 58), (gu u10_ 59), (gu u10_ 60), (gu u10_ 61), (gu u10_ 62), (gu u10_ 63), (gu u10_ 64), (gu u10_ 65), (gu u10_ 66), (gu u10_ 67), (gu u10_ 68), (gu u10_ 69), (gu u10_ 70), (gu u10_ 71), (gu u10_ 72), (gu u10_ 73), (gu u10_ 74), (gu u10_ 75), (gu u10_ 76), (gu u10_ 77), (gu u10_ 78), (gu u10_ 79), (gu u10_ 80), (gu u10_ 81), (gu u10_ 82), (gu u10_ 83), (gu u10_ 84), .slice RA k RC, .agg #[vi u.1, vi 0, .string ByteArray.empty], .slice ((some ⟨B105_21, 0, none⟩)) 1 1, .slice A106_21 (k + 1) c106_21], by omega, by omega, rfl, rfl, hp23⟩
    have hs20p : u.1 ≠ 0 := by simpa using hs20
    refine wp_cond_false (show Act.eval _ _ = .bool false from (congrArg Value.bool hs20)) (wp_seq (wp_region_P [0, 1] [.k 44 (.bool (u.1 == 1)), .k 43 (.bool (u.1 == 1))] [(43, 1, 1, 44), (0, 0, 1, 1)] hst19 fun W24 hst24 => ?_))
    refine then_normal ?_
    rcases Bool.eq_false_or_eq_true (u.1 == 1) with hs25 | hs25
    · skip
      have hs25p : u.1 = 1 := by simpa using hs25
      refine wp_cond_true (show Act.eval _ _ = .bool true from (congrArg Value.bool hs25)) (wp_seq (wp_seq ?_))
      have h8 : TB = (putS u.2.1 8).data.toList := by rw [← hTB, tailB, if_pos (by assumption)]
      have hp8 : TB.length = 8 := by rw [h8, Array.length_toList]; exact putS_size _ 8 (by omega)
      have hbt8 : ∀ j, j < 8 → byteI l (p + 1 + j) = (oct8 u.2.1).getD j 0 := fun j hj_ => by rw [hbtj j (by omega), h8, byte_bI, bI_put]
      have hd27 : (decide (((strL l).size : Int) < (p : Int) + 9)) = false := decide_eq_false (by omega)
      refine wp_region_P [0, 1, 0, 4, 15] [.k 45 (vi ((p : Int) + 1)), tJ 46 (((p : Int) + 1) + 8) ((p : Int) + 9) (by omega) (by omega), .k 47 (.string (strL l)), .k 48 (vi (((strL l).size : Int))), .e 49 (.bool (decide (((strL l).size : Int) < (p : Int) + 9))) (.bool false) (congrArg Value.bool hd27)] [(45, 0, 5, 50)] hst24 fun W26 hst26 => ?_
      refine then_normal (wp_cond_false (show Act.eval _ _ = .bool false from rfl) (wp_skip (then_normal (wp_seq (wp_seq (wp_region_P [0] [.k 8 (vi 0)] [(8, 0, 1, 9)] hst26 fun W28 hst28 => ?_))))))
      refine then_normal (wp_block ?_)
      rw [show eB B7_16 45 #[vi u.1, vi 0, .string ByteArray.empty] = eB B7_16 45 #[vi u.1, vi (accN u.2.1 0), .string ByteArray.empty] from by rw [acc_0]] at hst28
      refine wp_loopN (fun mz az W => ∃ j : Nat, ∃ u29_ : List Value, j ≤ 8 ∧ mz = 8 - j ∧ az = ⟨#[.string (strL l), undef, vp B2_1, vi ((rs.length : Int)), vi ((p : Int) + 1), .slice RA k RC, vi ((k : Int)), vp B7_16, vi ((j : Int)), (gu u10_ 2), .string (strL l), vi (((strL l).size : Int)), .bool false, undef, .string (strL l), .int .u8 ((rs.length : Int)), vi ((rs.length : Int)), vi ((rs.length : Int)), .bool false, undef, .slice ((some ⟨B20_8, 0, none⟩)) 0 0, vi ((k : Int)), vi ((rs.length : Int)), .bool (decide ((k : Int) < (rs.length : Int))), (gu u10_ 6), (gu u10_ 7), vi ((p : Int)), .string (strL l), vi (((strL l).size : Int)), .bool false, (gu u10_ 12), .string (strL l), vi ((p : Int)), .int .u8 u.1, vi u.1, .agg #[vi u.1, vi 0, .string ByteArray.empty], vi ((p : Int)), vi ((p : Int) + 1), vp B7_16, vi u.1, (gu u10_ 22), .bool (u.1 == 0), .bool (u.1 == 0), .bool (u.1 == 1), .bool (u.1 == 1), vi ((p : Int) + 1), vi ((p : Int) + 9), .string (strL l), vi (((strL l).size : Int)), .bool false, (gu u10_ 32), (gu u29_ 0), (gu u29_ 1), (gu u29_ 2), (gu u29_ 3), (gu u29_ 4), (gu u29_ 5), (gu u29_ 6), (gu u29_ 7), (gu u29_ 8), (gu u29_ 9), (gu u29_ 10), (gu u29_ 11), (gu u29_ 12), (gu u29_ 13), (gu u29_ 14), (gu u10_ 48), (gu u10_ 49), (gu u10_ 50), (gu u10_ 51), (gu u10_ 52), (gu u10_ 53), (gu u10_ 54), (gu u10_ 55), (gu u10_ 56), (gu u10_ 57), (gu u10_ 58), (gu u10_ 59), (gu u10_ 60), (gu u10_ 61), (gu u10_ 62), (gu u10_ 63), (gu u10_ 64), (gu u10_ 65), (gu u10_ 66), (gu u10_ 67), (gu u10_ 68), (gu u10_ 69), (gu u10_ 70), (gu u10_ 71), (gu u10_ 72), (gu u10_ 73), (gu u10_ 74), (gu u10_ 75), (gu u10_ 76), (gu u10_ 77), (gu u10_ 78), (gu u10_ 79), (gu u10_ 80), (gu u10_ 81), (gu u10_ 82), (gu u10_ 83), (gu u10_ 84), (gu u10_ 85), (gu u10_ 86), (gu u10_ 87), (gu u10_ 88), undef, undef, undef, undef, undef, undef, undef], []⟩ ∧ St w [] [eO 45 3 (.slice RA k RC) k (flatR (plainR (rs.take k))), eB B2_1 311 #[.slice none 0 0, vi 0], eB B7_16 45 #[vi u.1, vi (accN u.2.1 j), .string ByteArray.empty]] W) (8 - 0) ?_ ?_
      · -- the loop begins
        have hp30 := hst28.pick [0, 1, 2] (by decide) rfl
        exact ⟨0, [(gu u10_ 33), (gu u10_ 34), (gu u10_ 35), (gu u10_ 36), (gu u10_ 37), (gu u10_ 38), (gu u10_ 39), (gu u10_ 40), (gu u10_ 41), (gu u10_ 42), (gu u10_ 43), (gu u10_ 44), (gu u10_ 45), (gu u10_ 46), (gu u10_ 47)], by omega, rfl, rfl, hp30⟩
      rintro n29 a29 W29 ⟨j, u29_, hj, rfl, rfl, hst29⟩
      refine wp_seq (wp_seq (wp_region_P [0, 1] [.k 51 (vi ((j : Int))), .k 52 (.bool (decide ((j : Int) < 8)))] [(51, 0, 2, 53)] hst29 fun W31 hst31 => ?_))
      refine then_normal ?_
      rcases Bool.eq_false_or_eq_true (decide ((j : Int) < 8)) with hs32 | hs32
      · skip
        have hs32p : (j : Int) < 8 := by simpa using hs32
        refine wp_cond_true (show Act.eval _ _ = .bool true from (congrArg Value.bool hs32)) (wp_skip (then_normal (wp_seq (wp_block ?_))))
        have hob := oct8_bd u.2.1 j
        refine wp_region_Y [0, 1, 3, 0, 0, 0, 48, 120, 248, 511, 1023, 2047] [[], [2], [], [], [], [], [], [], [], [], [], [2]] [[], [], [], [], [], [], [], [], [], [], [], [3]] [[], [], [], [], [], [], [], [], [], [], [], [2]] [.k 55 (.pointer (some ⟨B7_16, 1, none⟩)), .c 56 (vi (accN u.2.1 j)), .k 57 (vi (IntKind.i64.wrap (accN u.2.1 j * 256))), .k 58 (.string (strL l)), .k 59 (vi ((p : Int) + 1)), .k 60 (vi ((j : Int))), tI 61 (((p : Int) + 1) + (j : Int)) (by omega), .c 62 (.int .u8 ((oct8 u.2.1).getD j 0)), tW 63 .i64 ((oct8 u.2.1).getD j 0) ((oct8 u.2.1).getD j 0) (IntWalk.i64_in _ (by omega)), tW 64 .i64 ((IntKind.i64.wrap (accN u.2.1 j * 256)) + ((oct8 u.2.1).getD j 0)) (accN u.2.1 (j + 1)) (acc_mul _ (by omega)), .k 65 (.pointer (some ⟨B7_16, 1, none⟩)), .n] (fun ix σ β X => match ix with | 0 => True | 1 => True | 2 => True | 3 => True | 4 => True | 5 => True | 6 => True | 7 => True | 8 => True | 9 => True | 10 => True | 11 => X 3 = eB B7_16 45 #[vi u.1, vi (accN u.2.1 (j + 1)), .string ByteArray.empty] | _ => True) [0, 1, 3] [1, 7, 11] [(55, 0, 11, 66)] hst31 ?_ ?_ ?_
        · exact fun ix _ _ _ _ _ _ hs hb hx h => match ix, h with
          | 11, h => by dsimp only at h ⊢; rw [← hx 3 rfl]; exact h
          | 0, _ | 1, _ | 2, _ | 3, _ | 4, _ | 5, _ | 6, _ | 7, _ | 8, _ | 9, _ | 10, _ | _ + 12, _ => trivial
        · refine ⟨?_, ?_, ?_, trivial⟩
          · exact xs4 rfl id fun cx => run_load1 rfl (by kernel_rfl) (cx.an 0) ((cx.bi 2 rfl).cell 1)
          · exact xs4 rfl id fun cx => (by refine (run_indexStr (l := l) (m := p + 1 + j) rfl (by kernel_rfl) (cx.an 3) (cx.an 6) (by omega) (by omega)).trans ?_; rw [hbt8 j (by omega)])
          · refine sv_any rfl rfl fun ρ β W X cx => ?_
            exact dv_store (n := 1) rfl (cx.an 10) (cx.an 9) (by kernel_rfl) (by kernel_rfl) (by kernel_rfl) cx (cx.init 2 _ rfl) rfl (nle rfl) (by kernel_rfl) rfl rfl rfl (fun σ β' X' hs hb hx => hx)
        intro σ β X W33 hD hst33 fr hfr
        simp only [exq 3 ((dTn (hD 11 lq)))] at hst33
        clear hD; subst hfr; clear σ β X
        refine blk_normal (then_normal (wp_region_P [0, 1, 3] [.k 53 (vi ((j : Int))), tI 54 ((j : Int) + 1) (by omega), .k 8 (vi ((j : Int) + 1))] [(8, 2, 1, 9), (44, 0, 2, 46)] hst33 fun W34 hst34 => ?_))
        refine then_normal ?_
        refine ⟨8 - ((j + 1)), by omega, ?_⟩
        have hp35 := hst34.pick [0, 1, 2] (by decide) rfl
        exact ⟨(j + 1), [vi ((j : Int)), .bool (decide ((j : Int) < 8)), vi ((j : Int)), vi ((j : Int) + 1), .pointer (some ⟨B7_16, 1, none⟩), vi (accN u.2.1 j), vi (IntKind.i64.wrap (accN u.2.1 j * 256)), .string (strL l), vi ((p : Int) + 1), vi ((j : Int)), vi ((p : Int) + 1 + (j : Int)), .int .u8 ((oct8 u.2.1).getD j 0), vi ((oct8 u.2.1).getD j 0), vi (accN u.2.1 (j + 1)), .pointer (some ⟨B7_16, 1, none⟩)], by omega, rfl, rfl, hp35⟩
      have hs32p : ¬ ((j : Int) < 8) := by simpa using hs32
      refine wp_cond_false (show Act.eval _ _ = .bool false from (congrArg Value.bool hs32)) (wp_exit (then_exit (then_exit (blk_eq (then_normal ?_)))))
      obtain rfl : j = 8 := by omega
      rw [acc_8 (huN (by assumption))] at hst31
      refine wp_region_P [0, 1, 3] [.k 66 (vi ((p : Int) + 1)), tJ 67 (((p : Int) + 1) + 8) ((p : Int) + 9) (by omega) (by omega), .k 4 (vi ((p : Int) + 9))] [(4, 2, 1, 5), (61, 0, 2, 63)] hst31 fun W36 hst36 => ?_
      refine blk_normal (then_normal (wp_region_Y [0, 0, 2, 7, 15] [[], [2], [], [3, 0]] [[], [], [3], [4]] [[], [], [], [0]] [.k 103 (.slice RA k RC), .c 104 (.agg #[vi u.1, vi u.2.1, .string ByteArray.empty]), .a 105, .a 106, .a 5] (fun ix σ β X => match ix with | 0 => True | 1 => True | 2 => σ 105 = .slice ((some ⟨(pb' (β 105)), 0, none⟩)) 1 1 ∧ X 3 = eO 45 3 (.slice ((some ⟨(pb' (β 105)), 0, none⟩)) 1 1) 1 ([vi u.1, vi u.2.1, .string ByteArray.empty]) | 3 => σ 106 = .slice (sA (β 106)) (k + 1) (sC (β 106)) ∧ X 4 = eO 45 3 (.slice (sA (β 106)) (k + 1) (sC (β 106))) (k + 1) (flatR (plainR (rs.take (k + 1)))) | 4 => σ 5 = .slice (sA (β 106)) (k + 1) (sC (β 106)) | _ => True) [1, 2, 3, 4] [1, 2, 3, 4] [(5, 4, 1, 6), (97, 0, 4, 101)] hst36 ?_ ?_ ?_))
      · exact fun ix _ _ _ _ _ _ hs hb hx h => match ix, h with
        | 2, h => by dsimp only at h ⊢; rw [← hs 105 rfl, ← hb 105 rfl, ← hx 3 rfl]; exact h
        | 3, h => by dsimp only at h ⊢; rw [← hs 106 rfl, ← hb 106 rfl, ← hx 4 rfl]; exact h
        | 4, h => by dsimp only at h ⊢; rw [← hs 5 rfl, ← hb 106 rfl]; exact h
        | 0, _ | 1, _ | _ + 5, _ => trivial
      · refine ⟨?_, ?_, ?_, ?_, trivial⟩
        · exact xs4 rfl id fun cx => run_loadB (n := 3) rfl (by kernel_rfl) (by kernel_rfl) (cx.ou 7) (cx.bi 2 rfl) (nle rfl) rfl
        · refine sv_any rfl rfl fun ρ β W X cx => ?_
          have fF104 : ρ (.tmp 104) = .agg #[vi u.1, vi u.2.1, .string ByteArray.empty] := (cx.an 1)
          exact dv_litN (e := 45) (sz := 3) (xs := [vi u.1, vi u.2.1, .string ByteArray.empty]) rfl (by simp [go_sem, fF104]) rfl (by decide) rfl rfl (fun σ β' X' hs hb hv hx => ⟨hv, hx⟩)
        · refine sv_any rfl rfl fun ρ β W X cx => ?_
          obtain ⟨i0, hi0, hz0, hz1, hz2⟩ := info_parts Tryz.infoVal
          refine dv_appendN (n := k) (m := 1) (nm := k + 1) (sz := 3) (xs := flatR (plainR (rs.take k))) (news := [vi u.1, vi u.2.1, .string ByteArray.empty]) (xs' := flatR (plainR (rs.take (k + 1)))) rfl (ty := 39) rfl (by kernel_rfl) hi0 hz0 hz1 hz2 rfl (by decide) (cx.an 0) cx (cx.init 0 _ rfl) rfl (dTn (cx.an 2)).1 (by rfl) (At.of_ownN (cx.row (dTn (cx.an 2)).2 rfl)) (by simp [Value.oneCell']) (by simp only [maxLen]; omega) (by omega) rfl rfl rfl (by omega) (plain_snoc (by omega) (by rw [hu]; simp [cellsV, plainV, *])) (fun σ β' X' hs hb hv hx => ?_)
          exact ⟨hv, hx⟩
        · exact sv rfl rfl rfl rfl rfl _ (fun _ _ _ h => h) (fun β β' h => by rw [h 106 (by decide)]) fun ρ β W X cx => run_assign' rfl (dTn (cx.an 3)).1
      intro σ β X W37 hD hst37 fr hfr
      obtain ⟨B105_37, hu_B105_37⟩ : ∃ z, pb' (β 105) = z := ⟨_, rfl⟩
      obtain ⟨A106_37, hu_A106_37⟩ : ∃ z, sA (β 106) = z := ⟨_, rfl⟩
      obtain ⟨c106_37, hu_c106_37⟩ : ∃ z, sC (β 106) = z := ⟨_, rfl⟩
      simp only [exq 3 ((dTn (hD 2 lq)).2), exq 4 ((dTn (hD 3 lq)).2), hu_B105_37, hu_A106_37, hu_c106_37] at hst37
      simp only [ed 105 ((dTn (hD 2 lq)).1), ed 106 ((dTn (hD 3 lq)).1), ed 5 ((dTn (hD 4 lq))), hu_B105_37, hu_A106_37, hu_c106_37] at hfr
      clear hD hu_B105_37 hu_A106_37 hu_c106_37; subst hfr; clear σ β X
      refine blk_normal (then_normal (wp_region_P [0, 1, 3] [.k 24 (vi ((k : Int))), tI 25 ((k : Int) + 1) (by omega), .k 6 (vi ((k : Int) + 1))] [(6, 2, 1, 7), (17, 0, 2, 19)] hst37 fun W38 hst38 => ?_))
      refine then_normal ?_
      refine ⟨rs.length - ((k + 1)), by omega, ?_⟩
      have hp39 := hst38.pick [3, 0] (by decide) rfl
      exact ⟨(k + 1), (p + 9), A106_37, c106_37, [vp B7_16, vi (((8 : Nat) : Int)), (gu u10_ 2), vi ((k : Int)), vi ((rs.length : Int)), .bool (decide ((k : Int) < (rs.length : Int))), vi ((k : Int)), vi ((k : Int) + 1), vi ((p : Int)), .string (strL l), vi (((strL l).size : Int)), .bool false, (gu u10_ 12), .string (strL l), vi ((p : Int)), .int .u8 u.1, vi u.1, .agg #[vi u.1, vi 0, .string ByteArray.empty], vi ((p : Int)), vi ((p : Int) + 1), vp B7_16, vi u.1, (gu u10_ 22), .bool (u.1 == 0), .bool (u.1 == 0), .bool (u.1 == 1), .bool (u.1 == 1), vi ((p : Int) + 1), vi ((p : Int) + 9), .string (strL l), vi (((strL l).size : Int)), .bool false, (gu u10_ 32), vi (((8 : Nat) : Int)), .bool (decide (((8 : Nat) : Int) < 8)), (gu u29_ 2), (gu u29_ 3), (gu u29_ 4), (gu u29_ 5), (gu u29_ 6), (gu u29_ 7), (gu u29_ 8), (gu u29_ 9), (gu u29_ 10), (gu u29_ 11), (gu u29_ 12), (gu u29_ 13), (gu u29_ 14), vi ((p : Int) + 1), vi ((p : Int) + 9), (gu u10_ 50), (gu u10_ 51), (gu u10_ 52), (gu u10_ 53), (gu u10_ 54), (gu u10_ 55), (gu u10_ 56), (gu u10_ 57), (gu u10_ 58), (gu u10_ 59), (gu u10_ 60), (gu u10_ 61), (gu u10_ 62), (gu u10_ 63), (gu u10_ 64), (gu u10_ 65), (gu u10_ 66), (gu u10_ 67), (gu u10_ 68), (gu u10_ 69), (gu u10_ 70), (gu u10_ 71), (gu u10_ 72), (gu u10_ 73), (gu u10_ 74), (gu u10_ 75), (gu u10_ 76), (gu u10_ 77), (gu u10_ 78), (gu u10_ 79), (gu u10_ 80), (gu u10_ 81), (gu u10_ 82), (gu u10_ 83), (gu u10_ 84), .slice RA k RC, .agg #[vi u.1, vi u.2.1, .string ByteArray.empty], .slice ((some ⟨B105_37, 0, none⟩)) 1 1, .slice A106_37 (k + 1) c106_37], by omega, by omega, rfl, rfl, hp39⟩
    have hs25p : u.1 ≠ 1 := by simpa using hs25
    refine wp_cond_false (show Act.eval _ _ = .bool false from (congrArg Value.bool hs25)) (wp_seq (wp_region_P [0, 1] [.k 69 (.bool (u.1 == 2)), .k 68 (.bool (u.1 == 2))] [(68, 1, 1, 69), (0, 0, 1, 1)] hst24 fun W40 hst40 => ?_))
    refine then_normal ?_
    rcases Bool.eq_false_or_eq_true (u.1 == 2) with hs41 | hs41
    · skip
      have hs41p : u.1 = 2 := by simpa using hs41
      refine wp_cond_true (show Act.eval _ _ = .bool true from (congrArg Value.bool hs41)) (wp_seq (wp_seq ?_))
      have hs2 : u.2.2.size ≤ 40 := hpu.2.2 (by assumption)
      obtain ⟨h2, hh2⟩ : ∃ z, UInt8.ofNat ((u.2.2.size : Nat) : Int).toNat = z := ⟨_, rfl⟩
      have hv2 : ((h2.toNat : Nat) : Int) = (u.2.2.size : Int) := by rw [← hh2]; exact u8_int (by omega)
      have h8 : TB = h2 :: u.2.2.data.toList := by rw [← hTB, tailB, if_neg (by assumption), if_pos (by assumption), hh2]
      have hp8 : TB.length = 1 + u.2.2.size := by rw [h8, List.length_cons, Array.length_toList]; show u.2.2.size + 1 = _; omega
      have hbt1 : byteI l (p + 1) = (u.2.2.size : Int) := by rw [show p + 1 = p + 1 + 0 from rfl, hbtj 0 (by omega), h8]; exact hv2
      have hex : (strL l).extract (p + 1 + 1) (p + 1 + 1 + u.2.2.size) = u.2.2 := by rw [sub_at (B := u.2.2.data.toList) (C := R) (A := A ++ [hd, h2]) (p := p + 1 + 1) (by rw [hl_, h8]; simp) (by simp; omega) (by rw [Array.length_toList]; rfl), strL_data]
      have hd43 : (decide (((strL l).size : Int) ≤ (p : Int) + 1)) = false := decide_eq_false (by omega)
      refine wp_region_P [0, 0, 2, 7] [.k 70 (vi ((p : Int) + 1)), .k 71 (.string (strL l)), .k 72 (vi (((strL l).size : Int))), .e 73 (.bool (decide (((strL l).size : Int) ≤ (p : Int) + 1))) (.bool false) (congrArg Value.bool hd43)] [(70, 0, 4, 74)] hst40 fun W42 hst42 => ?_
      refine then_normal (wp_cond_false (show Act.eval _ _ = .bool false from rfl) (wp_skip (then_normal (wp_seq (wp_region_Z [0, 0, 3, 7, 15] [] [.k 75 (.string (strL l)), .k 76 (vi ((p : Int) + 1)), .c 77 (.int .u8 ((u.2.2.size : Int))), tW 78 .i64 (u.2.2.size : Int) (u.2.2.size : Int) (IntWalk.i64_in _ (by omega)), .k 9 (vi ((u.2.2.size : Int)))] [0, 1, 2] [2] [(9, 4, 1, 10), (65, 0, 4, 69)] hst42 ?_ fun W44 hst44 => ?_)))))
      · refine ⟨?_, trivial⟩
        · exact xs4 rfl id fun cx => (by refine (run_indexStr (l := l) (m := p + 1) rfl (by kernel_rfl) (cx.an 0) (cx.an 1) (by omega) (by omega)).trans ?_; rw [hbt1])
      refine then_normal (wp_seq (wp_seq ?_))
      have hd46 : (decide (40 < (u.2.2.size : Int))) = false := decide_eq_false (by omega)
      refine wp_region_P [0, 1] [.k 79 (vi ((u.2.2.size : Int))), .e 80 (.bool (decide (40 < (u.2.2.size : Int)))) (.bool false) (congrArg Value.bool hd46)] [(79, 0, 2, 81)] hst44 fun W45 hst45 => ?_
      refine then_normal (wp_cond_false (show Act.eval _ _ = .bool false from rfl) (wp_skip (then_normal (wp_seq (wp_seq ?_)))))
      have hd48 : (decide (((strL l).size : Int) < (p : Int) + 2 + (u.2.2.size : Int))) = false := decide_eq_false (by omega)
      refine wp_region_P [0, 1, 0, 7, 0, 16, 63] [.k 82 (vi ((p : Int) + 1)), tJ 83 (((p : Int) + 1) + 1) ((p : Int) + 2) (by omega) (by omega), .k 84 (vi ((u.2.2.size : Int))), tI 85 (((p : Int) + 2) + (u.2.2.size : Int)) (by omega), .k 86 (.string (strL l)), .k 87 (vi (((strL l).size : Int))), .e 88 (.bool (decide (((strL l).size : Int) < (p : Int) + 2 + (u.2.2.size : Int)))) (.bool false) (congrArg Value.bool hd48)] [(82, 0, 7, 89)] hst45 fun W47 hst47 => ?_
      refine then_normal (wp_cond_false (show Act.eval _ _ = .bool false from rfl) (wp_skip (then_normal (wp_seq (wp_region_Y [0, 0, 2, 0, 8, 0, 56, 127, 255, 511] [[], [], [], [], [], [], [], [], [], [2]] [[], [], [], [], [], [], [], [], [], [3]] [[], [], [], [], [], [], [], [], [], [2]] [.k 90 (.string (strL l)), .k 91 (vi ((p : Int) + 1)), tJ 92 (((p : Int) + 1) + 1) ((p : Int) + 2) (by omega) (by omega), .k 93 (vi ((p : Int) + 1)), tJ 94 (((p : Int) + 1) + 1) ((p : Int) + 2) (by omega) (by omega), .k 95 (vi ((u.2.2.size : Int))), tI 96 (((p : Int) + 2) + (u.2.2.size : Int)) (by omega), .c 97 (.string u.2.2), .k 98 (.pointer (some ⟨B7_16, 2, none⟩)), .n] (fun ix σ β X => match ix with | 0 => True | 1 => True | 2 => True | 3 => True | 4 => True | 5 => True | 6 => True | 7 => True | 8 => True | 9 => X 3 = eB B7_16 45 #[vi u.1, vi 0, .string u.2.2] | _ => True) [0, 1, 3] [7, 9] [(90, 0, 9, 99)] hst47 ?_ ?_ ?_)))))
      · exact fun ix _ _ _ _ _ _ hs hb hx h => match ix, h with
        | 9, h => by dsimp only at h ⊢; rw [← hx 3 rfl]; exact h
        | 0, _ | 1, _ | 2, _ | 3, _ | 4, _ | 5, _ | 6, _ | 7, _ | 8, _ | _ + 10, _ => trivial
      · refine ⟨?_, ?_, trivial⟩
        · exact xs4 rfl id fun cx => (by refine (run_slice_lh (l := p + 1 + 1) (m := p + 1 + 1 + u.2.2.size) rfl (by kernel_rfl) (cx.an 0) (cx.an 2) (cx.an 6) (by omega) (by omega) (by omega) (by omega)).trans ?_; rw [hex])
        · refine sv_any rfl rfl fun ρ β W X cx => ?_
          exact dv_store (n := 1) rfl (cx.an 8) (cx.an 7) (by kernel_rfl) (by kernel_rfl) (by kernel_rfl) cx (cx.init 2 _ rfl) rfl (nle rfl) (by kernel_rfl) rfl rfl rfl (fun σ β' X' hs hb hx => hx)
      intro σ β X W49 hD hst49 fr hfr
      simp only [exq 3 ((dTn (hD 9 lq)))] at hst49
      clear hD; subst hfr; clear σ β X
      refine then_normal (wp_region_P [0, 1, 0, 7, 15] [.k 99 (vi ((p : Int) + 1)), tJ 100 (((p : Int) + 1) + 1) ((p : Int) + 2) (by omega) (by omega), .k 101 (vi ((u.2.2.size : Int))), tI 102 (((p : Int) + 2) + (u.2.2.size : Int)) (by omega), .k 4 (vi ((p : Int) + 2 + (u.2.2.size : Int)))] [(4, 4, 1, 5), (94, 0, 4, 98)] hst49 fun W50 hst50 => ?_)
      refine blk_normal (then_normal (wp_region_Y [0, 0, 2, 7, 15] [[], [2], [], [3, 0]] [[], [], [3], [4]] [[], [], [], [0]] [.k 103 (.slice RA k RC), .c 104 (.agg #[vi u.1, vi 0, .string u.2.2]), .a 105, .a 106, .a 5] (fun ix σ β X => match ix with | 0 => True | 1 => True | 2 => σ 105 = .slice ((some ⟨(pb' (β 105)), 0, none⟩)) 1 1 ∧ X 3 = eO 45 3 (.slice ((some ⟨(pb' (β 105)), 0, none⟩)) 1 1) 1 ([vi u.1, vi 0, .string u.2.2]) | 3 => σ 106 = .slice (sA (β 106)) (k + 1) (sC (β 106)) ∧ X 4 = eO 45 3 (.slice (sA (β 106)) (k + 1) (sC (β 106))) (k + 1) (flatR (plainR (rs.take (k + 1)))) | 4 => σ 5 = .slice (sA (β 106)) (k + 1) (sC (β 106)) | _ => True) [1, 2, 3, 4] [1, 2, 3, 4] [(5, 4, 1, 6), (97, 0, 4, 101)] hst50 ?_ ?_ ?_))
      · exact fun ix _ _ _ _ _ _ hs hb hx h => match ix, h with
        | 2, h => by dsimp only at h ⊢; rw [← hs 105 rfl, ← hb 105 rfl, ← hx 3 rfl]; exact h
        | 3, h => by dsimp only at h ⊢; rw [← hs 106 rfl, ← hb 106 rfl, ← hx 4 rfl]; exact h
        | 4, h => by dsimp only at h ⊢; rw [← hs 5 rfl, ← hb 106 rfl]; exact h
        | 0, _ | 1, _ | _ + 5, _ => trivial
      · refine ⟨?_, ?_, ?_, ?_, trivial⟩
        · exact xs4 rfl id fun cx => run_loadB (n := 3) rfl (by kernel_rfl) (by kernel_rfl) (cx.ou 7) (cx.bi 2 rfl) (nle rfl) rfl
        · refine sv_any rfl rfl fun ρ β W X cx => ?_
          have fF104 : ρ (.tmp 104) = .agg #[vi u.1, vi 0, .string u.2.2] := (cx.an 1)
          exact dv_litN (e := 45) (sz := 3) (xs := [vi u.1, vi 0, .string u.2.2]) rfl (by simp [go_sem, fF104]) rfl (by decide) rfl rfl (fun σ β' X' hs hb hv hx => ⟨hv, hx⟩)
        · refine sv_any rfl rfl fun ρ β W X cx => ?_
          obtain ⟨i0, hi0, hz0, hz1, hz2⟩ := info_parts Tryz.infoVal
          refine dv_appendN (n := k) (m := 1) (nm := k + 1) (sz := 3) (xs := flatR (plainR (rs.take k))) (news := [vi u.1, vi 0, .string u.2.2]) (xs' := flatR (plainR (rs.take (k + 1)))) rfl (ty := 39) rfl (by kernel_rfl) hi0 hz0 hz1 hz2 rfl (by decide) (cx.an 0) cx (cx.init 0 _ rfl) rfl (dTn (cx.an 2)).1 (by rfl) (At.of_ownN (cx.row (dTn (cx.an 2)).2 rfl)) (by simp [Value.oneCell']) (by simp only [maxLen]; omega) (by omega) rfl rfl rfl (by omega) (plain_snoc (by omega) (by rw [hu]; simp [cellsV, plainV, *])) (fun σ β' X' hs hb hv hx => ?_)
          exact ⟨hv, hx⟩
        · exact sv rfl rfl rfl rfl rfl _ (fun _ _ _ h => h) (fun β β' h => by rw [h 106 (by decide)]) fun ρ β W X cx => run_assign' rfl (dTn (cx.an 3)).1
      intro σ β X W51 hD hst51 fr hfr
      obtain ⟨B105_51, hu_B105_51⟩ : ∃ z, pb' (β 105) = z := ⟨_, rfl⟩
      obtain ⟨A106_51, hu_A106_51⟩ : ∃ z, sA (β 106) = z := ⟨_, rfl⟩
      obtain ⟨c106_51, hu_c106_51⟩ : ∃ z, sC (β 106) = z := ⟨_, rfl⟩
      simp only [exq 3 ((dTn (hD 2 lq)).2), exq 4 ((dTn (hD 3 lq)).2), hu_B105_51, hu_A106_51, hu_c106_51] at hst51
      simp only [ed 105 ((dTn (hD 2 lq)).1), ed 106 ((dTn (hD 3 lq)).1), ed 5 ((dTn (hD 4 lq))), hu_B105_51, hu_A106_51, hu_c106_51] at hfr
      clear hD hu_B105_51 hu_A106_51 hu_c106_51; subst hfr; clear σ β X
      refine blk_normal (then_normal (wp_region_P [0, 1, 3] [.k 24 (vi ((k : Int))), tI 25 ((k : Int) + 1) (by omega), .k 6 (vi ((k : Int) + 1))] [(6, 2, 1, 7), (17, 0, 2, 19)] hst51 fun W52 hst52 => ?_))
      refine then_normal ?_
      refine ⟨rs.length - ((k + 1)), by omega, ?_⟩
      have hp53 := hst52.pick [3, 0] (by decide) rfl
      exact ⟨(k + 1), (p + 2 + (u.2.2.size)), A106_51, c106_51, [vp B7_16, (gu u10_ 1), vi ((u.2.2.size : Int)), vi ((k : Int)), vi ((rs.length : Int)), .bool (decide ((k : Int) < (rs.length : Int))), vi ((k : Int)), vi ((k : Int) + 1), vi ((p : Int)), .string (strL l), vi (((strL l).size : Int)), .bool false, (gu u10_ 12), .string (strL l), vi ((p : Int)), .int .u8 u.1, vi u.1, .agg #[vi u.1, vi 0, .string ByteArray.empty], vi ((p : Int)), vi ((p : Int) + 1), vp B7_16, vi u.1, (gu u10_ 22), .bool (u.1 == 0), .bool (u.1 == 0), .bool (u.1 == 1), .bool (u.1 == 1), (gu u10_ 27), (gu u10_ 28), (gu u10_ 29), (gu u10_ 30), (gu u10_ 31), (gu u10_ 32), (gu u10_ 33), (gu u10_ 34), (gu u10_ 35), (gu u10_ 36), (gu u10_ 37), (gu u10_ 38), (gu u10_ 39), (gu u10_ 40), (gu u10_ 41), (gu u10_ 42), (gu u10_ 43), (gu u10_ 44), (gu u10_ 45), (gu u10_ 46), (gu u10_ 47), (gu u10_ 48), (gu u10_ 49), .bool (u.1 == 2), .bool (u.1 == 2), vi ((p : Int) + 1), .string (strL l), vi (((strL l).size : Int)), .bool false, (gu u10_ 56), .string (strL l), vi ((p : Int) + 1), .int .u8 ((u.2.2.size : Int)), vi ((u.2.2.size : Int)), vi ((u.2.2.size : Int)), .bool false, (gu u10_ 63), vi ((p : Int) + 1), vi ((p : Int) + 2), vi ((u.2.2.size : Int)), vi ((p : Int) + 2 + (u.2.2.size : Int)), .string (strL l), vi (((strL l).size : Int)), .bool false, (gu u10_ 71), .string (strL l), vi ((p : Int) + 1), vi ((p : Int) + 2), vi ((p : Int) + 1), vi ((p : Int) + 2), vi ((u.2.2.size : Int)), vi ((p : Int) + 2 + (u.2.2.size : Int)), .string u.2.2, .pointer (some ⟨B7_16, 2, none⟩), vi ((p : Int) + 1), vi ((p : Int) + 2), vi ((u.2.2.size : Int)), vi ((p : Int) + 2 + (u.2.2.size : Int)), .slice RA k RC, .agg #[vi u.1, vi 0, .string u.2.2], .slice ((some ⟨B105_51, 0, none⟩)) 1 1, .slice A106_51 (k + 1) c106_51], by omega, by omega, rfl, rfl, hp53⟩
    have hs41p : u.1 ≠ 2 := by simpa using hs41
    exfalso; omega
  have hs13p : ¬ ((k : Int) < (rs.length : Int)) := by simpa using hs13
  refine wp_cond_false (show Act.eval _ _ = .bool false from (congrArg Value.bool hs13)) (wp_exit (then_exit (then_exit (blk_eq (then_normal (wp_seq (wp_seq ?_)))))))
  have hpl : p = l.length := by rw [hp, show k = rs.length by omega, List.take_length, hl0]
  have hd55 : ((p : Int) != ((strL l).size : Int)) = false := by simp; omega
  refine wp_region_P [0, 0, 2, 7] [.k 107 (vi ((p : Int))), .k 108 (.string (strL l)), .k 109 (vi (((strL l).size : Int))), .e 110 (.bool ((p : Int) != ((strL l).size : Int))) (.bool false) (congrArg Value.bool hd55)] [(107, 0, 4, 111)] hst12 fun W54 hst54 => ?_
  refine then_normal (wp_cond_false (show Act.eval _ _ = .bool false from rfl) (wp_skip (then_normal (wp_seq (wp_region_Y [0, 1, 3] [[], [], [1]] [[], [], [2]] [[], [], [1]] [.k 112 (.slice RA k RC), .k 113 (.agg #[.slice RA k RC, vi 0]), .n] (fun ix σ β X => match ix with | 0 => True | 1 => True | 2 => X 2 = eB B2_1 311 #[.slice RA k RC, vi 0] | _ => True) [0, 2] [2] [(112, 0, 2, 114)] hst54 ?_ ?_ ?_)))))
  · exact fun ix _ _ _ _ _ _ hs hb hx h => match ix, h with
    | 2, h => by dsimp only at h ⊢; rw [← hx 2 rfl]; exact h
    | 0, _ | 1, _ | _ + 3, _ => trivial
  · refine ⟨?_, trivial⟩
    · refine sv_any rfl rfl fun ρ β W X cx => ?_
      exact dv_store (n := 2) rfl (cx.ou 2) (cx.an 1) (by kernel_rfl) (by kernel_rfl) (by kernel_rfl) cx (cx.init 1 _ rfl) rfl (nle rfl) (by kernel_rfl) rfl rfl rfl (fun σ β' X' hs hb hx => hx)
  intro σ β X W56 hD hst56 fr hfr
  simp only [exq 2 ((dTn (hD 2 lq)))] at hst56
  clear hD; subst hfr; clear σ β X
  refine then_normal (wp_ret ?_)
  refine bodyPost_ret (v := .agg #[.slice RA k RC, vi 0]) (results_cell (n := 2) Tryz.results207 rfl (by kernel_rfl) (by kernel_rfl) (hst56.blk 1 rfl) rfl) rfl ?_
  have hk_ : k = rs.length := by omega
  have ho_ := hst56.own' 0 rfl
  rw [hk_, List.take_length] at ho_
  rw [hk_]
  exact ⟨_, _, rfl, ho_, hst56.ext⟩
end
end Go.Proofs.YtjnplglnnamfdaaGreatDoor
namespace Go.Proofs.YtjnplglnnamfdaaGreatDoor
section
open Go.RowKit
set_option linter.unusedVariables false
set_option linter.unusedSimpArgs false
def RdRow2 (rs : List Val) (w : World) (e : Ending) (w' : World) : Prop := ∃ A c, e = .returned (.agg #[.slice A rs.length c, .int .i64 0]) ∧ w'.ownsRow w.heap.size 45 3 (.slice A rs.length c) rs.length (flatR rs) ∧ Ext w w'
def VerRd8 (a b n1 n2 : Int) (ho : Bool) (rs : List Val) (er : Int) (w : World) (e : Ending) (w' : World) : Prop := ∃ A c, e = .returned (.agg #[.int .i64 a, .int .i64 b, .int .i64 n1, .int .i64 n2, .bool ho, .slice A rs.length c, .int .i64 er]) ∧
  w'.ownsRow w.heap.size 45 3 (.slice A rs.length c) rs.length (flatR rs) ∧ Ext w w'
theorem byteI_bd (l : List UInt8) (j : Nat) : 0 ≤ byteI l j ∧ byteI l j < 256 := byte_lt l j
set_option maxRecDepth 100000 in
set_option maxHeartbeats 2000000 in
theorem r08read_l (a b n1 n2 : Int) (ho : Bool) (rs : List Val) (l lv : List UInt8) (vs : Nat) (x2 x3 x6 x7 : Int) (w : World) (h0 : byteI l 0 = a) (h1 : byteI l 1 = b) (h2 : byteI l 2 = x2) (h3 : byteI l 3 = x3) (h4 : byteI l 4 = n2) (h5 : byteI l 5 = hotI ho) (h6 : byteI l 6 = x6) (h7 : byteI l 7 = x7) (hn1 : 256 * x2 + x3 = n1 + 1) (hvs : 256 * x6 + x7 = (vs : Int)) (hlen : l.length = 8 + vs) (hm : vs ≤ 1000) (hlr : rs.length ≤ 1000) (hex : (strL l).extract 8 (8 + vs) = strL lv) (HV : ∀ w, Calls Tryz.prog 207 #[.string (strL lv)] w (RdRow2 rs w)) (ht : trightF a b n1 n2 rs = true) :
    Calls Tryz.prog 139 #[.string (strL l)] w (VerRd8 a b n1 n2 ho rs 0 w) := by
  have hsl := strL_size l
  have hpt := tright_parts ht
  have hhb := hot_bd ho
  have hx2 : 0 ≤ x2 ∧ x2 < 256 := by rw [← h2]; exact byteI_bd _ _
  have hx3 : 0 ≤ x3 ∧ x3 < 256 := by rw [← h3]; exact byteI_bd _ _
  have hx6 : 0 ≤ x6 ∧ x6 < 256 := by rw [← h6]; exact byteI_bd _ _
  have hx7 : 0 ≤ x7 ∧ x7 < 256 := by rw [← h7]; exact byteI_bd _ _
  go_enter Tryz.func139, Tryz.ntmps139
  have hst0 := St.start w
  refine wp_seq (wp_region_Y [0] [] [[0]] [] [.a 2] (fun ix σ β X => match ix with | 0 => σ 2 = vp (pb (β 2)) ∧ X 0 = eB (pb (β 2)) 247 #[vi 0, vi 0, vi 0, vi 0, .bool false, .slice none 0 0, vi 0] | _ => True) [0] [0] [(2, 0, 1, 3)] hst0 ?_ ?_ ?_)
  · exact fun ix _ _ _ _ _ _ hs hb hx h => match ix, h with
    | 0, h => by dsimp only at h ⊢; rw [← hs 2 rfl, ← hb 2 rfl, ← hx 0 rfl]; exact h
    | _ + 1, _ => trivial
  · refine ⟨?_, trivial⟩
    · refine sv_any rfl rfl fun ρ β W X cx => ?_
      exact dv_alloc (cs := #[vi 0, vi 0, vi 0, vi 0, .bool false, .slice none 0 0, vi 0]) rfl (by kernel_rfl) rfl rfl (fun σ β' X' hs hb hv hx => ⟨hv, hx⟩)
  intro σ β X W1 hD hst1 fr hfr
  obtain ⟨B2_1, hu_B2_1⟩ : ∃ z, pb (β 2) = z := ⟨_, rfl⟩
  simp only [exq 0 ((dTn (hD 0 lq)).2), hu_B2_1] at hst1
  simp only [ed 2 ((dTn (hD 0 lq)).1), hu_B2_1] at hfr
  clear hD hu_B2_1; subst hfr; clear σ β X
  refine then_normal (wp_seq (wp_seq ?_))
  have hd3 : (decide (((strL l).size : Int) < 8)) = false := decide_eq_false (by omega)
  have hd4 : (decide (((strL l).size : Int) < 8 + (256 * x6) + x7)) = false := decide_eq_false (by omega)
  refine wp_region_Z [0, 1, 3, 7, 15, 31, 15, 79, 207, 463, 975, 15, 2063, 6159, 16335, 32767, 65535] [] [.k 5 (.string (strL l)), .k 6 (vi (((strL l).size : Int))), .e 7 (.bool (decide (((strL l).size : Int) < 8))) (.bool false) (congrArg Value.bool hd3), .k 8 (.bool false), .k 9 (.string (strL l)), .k 10 (vi (((strL l).size : Int))), .k 11 (.string (strL l)), .c 12 (.int .u8 x6), tW 13 .i64 x6 x6 (IntWalk.i64_in _ (by omega)), tI 14 (256 * x6) (by omega), tI 15 (8 + (256 * x6)) (by omega), .k 16 (.string (strL l)), .c 17 (.int .u8 x7), tW 18 .i64 x7 x7 (IntWalk.i64_in _ (by omega)), tI 19 ((8 + (256 * x6)) + x7) (by omega), .e 20 (.bool (decide (((strL l).size : Int) < 8 + (256 * x6) + x7))) (.bool false) (congrArg Value.bool hd4), .k 21 (.bool false)] [0] [7, 12] [(5, 0, 17, 22)] hst1 ?_ fun W2 hst2 => ?_
  · refine ⟨?_, ?_, trivial⟩
    · exact xs5 rfl id (fun cx => (cx.an 3)) fun cx => (by refine (run_indexStr (l := l) (m := 6) rfl (by kernel_rfl) (cx.an 6) (cx.co _) (by omega) (by omega)).trans ?_; rw [h6])
    · exact xs5 rfl id (fun cx => (cx.an 3)) fun cx => (by refine (run_indexStr (l := l) (m := 7) rfl (by kernel_rfl) (cx.an 11) (cx.co _) (by omega) (by omega)).trans ?_; rw [h7])
  refine then_normal (wp_cond_false (show Act.eval _ _ = .bool false from rfl) (wp_skip (then_normal (wp_seq (wp_region_Y [0, 1, 3, 0, 8, 24, 0, 64, 192, 448, 0, 1024, 3072, 8128, 16320, 0, 32768, 98304, 262080, 0, 524288, 1572864, 4194303, 0, 16777215] [[], [], [], [], [], [], [], [], [], [], [], [], [], [], [], [], [], [], [], [], [], [], [], [], [1]] [[], [], [], [], [], [], [], [], [], [], [], [], [], [], [], [], [], [], [], [], [], [], [], [1], [2]] [[], [], [], [], [], [], [], [], [], [], [], [], [], [], [], [], [], [], [], [], [], [], [], [], [1]] [.k 23 (.string (strL l)), .c 24 (.int .u8 a), tW 25 .i64 a a (IntWalk.i64_in _ (by omega)), .k 26 (.string (strL l)), .c 27 (.int .u8 b), tW 28 .i64 b b (IntWalk.i64_in _ (by omega)), .k 29 (.string (strL l)), .c 30 (.int .u8 x2), tW 31 .i64 x2 x2 (IntWalk.i64_in _ (by omega)), tI 32 (256 * x2) (by omega), .k 33 (.string (strL l)), .c 34 (.int .u8 x3), tW 35 .i64 x3 x3 (IntWalk.i64_in _ (by omega)), tI 36 ((256 * x2) + x3) (by omega), tJ 37 ((256 * x2 + x3) - 1) n1 (by omega) (by omega), .k 38 (.string (strL l)), .c 39 (.int .u8 n2), tW 40 .i64 n2 n2 (IntWalk.i64_in _ (by omega)), .k 41 (.agg #[vi n1, vi n2]), .k 42 (.string (strL l)), .c 43 (.int .u8 (hotI ho)), .c 44 (.bool ho), .k 45 (.agg #[vi a, vi b, vi n1, vi n2, .bool ho, .slice none 0 0]), .a 3, .n] (fun ix σ β X => match ix with | 0 => True | 1 => True | 2 => True | 3 => True | 4 => True | 5 => True | 6 => True | 7 => True | 8 => True | 9 => True | 10 => True | 11 => True | 12 => True | 13 => True | 14 => True | 15 => True | 16 => True | 17 => True | 18 => True | 19 => True | 20 => True | 21 => True | 22 => True | 23 => σ 3 = vp (pb (β 3)) ∧ X 1 = eB (pb (β 3)) 41 #[vi 0, vi 0, vi 0, vi 0, .bool false, .slice none 0 0] | 24 => X 2 = eB (pb (β 3)) 41 #[vi a, vi b, vi n1, vi n2, .bool ho, .slice none 0 0] | _ => True) [0, 2] [1, 4, 7, 11, 16, 20, 21, 23, 24] [(3, 23, 1, 4), (19, 0, 23, 42)] hst2 ?_ ?_ ?_)))))
  · exact fun ix _ _ _ _ _ _ hs hb hx h => match ix, h with
    | 23, h => by dsimp only at h ⊢; rw [← hs 3 rfl, ← hb 3 rfl, ← hx 1 rfl]; exact h
    | 24, h => by dsimp only at h ⊢; rw [← hb 3 rfl, ← hx 2 rfl]; exact h
    | 0, _ | 1, _ | 2, _ | 3, _ | 4, _ | 5, _ | 6, _ | 7, _ | 8, _ | 9, _ | 10, _ | 11, _ | 12, _ | 13, _ | 14, _ | 15, _ | 16, _ | 17, _ | 18, _ | 19, _ | 20, _ | 21, _ | 22, _ | _ + 25, _ => trivial
  · refine ⟨?_, ?_, ?_, ?_, ?_, ?_, ?_, ?_, ?_, trivial⟩
    · exact xs4 rfl id fun cx => (by refine (run_indexStr (l := l) (m := 0) rfl (by kernel_rfl) (cx.an 0) (cx.co _) (by omega) (by omega)).trans ?_; rw [h0])
    · exact xs4 rfl id fun cx => (by refine (run_indexStr (l := l) (m := 1) rfl (by kernel_rfl) (cx.an 3) (cx.co _) (by omega) (by omega)).trans ?_; rw [h1])
    · exact xs4 rfl id fun cx => (by refine (run_indexStr (l := l) (m := 2) rfl (by kernel_rfl) (cx.an 6) (cx.co _) (by omega) (by omega)).trans ?_; rw [h2])
    · exact xs4 rfl id fun cx => (by refine (run_indexStr (l := l) (m := 3) rfl (by kernel_rfl) (cx.an 10) (cx.co _) (by omega) (by omega)).trans ?_; rw [h3])
    · exact xs4 rfl id fun cx => (by refine (run_indexStr (l := l) (m := 4) rfl (by kernel_rfl) (cx.an 15) (cx.co _) (by omega) (by omega)).trans ?_; rw [h4])
    · exact xs4 rfl id fun cx => (by refine (run_indexStr (l := l) (m := 5) rfl (by kernel_rfl) (cx.an 19) (cx.co _) (by omega) (by omega)).trans ?_; rw [h5])
    · exact xs4 rfl id fun cx => (by refine (run_bin rfl (cx.an 20) (cx.co _) rfl).trans ?_; cases ho <;> rfl)
    · refine sv_any rfl rfl fun ρ β W X cx => ?_
      exact dv_alloc (cs := #[vi 0, vi 0, vi 0, vi 0, .bool false, .slice none 0 0]) rfl (by kernel_rfl) rfl rfl (fun σ β' X' hs hb hv hx => ⟨hv, hx⟩)
    · refine sv_any rfl rfl fun ρ β W X cx => ?_
      exact dv_store (n := 6) rfl (dTn (cx.an 23)).1 (cx.an 22) (by kernel_rfl) (by kernel_rfl) (by kernel_rfl) cx (dTn (cx.an 23)).2 rfl (nle rfl) (by kernel_rfl) rfl rfl rfl (fun σ β' X' hs hb hx => by rw [hb 3]; exact hx)
  intro σ β X W5 hD hst5 fr hfr
  obtain ⟨B3_5, hu_B3_5⟩ : ∃ z, pb (β 3) = z := ⟨_, rfl⟩
  simp only [exq 2 ((dTn (hD 24 lq))), hu_B3_5] at hst5
  simp only [ed 3 ((dTn (hD 23 lq)).1), hu_B3_5] at hfr
  clear hD hu_B3_5; subst hfr; clear σ β X
  refine then_normal (wp_seq (wp_region_Y [0, 0, 2, 6, 14, 30, 0, 64, 192, 510, 1023, 2047, 0, 8191] [[], [], [], [], [], [], [], [], [], [], [], [], [], [3]] [[], [], [], [], [], [], [], [], [], [], [], [2], [3], [4]] [[], [], [], [], [], [], [], [], [], [], [], [], [], [3]] [.k 46 (.string (strL l)), .k 47 (.string (strL l)), .c 48 (.int .u8 x6), tW 49 .i64 x6 x6 (IntWalk.i64_in _ (by omega)), tI 50 (256 * x6) (by omega), tI 51 (8 + (256 * x6)) (by omega), .k 52 (.string (strL l)), .c 53 (.int .u8 x7), tW 54 .i64 x7 x7 (IntWalk.i64_in _ (by omega)), tI 55 ((8 + (256 * x6)) + x7) (by omega), .c 56 (.string (strL lv)), .a 57, .a 4, .n] (fun ix σ β X => match ix with | 0 => True | 1 => True | 2 => True | 3 => True | 4 => True | 5 => True | 6 => True | 7 => True | 8 => True | 9 => True | 10 => True | 11 => σ 57 = .agg #[.slice (sA (tg (β 57) 0)) rs.length (sC (tg (β 57) 0)), vi 0] ∧ X 2 = eO 45 3 (.slice (sA (tg (β 57) 0)) rs.length (sC (tg (β 57) 0))) rs.length (flatR rs) | 12 => σ 4 = vp (pb (β 4)) ∧ X 3 = eB (pb (β 4)) 311 #[.slice none 0 0, vi 0] | 13 => X 4 = eB (pb (β 4)) 311 #[.slice (sA (tg (β 57) 0)) rs.length (sC (tg (β 57) 0)), vi 0] | _ => True) [0, 1, 2, 4] [2, 7, 10, 11, 12, 13] [(4, 12, 1, 5), (41, 0, 12, 53)] hst5 ?_ ?_ ?_))
  · exact fun ix _ _ _ _ _ _ hs hb hx h => match ix, h with
    | 11, h => by dsimp only at h ⊢; rw [← hs 57 rfl, ← hb 57 rfl, ← hx 2 rfl]; exact h
    | 12, h => by dsimp only at h ⊢; rw [← hs 4 rfl, ← hb 4 rfl, ← hx 3 rfl]; exact h
    | 13, h => by dsimp only at h ⊢; rw [← hb 4 rfl, ← hb 57 rfl, ← hx 4 rfl]; exact h
    | 0, _ | 1, _ | 2, _ | 3, _ | 4, _ | 5, _ | 6, _ | 7, _ | 8, _ | 9, _ | 10, _ | _ + 14, _ => trivial
  · refine ⟨?_, ?_, ?_, ?_, ?_, ?_, trivial⟩
    · exact xs4 rfl id fun cx => (by refine (run_indexStr (l := l) (m := 6) rfl (by kernel_rfl) (cx.an 1) (cx.co _) (by omega) (by omega)).trans ?_; rw [h6])
    · exact xs4 rfl id fun cx => (by refine (run_indexStr (l := l) (m := 7) rfl (by kernel_rfl) (cx.an 6) (cx.co _) (by omega) (by omega)).trans ?_; rw [h7])
    · exact xs4 rfl id fun cx => (by refine (run_slice_lh (l := 8) (m := 8 + vs) rfl (by kernel_rfl) (cx.an 0) (cx.co _) (cx.an 9) (by omega) (by omega) (by omega) (by omega)).trans ?_; rw [hex])
    · refine sv_any rfl rfl fun ρ β W X cx => ?_
      refine DoesU.call (run_callF (args := #[.string (strL lv)]) rfl cx.sees rfl (by kernel_rfl) (map1 (cx.an 10))) ?_
      refine (HV _).mono ?_
      rintro e W1 ⟨A4, c4, rfl, ho, hx⟩
      refine ⟨_, rfl, post_call [eO 45 3 (.slice A4 rs.length c4) rs.length (flatR rs)] rfl rfl hx (one_new (eO_new ho)) (List.pairwise_singleton _ _) (fun σ β' X' hs hb hv hN => ?_)⟩
      have hv1 := (hv 57 rfl).1; have hv2 := (hv 57 rfl).2
      exact ⟨hv1.trans (by rw [hv2]; rfl), (by rw [hv2]; exact (List.cons.inj hN).1)⟩
    · refine sv_any rfl rfl fun ρ β W X cx => ?_
      exact dv_alloc (cs := #[.slice none 0 0, vi 0]) rfl (by kernel_rfl) rfl rfl (fun σ β' X' hs hb hv hx => ⟨hv, hx⟩)
    · refine sv_any rfl rfl fun ρ β W X cx => ?_
      exact dv_store (n := 2) rfl (dTn (cx.an 12)).1 (dTn (cx.an 11)).1 (by kernel_rfl) (by kernel_rfl) (by kernel_rfl) cx (dTn (cx.an 12)).2 rfl (nle rfl) (by kernel_rfl) rfl rfl rfl (fun σ β' X' hs hb hx => by rw [hb 4, hb 57]; exact hx)
  intro σ β X W6 hD hst6 fr hfr
  obtain ⟨A57_6, hu_A57_6⟩ : ∃ z, sA (tg (β 57) 0) = z := ⟨_, rfl⟩
  obtain ⟨c57_6, hu_c57_6⟩ : ∃ z, sC (tg (β 57) 0) = z := ⟨_, rfl⟩
  obtain ⟨B4_6, hu_B4_6⟩ : ∃ z, pb (β 4) = z := ⟨_, rfl⟩
  simp only [exq 2 ((dTn (hD 11 lq)).2), exq 4 ((dTn (hD 13 lq))), hu_A57_6, hu_c57_6, hu_B4_6] at hst6
  simp only [ed 57 ((dTn (hD 11 lq)).1), ed 4 ((dTn (hD 12 lq)).1), hu_A57_6, hu_c57_6, hu_B4_6] at hfr
  clear hD hu_A57_6 hu_c57_6 hu_B4_6; subst hfr; clear σ β X
  refine then_normal (wp_seq (wp_region_Y [0, 1, 3, 7] [[], [3], [], [1]] [[], [], [], [4]] [[], [], [], [1]] [.k 58 (vp B4_6), .c 59 (.slice A57_6 rs.length c57_6), .k 60 (.pointer (some ⟨B3_5, 5, none⟩)), .n] (fun ix σ β X => match ix with | 0 => True | 1 => True | 2 => True | 3 => X 4 = eB B3_5 41 #[vi a, vi b, vi n1, vi n2, .bool ho, .slice A57_6 rs.length c57_6] | _ => True) [0, 2, 3, 4] [1, 3] [(58, 0, 3, 61)] hst6 ?_ ?_ ?_))
  · exact fun ix _ _ _ _ _ _ hs hb hx h => match ix, h with
    | 3, h => by dsimp only at h ⊢; rw [← hx 4 rfl]; exact h
    | 0, _ | 1, _ | 2, _ | _ + 4, _ => trivial
  · refine ⟨?_, ?_, trivial⟩
    · exact xs4 rfl id fun cx => run_load1 rfl (by kernel_rfl) (cx.an 0) ((cx.bi 3 rfl).cell 0)
    · refine sv_any rfl rfl fun ρ β W X cx => ?_
      exact dv_store (n := 1) rfl (cx.an 2) (cx.an 1) (by kernel_rfl) (by kernel_rfl) (by kernel_rfl) cx (cx.init 1 _ rfl) rfl (nle rfl) (by kernel_rfl) rfl rfl rfl (fun σ β' X' hs hb hx => hx)
  intro σ β X W7 hD hst7 fr hfr
  simp only [exq 4 ((dTn (hD 3 lq)))] at hst7
  clear hD; subst hfr; clear σ β X
  refine then_normal (wp_seq (wp_seq ?_))
  have hd9 : (decide (1 < hotI ho)) = false := decide_eq_false (by omega)
  have hd10 : (((strL l).size : Int) != (8 + (256 * x6) + x7)) = false := by simp; omega
  have hd11 : (trightF a b n1 n2 rs) = true := ht
  refine wp_region_Z [0, 1, 3, 7, 15, 31, 63, 127, 255, 511, 1023, 511, 2559, 6655, 14847, 31231, 511, 66047, 197119, 522751, 1048575, 2097151, 4194303, 8388607, 16777215, 33554431, 67108863] [[], [2], [], [], [], [], [], [], [], [], [], [], [], [], [], [], [], [], [], [], [], [], [], [3], [1]] [.k 61 (.pointer (some ⟨B4_6, 1, none⟩)), .c 62 (vi 0), .k 63 (.bool false), .k 64 (.bool false), .k 65 (.string (strL l)), .c 66 (.int .u8 (hotI ho)), .e 67 (.bool (decide (1 < hotI ho))) (.bool false) (congrArg Value.bool hd9), .k 68 (.bool false), .k 69 (.bool false), .k 70 (.string (strL l)), .k 71 (vi (((strL l).size : Int))), .k 72 (.string (strL l)), .c 73 (.int .u8 x6), tW 74 .i64 x6 x6 (IntWalk.i64_in _ (by omega)), tI 75 (256 * x6) (by omega), tI 76 (8 + (256 * x6)) (by omega), .k 77 (.string (strL l)), .c 78 (.int .u8 x7), tW 79 .i64 x7 x7 (IntWalk.i64_in _ (by omega)), tI 80 ((8 + (256 * x6)) + x7) (by omega), .e 81 (.bool (((strL l).size : Int) != (8 + (256 * x6) + x7))) (.bool false) (congrArg Value.bool hd10), .k 82 (.bool false), .k 83 (.bool false), .c 84 (.agg #[vi a, vi b, vi n1, vi n2, .bool ho, .slice A57_6 rs.length c57_6]), .c 85 (.bool true), .k 86 (.bool false), .k 87 (.bool false)] [0, 1, 2, 3] [1, 5, 12, 17, 23, 24] [(61, 0, 27, 88)] hst7 ?_ fun W8 hst8 => ?_
  · refine ⟨?_, ?_, ?_, ?_, ?_, ?_, trivial⟩
    · exact xs4 rfl id fun cx => run_load1 rfl (by kernel_rfl) (cx.an 0) ((cx.bi 2 rfl).cell 1)
    · exact xs5 rfl id (fun cx => (cx.an 3)) fun cx => (by refine (run_indexStr (l := l) (m := 5) rfl (by kernel_rfl) (cx.an 4) (cx.co _) (by omega) (by omega)).trans ?_; rw [h5])
    · exact xs5 rfl id (fun cx => (cx.an 8)) fun cx => (by refine (run_indexStr (l := l) (m := 6) rfl (by kernel_rfl) (cx.an 11) (cx.co _) (by omega) (by omega)).trans ?_; rw [h6])
    · exact xs5 rfl id (fun cx => (cx.an 8)) fun cx => (by refine (run_indexStr (l := l) (m := 7) rfl (by kernel_rfl) (cx.an 16) (cx.co _) (by omega) (by omega)).trans ?_; rw [h7])
    · exact xs5 rfl id (fun cx => (cx.an 22)) fun cx => run_loadB (n := 6) rfl (by kernel_rfl) (by kernel_rfl) (cx.ou 3) (cx.bi 3 rfl) (nle rfl) rfl
    · exact sv_call_on rfl rfl rfl rfl rfl rfl (fun _ _ _ h => h.trans (congrArg Value.bool hd11)) (fun _ _ _ _ cx => (cx.an 22)) fun ρ β W X cx => ⟨_, _, run_callF (args := #[.agg #[vi a, vi b, vi n1, vi n2, .bool ho, .slice A57_6 rs.length c57_6]]) rfl cx.sees rfl (by kernel_rfl) (map1 (cx.an 23)), r08right_any a b n1 n2 ho _ _ rs _ (At.of_ownN (cx.ri 1 rfl)) (by omega)⟩
  refine then_normal (wp_cond_false (show Act.eval _ _ = .bool false from rfl) (wp_skip (then_normal (wp_seq (wp_region_Y [0, 1, 3] [[3], [], [0]] [[], [], [4]] [[], [], [0]] [.c 89 (.agg #[vi a, vi b, vi n1, vi n2, .bool ho, .slice A57_6 rs.length c57_6]), .k 90 (.agg #[vi a, vi b, vi n1, vi n2, .bool ho, .slice A57_6 rs.length c57_6, vi 0]), .n] (fun ix σ β X => match ix with | 0 => True | 1 => True | 2 => X 4 = eB B2_1 247 #[vi a, vi b, vi n1, vi n2, .bool ho, .slice A57_6 rs.length c57_6, vi 0] | _ => True) [1, 2, 3, 4] [0, 2] [(89, 0, 2, 91)] hst8 ?_ ?_ ?_)))))
  · exact fun ix _ _ _ _ _ _ hs hb hx h => match ix, h with
    | 2, h => by dsimp only at h ⊢; rw [← hx 4 rfl]; exact h
    | 0, _ | 1, _ | _ + 3, _ => trivial
  · refine ⟨?_, ?_, trivial⟩
    · exact xs4 rfl id fun cx => run_loadB (n := 6) rfl (by kernel_rfl) (by kernel_rfl) (cx.ou 3) (cx.bi 3 rfl) (nle rfl) rfl
    · refine sv_any rfl rfl fun ρ β W X cx => ?_
      exact dv_store (n := 7) rfl (cx.ou 2) (cx.an 1) (by kernel_rfl) (by kernel_rfl) (by kernel_rfl) cx (cx.init 0 _ rfl) rfl (nle rfl) (by kernel_rfl) rfl rfl rfl (fun σ β' X' hs hb hx => hx)
  intro σ β X W12 hD hst12 fr hfr
  simp only [exq 4 ((dTn (hD 2 lq)))] at hst12
  clear hD; subst hfr; clear σ β X
  refine then_normal (wp_ret ?_)
  refine bodyPost_ret (v := .agg #[vi a, vi b, vi n1, vi n2, .bool ho, .slice A57_6 rs.length c57_6, vi 0]) (results_cell (n := 7) Tryz.results139 rfl (by kernel_rfl) (by kernel_rfl) (hst12.blk 3 rfl) rfl) rfl ?_
  exact ⟨_, _, rfl, hst12.own' 0 rfl, hst12.ext⟩
end
end Go.Proofs.YtjnplglnnamfdaaGreatDoor
namespace Go.Proofs.YtjnplglnnamfdaaGreatDoor
section
open Go.RowKit
set_option linter.unusedVariables false
set_option linter.unusedSimpArgs false
abbrev VerD := Int × Int × Int × Int × Bool × List Val
def okD (v : VerD) : Prop := trightF v.1 v.2.1 v.2.2.1 v.2.2.2.1 v.2.2.2.2.2 = true ∧ NsOk v.2.2.2.2.2 ∧ plainR v.2.2.2.2.2 = v.2.2.2.2.2
def txD (v : VerD) : ByteArray := tbytesF v.1 v.2.1 v.2.2.1 v.2.2.2.1 v.2.2.2.2.1 v.2.2.2.2.2
def zD : VerD := (0, 0, 0, 0, false, [])
def Desc (s : ByteArray) : Option VerD → Prop
  | none => s.size < 8
  | some v => okD v ∧ s = txD v
/-- what Read says of it -/
def vD (o : Option VerD) : VerD := o.getD zD
def eD (o : Option VerD) : Int := if o.isSome then 0 else 10
theorem num1_byte {s : ByteArray} {p : Nat} (h : p < s.size) : (numS s p 1 : Int) = byteI (bl s) p := by
  have e : (s.extract p (p + 1)).data.toList = ((bl s).drop p).take (p + 1 - p) := bl_extract s p (p + 1)
  rw [numS, e, byteI]
  have hl : p < (bl s).length := by rw [bl_len]; exact h
  rw [List.drop_eq_getElem_cons hl, show p + 1 - p = 1 by omega, List.take_succ_cons, List.take_zero, List.getD_eq_getElem?_getD, List.getElem?_eq_getElem hl]
  simp [numL]
theorem num2_byte {s : ByteArray} {p : Nat} (h : p + 1 < s.size) : (numS s p 2 : Int) = 256 * byteI (bl s) p + byteI (bl s) (p + 1) := by
  have e : (s.extract p (p + 2)).data.toList = ((bl s).drop p).take (p + 2 - p) := bl_extract s p (p + 2)
  rw [numS, e, byteI, byteI]
  have hl : p < (bl s).length := by rw [bl_len]; omega
  have hl2 : p + 1 < (bl s).length := by rw [bl_len]; omega
  rw [List.drop_eq_getElem_cons hl, List.drop_eq_getElem_cons hl2, show p + 2 - p = 2 by omega, List.take_succ_cons, List.take_succ_cons, List.take_zero, List.getD_eq_getElem?_getD, List.getElem?_eq_getElem hl, List.getD_eq_getElem?_getD, List.getElem?_eq_getElem hl2]
  simp [numL]
  omega
section
variable {a b n1 n2 : Int} {ho : Bool} {rs : List Val}
theorem r08read_of (w : World) (h : trightF a b n1 n2 rs = true) (hrN : NsOk rs) : Calls Tryz.prog 139 #[.string (tbytesF a b n1 n2 ho rs)] w (VerRd8 a b n1 n2 ho (plainR rs) 0 w) := by
  have hsz := tb_size (ho := ho) h
  have hr := (tright_parts h).2.2.2.2.2.2.2.2
  have hl6 := rright_len hr
  have hv := vbytes_size rs
  have e : tbytesF a b n1 n2 ho rs = strL (bl (tbytesF a b n1 n2 ho rs)) := strL_bl _
  have h0 := num1_byte (s := tbytesF a b n1 n2 ho rs) (p := 0) (by omega)
  have h1 := num1_byte (s := tbytesF a b n1 n2 ho rs) (p := 1) (by omega)
  have h2 := num2_byte (s := tbytesF a b n1 n2 ho rs) (p := 2) (by omega)
  have h4 := num1_byte (s := tbytesF a b n1 n2 ho rs) (p := 4) (by omega)
  have h5 := num1_byte (s := tbytesF a b n1 n2 ho rs) (p := 5) (by omega)
  have h6 := num2_byte (s := tbytesF a b n1 n2 ho rs) (p := 6) (by omega)
  rw [tb_0 h] at h0
  rw [tb_1 h] at h1
  rw [tb_2 h] at h2
  rw [tb_4 h] at h4
  rw [tb_5 h] at h5
  rw [tb_6 h] at h6
  have hx := tb_t (ho := ho) h
  rw [textS, tb_6 h] at hx
  have hve := vbytes_eq hr
  have HV : ∀ w, Calls Tryz.prog 207 #[.string (strL (UInt8.ofNat ((rs.length : Nat) : Int).toNat :: valsB rs))] w (RdRow2 (plainR rs) w) := fun w => by
    have hll : (UInt8.ofNat ((rs.length : Nat) : Int).toNat :: valsB rs).length = (vbytesF rs).size := by rw [hve, strL_size]
    refine (r02read_any rs _ _ w rfl hr hrN (u8_int (by omega)) (by rw [hll]; omega)).mono ?_
    rintro e w' ⟨A, c, he, ho', hx⟩
    have hlen : (plainR rs).length = rs.length := by simp [plainR]
    exact ⟨A, c, by rw [hlen]; exact he, by rw [hlen]; exact ho', hx⟩
  rw [e]
  exact r08read_l a b n1 n2 ho (plainR rs) _ _ (vbytesF rs).size _ _ _ _ w h0.symm h1.symm rfl rfl h4.symm h5.symm rfl rfl h2.symm h6.symm (by rw [bl_len, hsz]) (by omega) (by simp only [plainR, List.length_map]; omega) (by rw [← e, hx, hve]) HV (by rw [plain_tright]; exact h)
end
theorem Desc.le {s : ByteArray} {o : Option VerD} (h : Desc s o) : s.size ≤ 309 := by
  cases o with
  | none => have : s.size < 8 := h; omega
  | some v =>
    have := vbytes_size v.2.2.2.2.2
    rw [h.2, txD, tb_size h.1.1]; omega
theorem Desc.bd {s : ByteArray} {o : Option VerD} (h : Desc s o) : 0 ≤ (vD o).1 ∧ (vD o).1 < 128 ∧ 0 ≤ (vD o).2.1 ∧ (vD o).2.1 < 128 ∧ -1 ≤ (vD o).2.2.1 ∧ (vD o).2.2.1 < 400 ∧ 0 ≤ (vD o).2.2.2.1 ∧ (vD o).2.2.2.1 < 24 ∧ (vD o).2.2.2.2.2.length ≤ 6 := by
  cases o with
  | none => exact ⟨by decide, by decide, by decide, by decide, by decide, by decide, by decide, by decide, by decide⟩
  | some v =>
    have hp := tright_parts h.1.1
    exact ⟨hp.1, hp.2.1, hp.2.2.1, hp.2.2.2.1, hp.2.2.2.2.1, hp.2.2.2.2.2.1, hp.2.2.2.2.2.2.1, hp.2.2.2.2.2.2.2.1, rright_len hp.2.2.2.2.2.2.2.2⟩
theorem tread_desc {s : ByteArray} {o : Option VerD} (w : World) (h : Desc s o) (hN : NoneAt w) :
    Calls Tryz.prog 60 #[.string s] w (VerRd (vD o).1 (vD o).2.1 (vD o).2.2.1 (vD o).2.2.2.1 (vD o).2.2.2.2.1 (vD o).2.2.2.2.2 (eD o) w) := by
  cases o with
  | none => exact (tread_sh s w h).mono fun e w' ⟨he, hx⟩ => ⟨none, 0, he, ⟨by simp [vD, zD, flatR], .inl ⟨rfl, rfl⟩⟩, hx⟩
  | some v =>
    obtain ⟨⟨h1, h2, h3⟩, rfl⟩ := h
    have := tread_of (ho := v.2.2.2.2.1) w h1 h2 hN
    rw [h3] at this
    exact this
theorem r08read_desc {s : ByteArray} {o : Option VerD} (w : World) (h : Desc s o) :
    Calls Tryz.prog 139 #[.string s] w (VerRd8 (vD o).1 (vD o).2.1 (vD o).2.2.1 (vD o).2.2.2.1 (vD o).2.2.2.2.1 (vD o).2.2.2.2.2 (eD o) w) := by
  cases o with
  | none => exact (r08read_sh s w h).mono fun e w' ⟨he, hx⟩ => ⟨none, 0, he, ⟨by simp [vD, zD, flatR], .inl ⟨rfl, rfl⟩⟩, hx⟩
  | some v =>
    obtain ⟨⟨h1, h2, h3⟩, rfl⟩ := h
    have := r08read_of (ho := v.2.2.2.2.1) w h1 h2
    rw [h3] at this
    exact this
end
end Go.Proofs.YtjnplglnnamfdaaGreatDoor
namespace Go.Proofs.YtjnplglnnamfdaaGreatDoor
section
open Go.RowKit
set_option linter.unusedVariables false
set_option linter.unusedSimpArgs false
abbrev Itm := ByteArray × Option VerD
/-- a page as it lies in a row of pages -/
structure PgD where
  k : Int
  l : Int
  A : Option Addr
  c : Nat
  its : List Itm
def p0 : PgD := ⟨0, 0, none, 0, []⟩
def strs (its : List Itm) : List Value := its.map fun i => .string i.1
theorem strs_len (its : List Itm) : (strs its).length = its.length := by simp [strs]
theorem strs_one (its : List Itm) : ∀ u ∈ strs its, Value.oneCell' u = true := by
  intro u hu
  obtain ⟨i, _, rfl⟩ := List.mem_map.1 hu
  rfl
def pgC (p : PgD) : List Value := [.int .i64 p.k, .int .i64 p.l, .slice p.A p.its.length p.c]
theorem pgC_len (p : PgD) : (pgC p).length = 3 := rfl
structure PgsAt (w : World) (A : Option Addr) (Ps : List PgD) : Prop where
  at_ : At w A (Ps.flatMap pgC)
  len : Ps.length ≤ 1000
  its : ∀ p ∈ Ps, At w p.A (strs p.its) ∧ p.its.length ≤ 24 ∧ p.its.length ≤ p.c ∧ ∀ i ∈ p.its, Desc i.1 i.2
theorem PgsAt.ext {w W : World} {A : Option Addr} {Ps : List PgD} (h : PgsAt w A Ps) (hx : Ext w W) : PgsAt W A Ps :=
  ⟨h.at_.ext hx, h.len, fun p hp => ⟨(h.its p hp).1.ext hx, (h.its p hp).2⟩⟩
/-- what Page answers: kind, LSN, items, whether there is such a page -/
structure PV where
  k : Int
  l : Int
  its : List Itm
  ok : Bool
def pvF (Ps : List PgD) (n : Int) : PV := if 0 ≤ n ∧ n < Ps.length then ⟨(Ps.getD n.toNat p0).k, (Ps.getD n.toNat p0).l, (Ps.getD n.toNat p0).its, true⟩ else ⟨0, 0, [], false⟩
def PV.wf (v : PV) : Prop := v.its.length ≤ 24 ∧ ∀ i ∈ v.its, Desc i.1 i.2
theorem PgsAt.get {w : World} {A : Option Addr} {Ps : List PgD} (h : PgsAt w A Ps) {n : Nat} (hn : n < Ps.length) : At w (Ps.getD n p0).A (strs (Ps.getD n p0).its) ∧ (Ps.getD n p0).its.length ≤ 24 ∧ (Ps.getD n p0).its.length ≤ (Ps.getD n p0).c ∧ ∀ i ∈ (Ps.getD n p0).its, Desc i.1 i.2 := by
  refine h.its _ ?_
  rw [List.getD_eq_getElem?_getD, List.getElem?_eq_getElem hn, Option.getD_some]
  exact List.getElem_mem _
theorem PgsAt.wf {w : World} {A : Option Addr} {Ps : List PgD} (h : PgsAt w A Ps) (n : Int) : (pvF Ps n).wf := by
  rw [pvF]
  split
  · have := h.get (n := n.toNat) (by omega)
    exact ⟨this.2.1, this.2.2.2⟩
  · exact ⟨by simp, fun i hi => by cases hi⟩
def PagePost (v : PV) (w : World) (e : Ending) (w' : World) : Prop := ∃ A c, e = .returned (.tuple #[.agg #[.int .i64 v.k, .int .i64 v.l, .slice A v.its.length c], .bool v.ok]) ∧
  w'.ownsRow w.heap.size 9 1 (.slice A v.its.length c) v.its.length (strs v.its) ∧ Ext w w'
/-- the interface value .iface tt tv has these pages -/
structure PgsOk (w : World) (tt : TypeId) (tv : Value) (pv : Int → PV) : Prop where
  ex : ∃ f rv, Meth Tryz.prog tt tv "Page" f rv ∧ callP Tryz.prog f = true ∧ ∀ W x, Ext w W → Calls Tryz.prog f #[rv, .int .i64 x] W (PagePost (pv x) W)
  wf : ∀ n, (pv n).wf
theorem PgsOk.ext {w W : World} {tt : TypeId} {tv : Value} {pv : Int → PV} (h : PgsOk w tt tv pv) (hx : Ext w W) : PgsOk W tt tv pv := by
  obtain ⟨f, rv, h1, h2, h3⟩ := h.ex
  exact ⟨⟨f, rv, h1, h2, fun W' x hx' => h3 W' x (hx.trans hx')⟩, h.wf⟩
set_option maxRecDepth 100000 in
set_option maxHeartbeats 2000000 in
theorem rpage_any (PA : Option Addr) (pc : Nat) (Ps : List PgD) (n : Int) (w : World) (hP : PgsAt w PA Ps) :
    Calls Tryz.prog 124 #[.agg #[.slice PA Ps.length pc], .int .i64 n] w (PagePost (pvF Ps n) w) := by
  have hPl := hP.len
  go_enter Tryz.func124, Tryz.ntmps124
  have hst0 := St.start w
  refine wp_seq (wp_region_Y [0, 0, 0] [] [[0], [1]] [] [.a 2, .a 4, .k 5 (.bool false)] (fun ix σ β X => match ix with | 0 => σ 2 = vp (pb (β 2)) ∧ X 0 = eB (pb (β 2)) 30 #[.slice PA Ps.length pc] | 1 => σ 4 = vp (pb (β 4)) ∧ X 1 = eB (pb (β 4)) 64 #[vi 0, vi 0, .slice none 0 0] | _ => True) [0, 1] [0, 1] [(2, 0, 1, 3), (1, 1, 2, 3)] hst0 ?_ ?_ ?_)
  · exact fun ix _ _ _ _ _ _ hs hb hx h => match ix, h with
    | 0, h => by dsimp only at h ⊢; rw [← hs 2 rfl, ← hb 2 rfl, ← hx 0 rfl]; exact h
    | 1, h => by dsimp only at h ⊢; rw [← hs 4 rfl, ← hb 4 rfl, ← hx 1 rfl]; exact h
    | _ + 2, _ => trivial
  · refine ⟨?_, ?_, trivial⟩
    · refine sv_any rfl rfl fun ρ β W X cx => ?_
      exact dv_box (cs := #[.slice PA Ps.length pc]) rfl (cx.ou 0) rfl rfl rfl (fun σ β' X' hs hb hv hx => ⟨hv, hx⟩)
    · refine sv_any rfl rfl fun ρ β W X cx => ?_
      exact dv_alloc (cs := #[vi 0, vi 0, .slice none 0 0]) rfl (by kernel_rfl) rfl rfl (fun σ β' X' hs hb hv hx => ⟨hv, hx⟩)
  intro σ β X W1 hD hst1 fr hfr
  obtain ⟨B2_1, hu_B2_1⟩ : ∃ z, pb (β 2) = z := ⟨_, rfl⟩
  obtain ⟨B4_1, hu_B4_1⟩ : ∃ z, pb (β 4) = z := ⟨_, rfl⟩
  simp only [exq 0 ((dTn (hD 0 lq)).2), exq 1 ((dTn (hD 1 lq)).2), hu_B2_1, hu_B4_1] at hst1
  simp only [ed 2 ((dTn (hD 0 lq)).1), ed 4 ((dTn (hD 1 lq)).1), hu_B2_1, hu_B4_1] at hfr
  clear hD hu_B2_1 hu_B4_1; subst hfr; clear σ β X
  refine then_normal (wp_seq (wp_seq (wp_region_Z [0, 1, 3, 7, 7, 23, 55, 127, 255] [[], [], [], [], [], [0]] [.k 7 (vi n), .k 8 (.bool (decide (n < 0))), .k 9 (.bool (decide (n < 0))), .z 10 (!(decide (n < 0))) (vi n), .z 11 (!(decide (n < 0))) (vp B2_1), .y 12 (!(decide (n < 0))) (.slice PA Ps.length pc), .z 13 (!(decide (n < 0))) (vi ((Ps.length : Int))), .z 14 (!(decide (n < 0))) (.bool (decide ((Ps.length : Int) ≤ n))), tO 15 (decide (n < 0)) (decide ((Ps.length : Int) ≤ n))] [0, 1] [5] [(7, 0, 9, 16)] hst1 ?_ fun W2 hst2 => ?_)))
  · refine ⟨?_, trivial⟩
    · exact m2 rfl (fun _ _ _ h => h) (fun cx => (cx.an 2)) fun cx hq => run_load1 rfl (by kernel_rfl) (mbv (cx.an 4) hq) ((cx.bi 0 rfl).cell 0)
  refine then_normal ?_
  rcases Bool.eq_false_or_eq_true ((decide (n < 0)) || (decide ((Ps.length : Int) ≤ n))) with hs3 | hs3
  · skip
    have hs3p := hs3
    simp only [zB] at hs3p
    refine wp_cond_true (show Act.eval _ _ = .bool true from (congrArg Value.bool hs3)) (wp_seq (wp_region_Y [0, 1, 3] [[], [1]] [[], [2]] [[], [1]] [.k 16 (.agg #[vi 0, vi 0, .slice none 0 0]), .n, .k 5 (.bool false)] (fun ix σ β X => match ix with | 0 => True | 1 => X 2 = eB B4_1 64 #[vi 0, vi 0, .slice none 0 0] | _ => True) [0, 2] [1] [(5, 2, 1, 6), (10, 0, 1, 11)] hst2 ?_ ?_ ?_))
    · exact fun ix _ _ _ _ _ _ hs hb hx h => match ix, h with
      | 1, h => by dsimp only at h ⊢; rw [← hx 2 rfl]; exact h
      | 0, _ | _ + 2, _ => trivial
    · refine ⟨?_, trivial⟩
      · refine sv_any rfl rfl fun ρ β W X cx => ?_
        exact dv_store (n := 3) rfl (cx.ou 4) (cx.an 0) (by kernel_rfl) (by kernel_rfl) (by kernel_rfl) cx (cx.init 1 _ rfl) rfl (nle rfl) (by kernel_rfl) rfl rfl rfl (fun σ β' X' hs hb hx => hx)
    intro σ β X W4 hD hst4 fr hfr
    simp only [exq 2 ((dTn (hD 1 lq)))] at hst4
    clear hD; subst hfr; clear σ β X
    refine then_normal (wp_ret (then_ret ?_))
    have hr5 : W4.cell? ⟨B4_1, 0, none⟩ = some (vi 0) := (hst4.blk 1 rfl).cell 0
    have hr6 : W4.cell? ⟨B4_1, 1, none⟩ = some (vi 0) := (hst4.blk 1 rfl).cell 1
    have hr7 : W4.cell? ⟨B4_1, 2, none⟩ = some (.slice none 0 0) := (hst4.blk 1 rfl).cell 2
    refine bodyPost_ret (v := .tuple #[.agg #[vi 0, vi 0, .slice none 0 0], .bool false]) (by simp [results, Tryz.results124, go_sem, hr5, hr6, hr7]) rfl ?_
    have hpv : pvF Ps n = ⟨0, 0, [], false⟩ := by rw [pvF, if_neg (by omega)]
    rw [hpv]
    exact ⟨none, 0, rfl, World.ownsRow_nil _ _ _ _, hst4.ext⟩
  have hs3p := hs3
  simp only [zB] at hs3p
  obtain ⟨hs3p1, hs3p2⟩ := hs3p
  refine wp_cond_false (show Act.eval _ _ = .bool false from (congrArg Value.bool hs3)) (wp_skip (then_normal (wp_seq ?_)))
  obtain ⟨N, rfl⟩ : ∃ N : Nat, n = (N : Int) := ⟨n.toNat, by omega⟩
  have hG := hP.get (n := N) (by omega)
  refine wp_region_Y [0, 1, 0, 7, 15, 0, 63] [[], [0], [], [], [], [], [2]] [[], [], [], [], [], [2], [3]] [[], [], [], [], [], [], [2]] [.k 17 (vp B2_1), .c 18 (.slice PA Ps.length pc), .k 19 (vi (N : Int)), .c 20 (.pointer (some ((ad PA).add (N * 3)))), .c 21 (.agg #[vi ((Ps.getD N p0).k), vi ((Ps.getD N p0).l), .slice ((Ps.getD N p0).A) ((Ps.getD N p0).its.length) ((Ps.getD N p0).c)]), .a 6, .n] (fun ix σ β X => match ix with | 0 => True | 1 => True | 2 => True | 3 => True | 4 => True | 5 => σ 6 = vp (pb (β 6)) ∧ X 2 = eB (pb (β 6)) 64 #[vi 0, vi 0, .slice none 0 0] | 6 => X 3 = eB (pb (β 6)) 64 #[vi ((Ps.getD N p0).k), vi ((Ps.getD N p0).l), .slice ((Ps.getD N p0).A) ((Ps.getD N p0).its.length) ((Ps.getD N p0).c)] | _ => True) [0, 1, 3] [1, 3, 4, 5, 6] [(6, 5, 1, 7), (10, 0, 5, 15)] hst2 ?_ ?_ ?_
  · exact fun ix _ _ _ _ _ _ hs hb hx h => match ix, h with
    | 5, h => by dsimp only at h ⊢; rw [← hs 6 rfl, ← hb 6 rfl, ← hx 2 rfl]; exact h
    | 6, h => by dsimp only at h ⊢; rw [← hb 6 rfl, ← hx 3 rfl]; exact h
    | 0, _ | 1, _ | 2, _ | 3, _ | 4, _ | _ + 7, _ => trivial
  · refine ⟨?_, ?_, ?_, ?_, ?_, trivial⟩
    · exact xs4 rfl id fun cx => run_load1 rfl (by kernel_rfl) (cx.an 0) ((cx.bi 0 rfl).cell 0)
    · exact xs4 rfl id fun cx => run_indexSlM (e := 64) (m := N) (sz := 3) rfl (by kernel_rfl) (by kernel_rfl) (cx.an 1) (cx.an 2) (by omega) (by omega) (hP.at_.ext cx.upd.to_ext) (by have h_ := flatLen (f := pgC) (sz := 3) pgC_len Ps; show 0 < (List.flatMap pgC Ps).length; omega)
    · exact xs4 rfl id fun cx => run_loadElt (f := pgC) (m := N) (sz := 3) (off := 0) (n := 3) rfl (by kernel_rfl) (by kernel_rfl) (cx.an 3) rfl pgC_len (hP.at_.ext cx.upd.to_ext) (getD_some (ts := Ps) (m := N) p0 (by omega)) (fun k hk => match k, hk with | 0, _ => rfl | 1, _ => rfl | 2, _ => rfl | k + 3, hk => absurd hk (by omega))
    · refine sv_any rfl rfl fun ρ β W X cx => ?_
      exact dv_alloc (cs := #[vi 0, vi 0, .slice none 0 0]) rfl (by kernel_rfl) rfl rfl (fun σ β' X' hs hb hv hx => ⟨hv, hx⟩)
    · refine sv_any rfl rfl fun ρ β W X cx => ?_
      exact dv_store (n := 3) rfl (dTn (cx.an 5)).1 (cx.an 4) (by kernel_rfl) (by kernel_rfl) (by kernel_rfl) cx (dTn (cx.an 5)).2 rfl (nle rfl) (by kernel_rfl) rfl rfl rfl (fun σ β' X' hs hb hx => by rw [hb 6]; exact hx)
  intro σ β X W8 hD hst8 fr hfr
  obtain ⟨B6_8, hu_B6_8⟩ : ∃ z, pb (β 6) = z := ⟨_, rfl⟩
  simp only [exq 3 ((dTn (hD 6 lq))), hu_B6_8] at hst8
  simp only [ed 6 ((dTn (hD 5 lq)).1), hu_B6_8] at hfr
  clear hD hu_B6_8; subst hfr; clear σ β X
  refine then_normal (wp_seq (wp_region_Y [0, 0, 2, 7, 15, 31] [[], [], [2], [3], [], [2]] [[3], [], [], [4], [], [5]] [[], [], [], [3], [], [2]] [.a 22, .k 23 (.pointer (some ⟨B6_8, 2, none⟩)), .c 24 (.slice ((Ps.getD N p0).A) ((Ps.getD N p0).its.length) ((Ps.getD N p0).c)), .a 25, .k 26 (.pointer (some ⟨B6_8, 2, none⟩)), .n] (fun ix σ β X => match ix with | 0 => σ 22 = .slice (sA (β 22)) 0 0 ∧ X 3 = eO 9 1 (.slice (sA (β 22)) 0 0) 0 ([]) | 1 => True | 2 => True | 3 => σ 25 = .slice (sA (β 25)) ((Ps.getD N p0).its.length) (sC (β 25)) ∧ X 4 = eO 9 1 (.slice (sA (β 25)) ((Ps.getD N p0).its.length) (sC (β 25))) ((Ps.getD N p0).its.length) (strs (Ps.getD N p0).its) | 4 => True | 5 => X 5 = eB B6_8 64 #[vi ((Ps.getD N p0).k), vi ((Ps.getD N p0).l), .slice (sA (β 25)) ((Ps.getD N p0).its.length) (sC (β 25))] | _ => True) [0, 1, 4, 5] [0, 2, 3, 5] [(22, 0, 5, 27)] hst8 ?_ ?_ ?_))
  · exact fun ix _ _ _ _ _ _ hs hb hx h => match ix, h with
    | 0, h => by dsimp only at h ⊢; rw [← hs 22 rfl, ← hb 22 rfl, ← hx 3 rfl]; exact h
    | 3, h => by dsimp only at h ⊢; rw [← hs 25 rfl, ← hb 25 rfl, ← hx 4 rfl]; exact h
    | 5, h => by dsimp only at h ⊢; rw [← hb 25 rfl, ← hx 5 rfl]; exact h
    | 1, _ | 2, _ | 4, _ | _ + 6, _ => trivial
  · refine ⟨?_, ?_, ?_, ?_, trivial⟩
    · refine sv_any rfl rfl fun ρ β W X cx => ?_
      exact dv_lit (e := 9) (xs := []) rfl (by simp [go_sem]) rfl (by decide) rfl rfl (fun σ β' X' hs hb hv hx => ⟨hv, hx⟩)
    · exact xs4 rfl id fun cx => run_load1 rfl (by kernel_rfl) (cx.an 1) ((cx.bi 2 rfl).cell 2)
    · refine sv_any rfl rfl fun ρ β W X cx => ?_
      obtain ⟨i0, hi0, hz0, hz1, hz2⟩ := info_parts Tryz.infoStr
      refine dv_append (n := 0) (m := (Ps.getD N p0).its.length) (nm := (Ps.getD N p0).its.length) (xs := []) (news := strs (Ps.getD N p0).its) (xs' := strs (Ps.getD N p0).its) rfl (ty := 62) rfl (by kernel_rfl) hi0 hz0 hz1 hz2 rfl (dTn (cx.an 0)).1 cx (dTn (cx.an 0)).2 rfl (cx.an 2) (strs_len _) (hG.1.ext cx.upd.to_ext) (strs_one _) (by simp only [maxLen]; omega) (by omega) rfl rfl rfl (by omega) (rfl) (fun σ β' X' hs hb hv hx => ?_)
      exact ⟨hv, hx⟩
    · refine sv_any rfl rfl fun ρ β W X cx => ?_
      exact dv_store (n := 1) rfl (cx.an 4) (dTn (cx.an 3)).1 (by kernel_rfl) (by kernel_rfl) (by kernel_rfl) cx (cx.init 2 _ rfl) rfl (nle rfl) (by kernel_rfl) rfl rfl rfl (fun σ β' X' hs hb hx => by rw [hb 25]; exact hx)
  intro σ β X W9 hD hst9 fr hfr
  obtain ⟨A22_9, hu_A22_9⟩ : ∃ z, sA (β 22) = z := ⟨_, rfl⟩
  obtain ⟨A25_9, hu_A25_9⟩ : ∃ z, sA (β 25) = z := ⟨_, rfl⟩
  obtain ⟨c25_9, hu_c25_9⟩ : ∃ z, sC (β 25) = z := ⟨_, rfl⟩
  simp only [exq 4 ((dTn (hD 3 lq)).2), exq 5 ((dTn (hD 5 lq))), hu_A22_9, hu_A25_9, hu_c25_9] at hst9
  simp only [ed 22 ((dTn (hD 0 lq)).1), ed 25 ((dTn (hD 3 lq)).1), hu_A22_9, hu_A25_9, hu_c25_9] at hfr
  clear hD hu_A22_9 hu_A25_9 hu_c25_9; subst hfr; clear σ β X
  refine then_normal (wp_seq (wp_region_Y [0, 1, 3] [[3], [1]] [[], [4]] [[], [1]] [.c 27 (.agg #[vi ((Ps.getD N p0).k), vi ((Ps.getD N p0).l), .slice A25_9 ((Ps.getD N p0).its.length) c25_9]), .n, .k 5 (.bool true)] (fun ix σ β X => match ix with | 0 => True | 1 => X 4 = eB B4_1 64 #[vi ((Ps.getD N p0).k), vi ((Ps.getD N p0).l), .slice A25_9 ((Ps.getD N p0).its.length) c25_9] | _ => True) [0, 2, 3, 4] [0, 1] [(5, 2, 1, 6), (21, 0, 1, 22)] hst9 ?_ ?_ ?_))
  · exact fun ix _ _ _ _ _ _ hs hb hx h => match ix, h with
    | 1, h => by dsimp only at h ⊢; rw [← hx 4 rfl]; exact h
    | 0, _ | _ + 2, _ => trivial
  · refine ⟨?_, ?_, trivial⟩
    · exact xs4 rfl id fun cx => run_loadB (n := 3) rfl (by kernel_rfl) (by kernel_rfl) (cx.ou 6) (cx.bi 3 rfl) (nle rfl) rfl
    · refine sv_any rfl rfl fun ρ β W X cx => ?_
      exact dv_store (n := 3) rfl (cx.ou 4) (cx.an 0) (by kernel_rfl) (by kernel_rfl) (by kernel_rfl) cx (cx.init 1 _ rfl) rfl (nle rfl) (by kernel_rfl) rfl rfl rfl (fun σ β' X' hs hb hx => hx)
  intro σ β X W10 hD hst10 fr hfr
  simp only [exq 4 ((dTn (hD 1 lq)))] at hst10
  clear hD; subst hfr; clear σ β X
  refine then_normal (wp_ret ?_)
  have hr11 : W10.cell? ⟨B4_1, 0, none⟩ = some (vi ((Ps.getD N p0).k)) := (hst10.blk 3 rfl).cell 0
  have hr12 : W10.cell? ⟨B4_1, 1, none⟩ = some (vi ((Ps.getD N p0).l)) := (hst10.blk 3 rfl).cell 1
  have hr13 : W10.cell? ⟨B4_1, 2, none⟩ = some (.slice A25_9 ((Ps.getD N p0).its.length) c25_9) := (hst10.blk 3 rfl).cell 2
  refine bodyPost_ret (v := .tuple #[.agg #[vi ((Ps.getD N p0).k), vi ((Ps.getD N p0).l), .slice A25_9 ((Ps.getD N p0).its.length) c25_9], .bool true]) (by simp [results, Tryz.results124, go_sem, hr11, hr12, hr13]) rfl ?_
  have ho_ := hst10.own' 1 rfl
  have hpv : pvF Ps (N : Int) = ⟨(Ps.getD N p0).k, (Ps.getD N p0).l, (Ps.getD N p0).its, true⟩ := by rw [pvF, if_pos (by omega)]; rfl
  rw [hpv]
  exact ⟨_, _, rfl, ho_, hst10.ext⟩
theorem rpages_ok (PA : Option Addr) (pc : Nat) (Ps : List PgD) (w : World) (h : PgsAt w PA Ps) : PgsOk w 30 (.agg #[.slice PA Ps.length pc]) (pvF Ps) :=
  ⟨⟨124, _, fun W => by kernel_rfl, by kernel_rfl, fun W x hx => rpage_any PA pc Ps x W (h.ext hx)⟩, h.wf⟩
end
end Go.Proofs.YtjnplglnnamfdaaGreatDoor
namespace Go.Proofs.YtjnplglnnamfdaaGreatDoor
section
open Go.RowKit
set_option linter.unusedVariables false
set_option linter.unusedSimpArgs false
set_option maxRecDepth 100000 in
set_option maxHeartbeats 400000 in
theorem rosize_any (n : Int) (w : World) : Calls Tryz.prog 193 #[.int .i64 n] w fun e w' => e = .returned (.int .i64 (sizeF n)) ∧ w = w' := by
  go_enter Tryz.func193, Tryz.ntmps193
  go_wp2
  all_goals
    go_ret
    exact ⟨ret_int (by unfold sizeF; omega), rfl⟩
set_option maxRecDepth 100000 in
set_option maxHeartbeats 1000000 in
theorem rtake_ok (B : Nat) (s : ByteArray) (p n : Nat) (w : World) (h : Rd 260 w B s p false) (hn : p + n ≤ s.size) :
    Calls Tryz.prog 219 #[.pointer (some ⟨B, 0, none⟩), .int .i64 n] w (RdPost 260 (.string (s.extract p (p + n))) B s (p + n) false w) := by
  obtain ⟨hb, hp, hs⟩ := h
  have HB := Lib.hid hb
  have c0 : w.cell? ⟨B, 0, none⟩ = some (.string s) := hb.cell 0
  have c1 : w.cell? ⟨B, 1, none⟩ = some (.int .i64 p) := hb.cell 1
  have c2 : w.cell? ⟨B, 2, none⟩ = some (.bool false) := hb.cell 2
  have f1 := hb.frozen 1
  have hd1 : decide ((n : Int) < 0) = false := by simp
  have hd2 : decide ((s.size : Int) - (p : Int) < (n : Int)) = false := by simp; omega
  have e1 : (0 : Int) ≤ (p : Int) + (n : Int) := by omega
  have e2 : (p : Int) + (n : Int) ≤ (s.size : Int) := by omega
  have e3 : (p : Int) ≤ (p : Int) + (n : Int) := by omega
  clear hb
  go_enter Tryz.func219, Tryz.ntmps219
  go_wp2_with fail
  go_quiet (fail)
  go_wp2_with fail
  go_quiet (fail)
  go_wp2
  go_ret
  refine ⟨rfl, ⟨?_, hn, hs⟩, ?_⟩
  · rw [show ((p + n : Nat) : Int) = (p : Int) + (n : Int) by omega]
    exact ((HB.out.drewN _).set_ 1 _).drewN _
  · exact (((Upd.refl _ _).drewN _).set (.inl (by simp)) _).drewN _
set_option maxRecDepth 100000 in
set_option maxHeartbeats 1000000 in
theorem rnum_ok (B : Nat) (s : ByteArray) (p k : Nat) (w : World) (h : Rd 260 w B s p false) (hk : k ≤ 4) (hn : p + k ≤ s.size) :
    Calls Tryz.prog 154 #[.pointer (some ⟨B, 0, none⟩), .int .i64 k] w (RdPost 260 (.int .i64 (numS s p k)) B s (p + k) false w) := by
  have H := Lib.hid h; clear h
  have hsk := Lib.hid (show sizeF k = k by unfold sizeF; omega)
  go_enter Tryz.func154, Tryz.ntmps154
  go_wp2_with fail
  refine (rosize_any _ _).mono ?_
  rw [hsk.out]
  rintro e w1 ⟨rfl, rfl⟩
  go_wp2_with fail
  refine (rtake_ok _ _ _ _ _ H.out hn).mono ?_
  rintro e w1 ⟨rfl, hr, hu⟩
  obtain ⟨t, ht⟩ : ∃ t, t = s.extract p (p + k) := ⟨_, rfl⟩
  rw [← ht]
  have htk : t.size = k := by rw [ht, ByteArray.size_extract]; have := H.out.2.1; omega
  have HT := Lib.hid (show numS s p k = numL t.data.toList by rw [numS, ← ht])
  have hb4 := numL_lt t.data.toList
  have hts : (t.size : Int) ≤ 4 := by omega
  have h4 : 256 ^ t.data.toList.length ≤ 4294967296 := by
    have e : t.data.toList.length = t.size := by simp
    rw [e]
    exact Nat.le_trans (Nat.pow_le_pow_right (by omega) (show t.size ≤ 4 by omega)) (by decide)
  have HR := Lib.hid hr
  have HU := Lib.hid hu
  have hfin : ((numL t.data.toList : Nat) : Int) ≤ 4294967296 := by omega
  clear hr hu ht htk hb4 h4
  go_wp2
  go_loop [6, 7] (fun x v => ∃ j : Nat, v = .int .i64 j ∧ j ≤ t.size ∧ x = .int .u64 (numL (t.data.toList.take j))) (fun _ v => t.size - (intOf v).toNat)
  case atStart => exact ⟨0, rfl, Nat.zero_le _, rfl⟩
  case round =>
    obtain ⟨j, rfl, hj, rfl⟩ := hrel
    rcases Nat.lt_or_ge j t.size with hlt | hge
    · have hb := numL_lt (t.data.toList.take j)
      have hlen : (t.data.toList.take j).length = j := by simp; omega
      have h256 : 256 ^ (t.data.toList.take j).length ≤ 16777216 := by
        rw [hlen]
        exact Nat.le_trans (Nat.pow_le_pow_right (by omega) (show j ≤ 3 by omega)) (by decide)
      have hsn : t.data.toList.take (j + 1) = t.data.toList.take j ++ [t[j]] := by rw [List.take_succ_eq_append_getElem (by simpa using hlt)]; rfl
      have HN := Lib.hid (show numL (t.data.toList.take (j + 1)) = numL (t.data.toList.take j) * 256 + t[j].toNat by rw [hsn, numL_snoc])
      obtain ⟨a, ha⟩ : ∃ a, a = numL (t.data.toList.take j) := ⟨_, rfl⟩
      rw [← ha] at hb HN ⊢
      have hc8 : t[j].toNat < 256 := UInt8.toNat_lt _
      have ha1 : (a : Int) ≤ 16777216 := by omega
      have i1 : (0 : Int) ≤ (j : Int) := by omega
      have i2 : (j : Int) < (t.size : Int) := by omega
      clear hsn hlen h256 hb ha
      go_wp2
      go_round
      case rel => exact ⟨j + 1, by go_num, by omega, by rw [HN.out]; go_num⟩
      case measure => simp [intOf]; omega
    · obtain rfl : j = t.size := by omega
      have e : t.data.toList.take t.size = t.data.toList := List.take_of_length_le (by simp)
      rw [e]
      obtain ⟨a, ha⟩ : ∃ a, a = numL t.data.toList := ⟨_, rfl⟩
      rw [← ha] at HT hfin ⊢
      clear e ha
      go_wp2
      go_ret
      exact ⟨by rw [HT.out]; rfl, HR.out, HU.out⟩
end
end Go.Proofs.YtjnplglnnamfdaaGreatDoor

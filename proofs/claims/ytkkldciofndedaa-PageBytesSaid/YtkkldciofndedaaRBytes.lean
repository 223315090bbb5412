/- the reference's Bytes. -/
import Derived.Test.YtkkldciofndedaaBytes
namespace Go.Proofs.Ytkkldciofndedaa
open Go.RowKit
set_option linter.unusedVariables false

set_option maxRecDepth 100000 in
set_option maxHeartbeats 1000000 in
theorem rbytes_not (k l : Int) (A : Option Addr) (n c : Nat) (ss : List ByteArray) (w : World) (hn : n = ss.length) (h : At w A (ss.map Value.string)) (hs : Small ss) (hc : n ≤ c) (hr : rightB k l ss = false) :
    Calls Try.prog 35 #[.agg #[.int .i64 k, .int .i64 l, .slice A n c]] w (Ret1 (.agg #[.string ByteArray.empty, .int .i64 22]) w) := by
  subst hn
  have H := Lib.hid h; clear h
  have HS := Lib.hid hs; clear hs
  have HR := Lib.hid hr; clear hr
  go_enter Try.func35, Try.ntmps35
  go_wp2_with fail
  refine (rright_any _ _ _ _ _ _ _ rfl (H.out.ext (((Ext.refl w).alloc _).alloc _)) HS.out hc).mono ?_
  rw [HR.out]
  rintro e w1 ⟨rfl, hx⟩
  have B2 := (Blk.new' (w := w.alloc (.cells #[.int .i64 k, .int .i64 l, .slice A ss.length c] 26)) (g := w.heap.size + 1) (t := 72) (cs := #[.string ByteArray.empty, .int .i64 0]) (by simp)).ext hx
  have X1 := Lib.hid ((((Ext.refl w).alloc _).alloc _).trans hx)
  have b20 := B2.cell 0
  have b21 := B2.cell 1
  have b2l := B2.lt
  have b2f := B2.frozen 0
  have b2g := B2.frozen 1
  clear hx
  go_wp2
  refine bodyPost_ret (v := .agg #[.string ByteArray.empty, .int .i64 22]) (by simp [results, Try.results35, go_sem, b20, b21]; rfl) rfl ?_
  exact ⟨rfl, (X1.out.set (Nat.le_succ _) _).set (Nat.le_succ _) _⟩

set_option maxRecDepth 100000 in
set_option maxHeartbeats 4000000 in
theorem rbytes_right (k l : Int) (A : Option Addr) (n c : Nat) (ss : List ByteArray) (w : World) (hn : n = ss.length) (h : At w A (ss.map Value.string)) (hc : n ≤ c) (hr : rightB k l ss = true) :
    Calls Try.prog 35 #[.agg #[.int .i64 k, .int .i64 l, .slice A n c]] w (Ret1 (.agg #[.string (bytesF k l (plainL ss)), .int .i64 0]) w) := by
  subst hn
  have H := Lib.hid h; clear h
  have HS := Lib.hid (right_small hr)
  obtain ⟨_, _, ⟨h24, h400⟩, h512⟩ := right_parts hr
  have HR := Lib.hid hr; clear hr
  obtain ⟨I, hI⟩ : ∃ I, I = plainL ss := ⟨_, rfl⟩
  have hIl : I.length ≤ 24 := by rw [hI, plainL_len]; have := trimN_le ss ss.length; omega
  have hI4 : ∀ s ∈ I, s.size ≤ 400 := fun s hs => h400 s (by rw [hI] at hs; exact List.mem_of_mem_take hs)
  have hIz : 6 + sizeT I ≤ 504 := by rw [sizeL, ← hI] at h512; omega
  have HI := Lib.hid hI
  have HI4 := Lib.hid hI4
  rw [← hI]
  clear hI h24 h400 h512 hI4
  go_enter Try.func35, Try.ntmps35
  go_wp2_with fail
  refine (rright_any _ _ _ _ _ _ _ rfl (H.out.ext (((Ext.refl w).alloc _).alloc _)) HS.out hc).mono ?_
  rw [HR.out]
  rintro e w1 ⟨rfl, hx⟩
  replace H := Lib.hid (H.out.ext ((((Ext.refl _).alloc _).alloc _).trans hx))
  have B1 : Hid (Blk w1 (w.heap.size) 26 #[.int .i64 k, .int .i64 l, .slice A ss.length c]) := Lib.hid (((Blk.new' (by simp)).alloc _).ext hx)
  have B2 : Hid (Blk w1 (w.heap.size + 1) 72 #[.string ByteArray.empty, .int .i64 0]) := Lib.hid ((Blk.new' (by simp)).ext hx)
  have X1 := Lib.hid ((((Ext.refl w).alloc _).alloc _).trans hx)
  clear hx
  have B1_0 : w1.cell? ⟨w.heap.size, 0, none⟩ = some (.int .i64 k) := B1.out.cell 0
  have B1_1 : w1.cell? ⟨w.heap.size, 1, none⟩ = some (.int .i64 l) := B1.out.cell 1
  have B1_2 : w1.cell? ⟨w.heap.size, 2, none⟩ = some (.slice A ss.length c) := B1.out.cell 2
  have B1_lt : w.heap.size < w1.heap.size := B1.out.lt
  go_wp2_with fail
  refine (rplain_any _ _ _ _ _ _ H.out HS.out.1 hc).mono ?_
  rw [← HI.out]
  rintro e w2 ⟨A2, c2, rfl, ho, hx⟩
  replace B1 := Lib.hid (B1.out.ext hx)
  replace B2 := Lib.hid (B2.out.ext hx)
  replace H := Lib.hid (H.out.ext ((Ext.refl _).trans hx))
  replace X1 := Lib.hid (X1.out.trans ((Ext.refl _).trans hx))
  have O2 := Lib.hid (At.of_own ho)
  have hc2 := own_cap ho
  clear ho
  clear hx B1_0 B1_1 B1_2 B1_lt
  go_wp2_with fail
  obtain ⟨w3, hw3⟩ : ∃ z, z = w2.alloc (.cells #[.int .i64 k, .int .i64 l, .slice A2 I.length c2] 26) := ⟨_, rfl⟩
  rw [← hw3]
  have hx : Ext (w2.alloc (.cells #[.int .i64 k, .int .i64 l, .slice A2 I.length c2] 26)) w3 := by rw [hw3]; exact Ext.refl _
  clear hw3
  replace B1 := Lib.hid ((B1.out.alloc _).ext hx)
  replace B2 := Lib.hid ((B2.out.alloc _).ext hx)
  replace H := Lib.hid (H.out.ext (((Ext.refl _).alloc _).trans hx))
  replace O2 := Lib.hid (O2.out.ext (((Ext.refl _).alloc _).trans hx))
  replace X1 := Lib.hid (X1.out.trans (((Ext.refl _).alloc _).trans hx))
  have B3 : Hid (Blk w3 (w2.heap.size) 26 #[.int .i64 k, .int .i64 l, .slice A2 I.length c2]) := Lib.hid ((Blk.new' (by simp)).ext hx)
  clear hx
  refine wp_region_E (by kernel_rfl) [0, 1, 3, 0, 8, 31, 63, 0, 128, 384, 959, 2047, 4095] (fun ix v W => match ix with | 0 => v = .pointer (some ⟨w2.heap.size, 0, none⟩) | 1 => v = .int .i64 k | 2 => v = .string ((putS k 1)) | 3 => v = .pointer (some ⟨w2.heap.size, 1, none⟩) | 4 => v = .int .i64 l | 5 => v = .string ((putS l 4)) | 6 => v = .string (putS k 1 ++ putS l 4) | 7 => v = .pointer (some ⟨w2.heap.size, 2, none⟩) | 8 => v = .slice A2 I.length c2 | 9 => v = .int .i64 I.length | 10 => v = .string ((putS I.length 1)) | 11 => v = .string ((putS k 1 ++ putS l 4) ++ putS I.length 1) | 12 => v = .string ((putS k 1 ++ putS l 4) ++ putS I.length 1) | _ => True) (by kernel_rfl) (by kernel_rfl) ?_ ?_ ?_
  · intro ix v W W' h hx
    match ix, h with
    | 0, h => exact h
    | 1, h => exact h
    | 2, h => exact h
    | 3, h => exact h
    | 4, h => exact h
    | 5, h => exact h
    | 6, h => exact h
    | 7, h => exact h
    | 8, h => exact h
    | 9, h => exact h
    | 10, h => exact h
    | 11, h => exact h
    | 12, h => exact h
    | _ + 13, _ => trivial
  · refine ⟨⟨⟨⟨⟨⟨⟨⟨⟨⟨⟨⟨⟨trivial, ?_⟩, ?_⟩, ?_⟩, ?_⟩, ?_⟩, ?_⟩, ?_⟩, ?_⟩, ?_⟩, ?_⟩, ?_⟩, ?_⟩, ?_⟩
    · intro ρ W hS hx hout hpre
      refine GSay.none rfl ?_
      have f3 : ρ (.tmp 3) = .pointer (some ⟨w2.heap.size, 0, none⟩) := hout 3 (by kernel_rfl)
      exact DoesU.value (v := .pointer (some ⟨w2.heap.size, 0, none⟩)) (w' := W) (by simp [go_sem, f3]) ⟨rfl, Ext.refl _⟩
    · intro ρ W hS hx hout hpre
      refine GSay.none rfl ?_
      have f12 : ρ (.tmp 12) = .pointer (some ⟨w2.heap.size, 0, none⟩) := hpre 0 12 (by kernel_rfl)
      exact DoesU.value (v := .int .i64 k) (w' := W) (by simp [go_sem, f12, (show W.cell? ⟨w2.heap.size, 0, none⟩ = some (.int .i64 k) from ((B3.out.ext hx)).cell 0)]) ⟨rfl, Ext.refl _⟩
    · intro ρ W hS hx hout hpre
      refine GSay.none rfl ?_
      have f13 : ρ (.tmp 13) = .int .i64 k := hpre 1 13 (by kernel_rfl)
      refine DoesU.call (f := 56) (args := #[.int .i64 k, .int .i64 1]) (w' := W) (by simp [go_sem, hS.func, f13, hS.const]) ?_
      refine (rput1_any _ _).mono ?_
      rintro e w6 ⟨rfl, hx6⟩
      exact ⟨_, rfl, rfl, hx6⟩
    · intro ρ W hS hx hout hpre
      refine GSay.none rfl ?_
      have f3 : ρ (.tmp 3) = .pointer (some ⟨w2.heap.size, 0, none⟩) := hout 3 (by kernel_rfl)
      exact DoesU.value (v := .pointer (some ⟨w2.heap.size, 1, none⟩)) (w' := W) (by simp [go_sem, f3]) ⟨rfl, Ext.refl _⟩
    · intro ρ W hS hx hout hpre
      refine GSay.none rfl ?_
      have f15 : ρ (.tmp 15) = .pointer (some ⟨w2.heap.size, 1, none⟩) := hpre 3 15 (by kernel_rfl)
      exact DoesU.value (v := .int .i64 l) (w' := W) (by simp [go_sem, f15, (show W.cell? ⟨w2.heap.size, 1, none⟩ = some (.int .i64 l) from ((B3.out.ext hx)).cell 1)]) ⟨rfl, Ext.refl _⟩
    · intro ρ W hS hx hout hpre
      refine GSay.none rfl ?_
      have f16 : ρ (.tmp 16) = .int .i64 l := hpre 4 16 (by kernel_rfl)
      refine DoesU.call (f := 56) (args := #[.int .i64 l, .int .i64 4]) (w' := W) (by simp [go_sem, hS.func, f16, hS.const]) ?_
      refine (rput4_any _ _).mono ?_
      rintro e w6 ⟨rfl, hx6⟩
      exact ⟨_, rfl, rfl, hx6⟩
    · intro ρ W hS hx hout hpre
      refine GSay.none rfl ?_
      have f14 : ρ (.tmp 14) = .string ((putS k 1)) := hpre 2 14 (by kernel_rfl)
      have f17 : ρ (.tmp 17) = .string ((putS l 4)) := hpre 5 17 (by kernel_rfl)
      have q1 := putS_size k 1 (by omega); have q2 := putS_size l 4 (by omega)
      exact DoesU.value (v := .string (putS k 1 ++ putS l 4)) (w' := W) (by simp [go_sem, f14, f17, q1, q2]) ⟨rfl, Ext.refl _⟩
    · intro ρ W hS hx hout hpre
      refine GSay.none rfl ?_
      have f3 : ρ (.tmp 3) = .pointer (some ⟨w2.heap.size, 0, none⟩) := hout 3 (by kernel_rfl)
      exact DoesU.value (v := .pointer (some ⟨w2.heap.size, 2, none⟩)) (w' := W) (by simp [go_sem, f3]) ⟨rfl, Ext.refl _⟩
    · intro ρ W hS hx hout hpre
      refine GSay.none rfl ?_
      have f19 : ρ (.tmp 19) = .pointer (some ⟨w2.heap.size, 2, none⟩) := hpre 7 19 (by kernel_rfl)
      exact DoesU.value (v := .slice A2 I.length c2) (w' := W) (by simp [go_sem, f19, (show W.cell? ⟨w2.heap.size, 2, none⟩ = some (.slice A2 I.length c2) from ((B3.out.ext hx)).cell 2)]) ⟨rfl, Ext.refl _⟩
    · intro ρ W hS hx hout hpre
      refine GSay.none rfl ?_
      have f20 : ρ (.tmp 20) = .slice A2 I.length c2 := hpre 8 20 (by kernel_rfl)
      exact DoesU.value (v := .int .i64 I.length) (w' := W) (by simp [go_sem, f20]) ⟨rfl, Ext.refl _⟩
    · intro ρ W hS hx hout hpre
      refine GSay.none rfl ?_
      have f21 : ρ (.tmp 21) = .int .i64 I.length := hpre 9 21 (by kernel_rfl)
      refine DoesU.call (f := 56) (args := #[.int .i64 I.length, .int .i64 1]) (w' := W) (by simp [go_sem, hS.func, f21, hS.const]) ?_
      refine (rput1_any _ _).mono ?_
      rintro e w6 ⟨rfl, hx6⟩
      exact ⟨_, rfl, rfl, hx6⟩
    · intro ρ W hS hx hout hpre
      refine GSay.none rfl ?_
      have f18 : ρ (.tmp 18) = .string (putS k 1 ++ putS l 4) := hpre 6 18 (by kernel_rfl)
      have f22 : ρ (.tmp 22) = .string ((putS I.length 1)) := hpre 10 22 (by kernel_rfl)
      have q1 := putS_size k 1 (by omega); have q2 := putS_size l 4 (by omega); have q3 := putS_size I.length 1 (by omega)
      exact DoesU.value (v := .string ((putS k 1 ++ putS l 4) ++ putS I.length 1)) (w' := W) (by simp [go_sem, f18, f22, q1, q2, q3]) ⟨rfl, Ext.refl _⟩
    · intro ρ W hS hx hout hpre
      refine GSay.none rfl ?_
      have f23 : ρ (.tmp 23) = .string ((putS k 1 ++ putS l 4) ++ putS I.length 1) := hpre 11 23 (by kernel_rfl)
      exact DoesU.value (v := .string ((putS k 1 ++ putS l 4) ++ putS I.length 1)) (w' := W) (by simp [go_sem, f23]) ⟨rfl, Ext.refl _⟩
  intro vs w4 hl hD hx
  replace hl := hl.trans (show (idxU _).length = 13 by kernel_rfl)
  rcases vs with _ | ⟨v12, vs⟩; · simp at hl
  rcases vs with _ | ⟨v13, vs⟩; · simp at hl
  rcases vs with _ | ⟨v14, vs⟩; · simp at hl
  rcases vs with _ | ⟨v15, vs⟩; · simp at hl
  rcases vs with _ | ⟨v16, vs⟩; · simp at hl
  rcases vs with _ | ⟨v17, vs⟩; · simp at hl
  rcases vs with _ | ⟨v18, vs⟩; · simp at hl
  rcases vs with _ | ⟨v19, vs⟩; · simp at hl
  rcases vs with _ | ⟨v20, vs⟩; · simp at hl
  rcases vs with _ | ⟨v21, vs⟩; · simp at hl
  rcases vs with _ | ⟨v22, vs⟩; · simp at hl
  rcases vs with _ | ⟨v23, vs⟩; · simp at hl
  rcases vs with _ | ⟨v4, vs⟩; · simp at hl
  obtain rfl : vs = [] := List.eq_nil_of_length_eq_zero (by simpa using hl)
  clear hl
  obtain rfl : v12 = .pointer (some ⟨w2.heap.size, 0, none⟩) := hD 0 0 v12 (by kernel_rfl) rfl
  obtain rfl : v13 = .int .i64 k := hD 1 1 v13 (by kernel_rfl) rfl
  obtain rfl : v14 = .string ((putS k 1)) := hD 2 2 v14 (by kernel_rfl) rfl
  obtain rfl : v15 = .pointer (some ⟨w2.heap.size, 1, none⟩) := hD 3 3 v15 (by kernel_rfl) rfl
  obtain rfl : v16 = .int .i64 l := hD 4 4 v16 (by kernel_rfl) rfl
  obtain rfl : v17 = .string ((putS l 4)) := hD 5 5 v17 (by kernel_rfl) rfl
  obtain rfl : v18 = .string (putS k 1 ++ putS l 4) := hD 6 6 v18 (by kernel_rfl) rfl
  obtain rfl : v19 = .pointer (some ⟨w2.heap.size, 2, none⟩) := hD 7 7 v19 (by kernel_rfl) rfl
  obtain rfl : v20 = .slice A2 I.length c2 := hD 8 8 v20 (by kernel_rfl) rfl
  obtain rfl : v21 = .int .i64 I.length := hD 9 9 v21 (by kernel_rfl) rfl
  obtain rfl : v22 = .string ((putS I.length 1)) := hD 10 10 v22 (by kernel_rfl) rfl
  obtain rfl : v23 = .string ((putS k 1 ++ putS l 4) ++ putS I.length 1) := hD 11 11 v23 (by kernel_rfl) rfl
  obtain rfl : v4 = .string ((putS k 1 ++ putS l 4) ++ putS I.length 1) := hD 12 12 v4 (by kernel_rfl) rfl
  clear hD
  rw [show dstsU _ = [12, 13, 14, 15, 16, 17, 18, 19, 20, 21, 22, 23, 4] by kernel_rfl]
  simp only [putAll, List.setIfInBounds_toArray, List.set_cons_succ, List.set_cons_zero]
  replace B1 := Lib.hid (B1.out.ext hx)
  replace B2 := Lib.hid (B2.out.ext hx)
  replace B3 := Lib.hid (B3.out.ext hx)
  replace H := Lib.hid (H.out.ext ((Ext.refl _).trans hx))
  replace O2 := Lib.hid (O2.out.ext ((Ext.refl _).trans hx))
  replace X1 := Lib.hid (X1.out.trans ((Ext.refl _).trans hx))
  clear hx
  have hhd : (putS k 1 ++ putS l 4) ++ putS I.length 1 = baOf (headL k l I.length) := by rw [headL, baOf_bl]
  rw [hhd]
  clear hhd
  go_wp2
  go_loopw [4, 5] (fun x v wr => ∃ j : Nat, v = .int .i64 j ∧ j ≤ I.length ∧ x = .string (baOf (headL k l I.length ++ itemsL (I.take j))) ∧ Ext w4 wr) (fun _ v _ => I.length - (intOf v).toNat)
  case atStart => exact ⟨0, rfl, Nat.zero_le _, by simp [itemsL], Ext.refl _⟩
  case round =>
    obtain ⟨j, rfl, hj, rfl, hx⟩ := hrel
    have W4 := Lib.hid hx
    replace B1 := Lib.hid (B1.out.ext hx)
    replace B2 := Lib.hid (B2.out.ext hx)
    replace B3 := Lib.hid (B3.out.ext hx)
    replace H := Lib.hid (H.out.ext ((Ext.refl _).trans hx))
    replace O2 := Lib.hid (O2.out.ext ((Ext.refl _).trans hx))
    replace X1 := Lib.hid (X1.out.trans ((Ext.refl _).trans hx))
    clear hx
    have B3_0 : wr.cell? ⟨w2.heap.size, 0, none⟩ = some (.int .i64 k) := B3.out.cell 0
    have B3_1 : wr.cell? ⟨w2.heap.size, 1, none⟩ = some (.int .i64 l) := B3.out.cell 1
    have B3_2 : wr.cell? ⟨w2.heap.size, 2, none⟩ = some (.slice A2 I.length c2) := B3.out.cell 2
    have B3_lt : w2.heap.size < wr.heap.size := B3.out.lt
    have hlj : (headL k l I.length ++ itemsL (I.take j)).length ≤ 600 := by
      rw [List.length_append, headL_len, itemsL_len]
      have := sizeT_take_le I j
      omega
    rcases Nat.lt_or_ge j I.length with hlt | hge
    · have hs4 := HI4.out _ (List.getElem_mem hlt)
      have HSn := Lib.hid (itemsL_snoc I j hlt)
      have hsj : (I.map Value.string)[j]? = some (.string I[j]) := by simp [hlt]
      obtain ⟨s, hs⟩ : ∃ s, s = I[j] := ⟨_, rfl⟩
      rw [← hs] at hs4 HSn hsj
      obtain ⟨ad, rfl, hb, hcell⟩ := O2.out _ _ hsj
      have i1 : (0 : Int) ≤ (j : Int) := by omega
      have i2 : (j : Int) < (I.length : Int) := by omega
      have hbsz := baOf_size (headL k l I.length ++ itemsL (I.take j))
      have hts := textB_size s
      clear hs hsj
      go_wp2_with fail
      refine (rtextf_any s _ (by omega)).mono ?_
      rintro e w5 ⟨rfl, hx⟩
      have X5 := Lib.hid (Ext.trans W4.out hx)
      clear hx hcell
      go_wp2_with fail
      go_roundw
      case rel => exact ⟨j + 1, by go_num, by omega, by rw [HSn.out, ← List.append_assoc, baOf_append _ (bl _), baOf_bl], X5.out⟩
      case measure => simp [intOf]; omega
    · obtain rfl : j = I.length := by omega
      rw [List.take_length]
      have hL : (headL k l I.length ++ itemsL I).length = 6 + sizeT I := by rw [List.length_append, headL_len, itemsL_len]
      obtain ⟨L, hLd⟩ : ∃ L, L = headL k l I.length ++ itemsL I := ⟨_, rfl⟩
      rw [← hLd] at hL ⊢
      have HL := Lib.hid hLd
      have HLn := Lib.hid hL
      have B2_0 := B2.out.cell 0
      have B2_1 := B2.out.cell 1
      clear hge hlj hLd hL
      go_wp2
      go_loop [4] (fun x => ∃ m : Nat, x = .string (baOf (L ++ List.replicate m 0)) ∧ L.length + m ≤ 504) (fun x => match x with | .string t => 504 - t.size | _ => 0)
      case atStart => exact ⟨0, by simp, by rw [HLn.out]; omega⟩
      case round =>
        obtain ⟨m, rfl, hm⟩ := hrel
        have hsz := baOf_size (L ++ List.replicate m 0)
        rw [List.length_append, List.length_replicate] at hsz
        rcases Nat.lt_or_ge (L.length + m) 504 with hlt | hge
        · have h1 : ((L.length + m : Nat) : Int) < 504 := by omega
          go_wp2_with fail
          go_round
          case rel => exact ⟨m + 1, by rw [List.replicate_succ', ← List.append_assoc, baOf_append _ [0]]; rfl, by omega⟩
          case measure =>
            show 504 - (baOf (L ++ List.replicate m 0) ++ (⟨#[0]⟩ : ByteArray)).size < 504 - (baOf (L ++ List.replicate m 0)).size
            have h1 : (⟨#[0]⟩ : ByteArray).size = 1 := rfl
            rw [ByteArray.size_append, hsz, h1]
            omega
        · have h1 : ¬ ((L.length + m : Nat) : Int) < 504 := by omega
          go_wp2_with fail
          refine (rput4_any _ _).mono ?_
          rintro e w5 ⟨rfl, hx⟩
          have hm2 : m = 504 - (6 + sizeT I) := by have := HLn.out; omega
          have hle : baOf (L ++ List.replicate m 0) ++ putS l 4 = baOf (bodyL k l I) := by rw [hm2, HL.out, bodyL, baOf_append _ (bl _), baOf_bl]
          have hps := putS_size l 4 (by omega)
          have X5 := Lib.hid (X1.out.trans hx)
          have B25 := Lib.hid (B2.out.ext hx)
          clear hx B2_0 B2_1 hm2
          go_wp2_with fail
          have hbl := bodyL_len k l I hIz
          have hps4 := putS_size (sumF (baOf (bodyL k l I))) 4 (by omega)
          have hbs := baOf_size (bodyL k l I)
          have hby : bytesF k l I = putS (sumF (baOf (bodyL k l I))) 4 ++ baOf (bodyL k l I) := rfl
          obtain ⟨b, hb⟩ : ∃ b, b = bodyL k l I := ⟨_, rfl⟩
          rw [← hb] at hbl hps4 hbs hby ⊢
          have HBY := Lib.hid hby
          clear hle hb hby
          refine (rsum_any _ _ (by rw [hbs]; omega)).mono ?_
          rintro e w6 ⟨rfl, hx⟩
          have X6 := Lib.hid (X5.out.trans hx)
          have B26 := Lib.hid (B25.out.ext hx)
          clear hx
          go_wp2_with fail
          rw [show wrap64 (sumF (baOf b) : Int) = (sumF (baOf b) : Int) from IntWalk.wrap64_in _ ⟨by have := sumF_lt (baOf b); omega, by have := sumF_lt (baOf b); omega⟩]
          refine (rput4_any _ _).mono ?_
          rintro e w7 ⟨rfl, hx⟩
          have X7 := Lib.hid (X6.out.trans hx)
          have B27 := B26.out.ext hx
          have b20 := B27.cell 0
          have b21 := B27.cell 1
          have b2l := B27.lt
          have b2f := B27.frozen 0
          have b2g := B27.frozen 1
          clear hx
          go_wp2
          refine bodyPost_ret (v := .agg #[.string (bytesF k l I), .int .i64 0]) (by rw [HBY.out]; simp [results, Try.results35, go_sem, b20, b21]) rfl ?_
          exact ⟨rfl, (X7.out.set (Nat.le_succ _) _).set (Nat.le_succ _) _⟩
end Go.Proofs.Ytkkldciofndedaa

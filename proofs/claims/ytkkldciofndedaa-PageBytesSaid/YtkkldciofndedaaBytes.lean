/- page.Bytes. -/
import Derived.Test.YtkkldciofndedaaSb2
import Derived.Test.YtkkldciofndedaaAlg
namespace Go.Proofs.Ytkkldciofndedaa
open Go.RowKit
set_option linter.unusedVariables false

def bl (s : ByteArray) : List UInt8 := s.data.toList
def baOf (l : List UInt8) : ByteArray := ⟨l.toArray⟩
theorem bl_len (s : ByteArray) : (bl s).length = s.size := by simp [bl]
theorem baOf_bl (s : ByteArray) : baOf (bl s) = s := by simp [bl, baOf]
theorem bl_baOf (l : List UInt8) : bl (baOf l) = l := by simp [bl, baOf]
theorem bl_append (a b : ByteArray) : bl (a ++ b) = bl a ++ bl b := by simp [bl, ByteArray.data_append]
theorem baOf_append (a b : List UInt8) : baOf (a ++ b) = baOf a ++ baOf b := by
  apply ByteArray.ext
  rw [ByteArray.data_append]
  simp [baOf]
theorem baOf_size (l : List UInt8) : (baOf l).size = l.length := by simp [baOf, ByteArray.size]
def headL (k l n : Int) : List UInt8 := bl ((putS k 1 ++ putS l 4) ++ putS n 1)
def itemsL (I : List ByteArray) : List UInt8 := (I.map fun s => bl (textB s)).flatten
def bodyL (k l : Int) (I : List ByteArray) : List UInt8 := (headL k l I.length ++ itemsL I) ++ List.replicate (504 - (6 + sizeT I)) 0 ++ bl (putS l 4)
def bytesF (k l : Int) (I : List ByteArray) : ByteArray := putS (sumF (baOf (bodyL k l I))) 4 ++ baOf (bodyL k l I)
theorem headL_len (k l n : Int) : (headL k l n).length = 6 := by
  rw [headL, bl_len, ByteArray.size_append, ByteArray.size_append, putS_size _ _ (by omega), putS_size _ _ (by omega), putS_size _ _ (by omega)]
theorem textB_size (s : ByteArray) : (textB s).size = 2 + s.size := by rw [textB, ByteArray.size_append, putS_size _ _ (by omega)]
theorem itemsL_len (I : List ByteArray) : (itemsL I).length = sizeT I := by
  induction I with
  | nil => rfl
  | cons a I ih =>
    have e : itemsL (a :: I) = bl (textB a) ++ itemsL I := by simp [itemsL]
    have e2 : sizeT (a :: I) = (2 + a.size) + sizeT I := by simp [sizeT]
    rw [e, List.length_append, ih, bl_len, textB_size, e2]
theorem itemsL_snoc (I : List ByteArray) (j : Nat) (h : j < I.length) : itemsL (I.take (j + 1)) = itemsL (I.take j) ++ bl (textB I[j]) := by
  rw [List.take_succ_eq_append_getElem h, itemsL, List.map_append, List.flatten_append]
  simp [itemsL]
theorem bodyL_len (k l : Int) (I : List ByteArray) (h : 6 + sizeT I ≤ 504) : (bodyL k l I).length = 508 := by
  rw [bodyL, List.length_append, List.length_append, List.length_append, headL_len, itemsL_len, List.length_replicate, bl_len, putS_size _ _ (by omega)]
  omega
theorem cells_snoc (L : List UInt8) (s : ByteArray) : Lib.byteCells L ++ Lib.strCells s = Lib.byteCells (L ++ bl s) := by simp [Lib.byteCells, Lib.strCells, bl]
theorem repeatL_zero (n : Nat) : Lib.repeatL [0] n = List.replicate n (0 : UInt8) := by
  induction n with
  | zero => rfl
  | succ n ih => rw [Lib.repeatL, ih, List.replicate_succ]; rfl

theorem Ext.below {base : Nat} {x y z : World} (h : Ext x y) (k : Below base y z) (hb : x.heap.size ≤ base) : Ext x z :=
  ⟨k.os.trans h.out.os, k.tape.trans h.out.tape, k.output.trans h.out.output, Nat.le_trans h.size k.size, fun i hi => (k.block i (by omega)).trans (h.block hi)⟩
theorem sumF_lt (s : ByteArray) : sumF s < 4294967296 := by
  have h := adl_lt s.data.toList
  unfold sumF
  omega
theorem sizeT_take_le (I : List ByteArray) (j : Nat) : sizeT (I.take j) ≤ sizeT I := by
  have e := sizeT_append (I.take j) (I.drop j)
  rw [List.take_append_drop] at e
  omega

set_option maxRecDepth 100000 in
set_option maxHeartbeats 1000000 in
theorem bytes_not (k l : Int) (A : Option Addr) (n c : Nat) (ss : List ByteArray) (w : World) (hn : n = ss.length) (h : At w A (ss.map Value.string)) (hs : Small ss) (hr : rightB k l ss = false) :
    Calls Try.prog 27 #[.agg #[.int .i64 k, .int .i64 l, .slice A n c]] w (Ret1 (.tuple #[.string ByteArray.empty, .int .i64 22]) w) := by
  subst hn
  have H := Lib.hid h; clear h
  have HS := Lib.hid hs; clear hs
  have HR := Lib.hid hr; clear hr
  go_enter Try.func27, Try.ntmps27
  go_wp2_with fail
  refine (right_any _ _ _ _ _ _ (H.out.ext ((Ext.refl w).alloc _)) HS.out).mono ?_
  rw [HR.out]
  rintro e w1 ⟨rfl, hx⟩
  have X1 := Lib.hid (((Ext.refl w).alloc _).trans hx)
  clear hx
  go_wp2
  go_ret2
  exact ⟨rfl, X1.out⟩

set_option maxRecDepth 100000 in
set_option maxHeartbeats 4000000 in
theorem bytes_right (k l : Int) (A : Option Addr) (n c : Nat) (ss : List ByteArray) (w : World) (hn : n = ss.length) (h : At w A (ss.map Value.string)) (hr : rightB k l ss = true) :
    Calls Try.prog 27 #[.agg #[.int .i64 k, .int .i64 l, .slice A n c]] w (Ret1 (.tuple #[.string (bytesF k l (plainL ss)), .int .i64 0]) w) := by
  subst hn
  have H := Lib.hid h; clear h
  have HS := Lib.hid (right_small hr)
  obtain ⟨_, _, ⟨h24, h400⟩, h512⟩ := right_parts hr
  have HR := Lib.hid hr; clear hr
  obtain ⟨I, hI⟩ : ∃ I, I = plainL ss := ⟨_, rfl⟩
  have hIl : I.length ≤ 24 := by rw [hI, plainL_len]; have := trimN_le ss ss.length; omega
  have hI4 : ∀ s ∈ I, s.size ≤ 400 := fun s hs => h400 s (by rw [hI] at hs; exact List.mem_of_mem_take hs)
  have hIz : 6 + sizeT I ≤ 504 := by rw [sizeL, ← hI] at h512; omega
  have HI := Lib.hid hI
  have HI4 := Lib.hid hI4
  rw [← hI]
  clear hI h24 h400 h512 hI4
  go_enter Try.func27, Try.ntmps27
  go_wp2_with fail
  refine (right_any _ _ _ _ _ _ (H.out.ext ((Ext.refl w).alloc _)) HS.out).mono ?_
  rw [HR.out]
  rintro e w1 ⟨rfl, hx⟩
  replace H := Lib.hid (H.out.ext (((Ext.refl _).alloc _).trans hx))
  have B1 : Hid (Blk w1 (w.heap.size) 26 #[.int .i64 k, .int .i64 l, .slice A ss.length c]) := Lib.hid ((Blk.new' (by simp)).ext hx)
  have X1 := Lib.hid (((Ext.refl w).alloc _).trans hx)
  have hsz := X1.out.size
  have hszl := B1.out.lt
  clear hx
  have B1_0 : w1.cell? ⟨w.heap.size, 0, none⟩ = some (.int .i64 k) := B1.out.cell 0
  have B1_1 : w1.cell? ⟨w.heap.size, 1, none⟩ = some (.int .i64 l) := B1.out.cell 1
  have B1_2 : w1.cell? ⟨w.heap.size, 2, none⟩ = some (.slice A ss.length c) := B1.out.cell 2
  have B1_lt : w.heap.size < w1.heap.size := B1.out.lt
  go_wp2_with fail
  refine (plain_any _ _ _ _ (H.out.ext ((Ext.refl w1).alloc _)) HS.out.1).mono ?_
  rw [← HI.out]
  rintro e w2 ⟨rfl, ho, hx⟩
  replace B1 := Lib.hid ((B1.out.alloc _).ext hx)
  replace H := Lib.hid (H.out.ext (((Ext.refl _).alloc _).trans hx))
  replace X1 := Lib.hid (X1.out.trans (((Ext.refl _).alloc _).trans hx))
  have Bb : Hid (Blk w2 (w1.heap.size) 87 #[.pointer none, .slice none 0 0]) := Lib.hid ((Blk.new' (by simp)).ext hx)
  simp only [World.size_alloc] at ho
  have O2 := Lib.hid ho
  clear ho
  clear hx B1_0 B1_1 B1_2 B1_lt
  have SB := Lib.hid (SbS.new (base := w.heap.size) Bb.out hsz)
  have hsz2 := Nat.le_trans hsz (show w1.heap.size ≤ w2.heap.size from Nat.le_of_lt Bb.out.lt)
  go_wp2_with fail
  refine wp_region_U (by kernel_rfl) [0, 1, 3, 0, 8, 31, 63, 0, 128, 447, 1023, 2047] [11] (fun kz W => match kz with | 0 => Ext w2 W | _ => (SbS w.heap.size W w1.heap.size (Lib.byteCells (headL k l I.length)) ∧ Bw w.heap.size w1.heap.size w2 W)) (fun ix v σ W => match ix with | 0 => v = .pointer (some ⟨w.heap.size, 0, none⟩) | 1 => v = .int .i64 k | 2 => v = .string ((putS k 1)) | 3 => v = .pointer (some ⟨w.heap.size, 1, none⟩) | 4 => v = .int .i64 l | 5 => v = .string ((putS l 4)) | 6 => v = .string (putS k 1 ++ putS l 4) | 7 => v = .slice ((some ⟨w1.heap.size + 1, 0, none⟩)) I.length I.length | 8 => v = .int .i64 I.length | 9 => v = .string ((putS I.length 1)) | 10 => v = .string ((putS k 1 ++ putS l 4) ++ putS I.length 1) | 11 => v = .tuple #[.int .i64 6, .nilIface] | _ => True) (by kernel_rfl) (by kernel_rfl) (by decide) (by kernel_rfl) ?_ ?_ ?_ ?_ ?_ ?_ ?_
  · intro ix v σ σ' W hs h
    match ix, hs, h with
    | 0, hs, h => exact h
    | 1, hs, h => exact h
    | 2, hs, h => exact h
    | 3, hs, h => exact h
    | 4, hs, h => exact h
    | 5, hs, h => exact h
    | 6, hs, h => exact h
    | 7, hs, h => exact h
    | 8, hs, h => exact h
    | 9, hs, h => exact h
    | 10, hs, h => exact h
    | 11, hs, h => exact h
    | _ + 12, _, _ => trivial
  · exact (Ext.refl w2).drew
  · intro kz W W' h hx
    match kz, h with
    | 0, h => exact h.trans hx
    | _ + 1, h => exact ⟨h.1.ext hx, h.2.ext hx (Nat.le_trans hsz2 h.2.size)⟩
  · intro ix v σ W W' h hx
    match ix, h with
    | 0, h => exact h
    | 1, h => exact h
    | 2, h => exact h
    | 3, h => exact h
    | 4, h => exact h
    | 5, h => exact h
    | 6, h => exact h
    | 7, h => exact h
    | 8, h => exact h
    | 9, h => exact h
    | 10, h => exact h
    | 11, h => exact h
    | _ + 12, _ => trivial
  · refine ⟨⟨⟨⟨⟨⟨⟨⟨⟨⟨⟨⟨trivial, ?_⟩, ?_⟩, ?_⟩, ?_⟩, ?_⟩, ?_⟩, ?_⟩, ?_⟩, ?_⟩, ?_⟩, ?_⟩, ?_⟩
    · intro _ ρ W kz hS hJ hkl hbt hout hpre hpreN
      refine GSay.none rfl ?_
      have f1 : ρ (.tmp 1) = .pointer (some ⟨w.heap.size, 0, none⟩) := hout 1 (by kernel_rfl)
      exact DoesU.value (v := .pointer (some ⟨w.heap.size, 0, none⟩)) (w' := W) (by simp [go_sem, f1]) ⟨rfl, Ext.refl _⟩
    · intro _ ρ W kz hS hJ hkl hbt hout hpre hpreN
      obtain rfl : kz = 0 := by have := hbt 0 0 (by kernel_rfl); omega
      have hx : Ext _ W := hJ
      refine GSay.none rfl ?_
      have f14 : ρ (.tmp 14) = .pointer (some ⟨w.heap.size, 0, none⟩) := hpre 0 14 (by kernel_rfl)
      exact DoesU.value (v := .int .i64 k) (w' := W) (by simp [go_sem, f14, (show W.cell? ⟨w.heap.size, 0, none⟩ = some (.int .i64 k) from ((B1.out.ext hx)).cell 0)]) ⟨rfl, Ext.refl _⟩
    · intro _ ρ W kz hS hJ hkl hbt hout hpre hpreN
      obtain rfl : kz = 0 := by have := hbt 0 0 (by kernel_rfl); omega
      have hx : Ext _ W := hJ
      refine GSay.none rfl ?_
      have f15 : ρ (.tmp 15) = .int .i64 k := hpre 1 15 (by kernel_rfl)
      refine DoesU.call (f := 36) (args := #[.int .i64 k, .int .i64 1]) (w' := W) (by simp [go_sem, hS.func, f15, hS.const]) ?_
      refine (oput1_any _ _).mono ?_
      rintro e w6 ⟨rfl, hx6⟩
      exact ⟨_, rfl, rfl, hx6⟩
    · intro _ ρ W kz hS hJ hkl hbt hout hpre hpreN
      refine GSay.none rfl ?_
      have f1 : ρ (.tmp 1) = .pointer (some ⟨w.heap.size, 0, none⟩) := hout 1 (by kernel_rfl)
      exact DoesU.value (v := .pointer (some ⟨w.heap.size, 1, none⟩)) (w' := W) (by simp [go_sem, f1]) ⟨rfl, Ext.refl _⟩
    · intro _ ρ W kz hS hJ hkl hbt hout hpre hpreN
      obtain rfl : kz = 0 := by have := hbt 0 0 (by kernel_rfl); omega
      have hx : Ext _ W := hJ
      refine GSay.none rfl ?_
      have f17 : ρ (.tmp 17) = .pointer (some ⟨w.heap.size, 1, none⟩) := hpre 3 17 (by kernel_rfl)
      exact DoesU.value (v := .int .i64 l) (w' := W) (by simp [go_sem, f17, (show W.cell? ⟨w.heap.size, 1, none⟩ = some (.int .i64 l) from ((B1.out.ext hx)).cell 1)]) ⟨rfl, Ext.refl _⟩
    · intro _ ρ W kz hS hJ hkl hbt hout hpre hpreN
      obtain rfl : kz = 0 := by have := hbt 0 0 (by kernel_rfl); omega
      have hx : Ext _ W := hJ
      refine GSay.none rfl ?_
      have f18 : ρ (.tmp 18) = .int .i64 l := hpre 4 18 (by kernel_rfl)
      refine DoesU.call (f := 36) (args := #[.int .i64 l, .int .i64 4]) (w' := W) (by simp [go_sem, hS.func, f18, hS.const]) ?_
      refine (oput4_any _ _).mono ?_
      rintro e w6 ⟨rfl, hx6⟩
      exact ⟨_, rfl, rfl, hx6⟩
    · intro _ ρ W kz hS hJ hkl hbt hout hpre hpreN
      obtain rfl : kz = 0 := by have := hbt 0 0 (by kernel_rfl); omega
      have hx : Ext _ W := hJ
      refine GSay.none rfl ?_
      have f16 : ρ (.tmp 16) = .string ((putS k 1)) := hpre 2 16 (by kernel_rfl)
      have f19 : ρ (.tmp 19) = .string ((putS l 4)) := hpre 5 19 (by kernel_rfl)
      have q1 := putS_size k 1 (by omega); have q2 := putS_size l 4 (by omega)
      exact DoesU.value (v := .string (putS k 1 ++ putS l 4)) (w' := W) (by simp [go_sem, f16, f19, q1, q2]) ⟨rfl, Ext.refl _⟩
    · intro _ ρ W kz hS hJ hkl hbt hout hpre hpreN
      refine GSay.none rfl ?_
      have f5 : ρ (.tmp 5) = .slice ((some ⟨w1.heap.size + 1, 0, none⟩)) I.length I.length := hout 5 (by kernel_rfl)
      exact DoesU.value (v := .slice ((some ⟨w1.heap.size + 1, 0, none⟩)) I.length I.length) (w' := W) (by simp [go_sem, f5]) ⟨rfl, Ext.refl _⟩
    · intro _ ρ W kz hS hJ hkl hbt hout hpre hpreN
      refine GSay.none rfl ?_
      have f21 : ρ (.tmp 21) = .slice ((some ⟨w1.heap.size + 1, 0, none⟩)) I.length I.length := hpre 7 21 (by kernel_rfl)
      exact DoesU.value (v := .int .i64 I.length) (w' := W) (by simp [go_sem, f21]) ⟨rfl, Ext.refl _⟩
    · intro _ ρ W kz hS hJ hkl hbt hout hpre hpreN
      obtain rfl : kz = 0 := by have := hbt 0 0 (by kernel_rfl); omega
      have hx : Ext _ W := hJ
      refine GSay.none rfl ?_
      have f22 : ρ (.tmp 22) = .int .i64 I.length := hpre 8 22 (by kernel_rfl)
      refine DoesU.call (f := 36) (args := #[.int .i64 I.length, .int .i64 1]) (w' := W) (by simp [go_sem, hS.func, f22, hS.const]) ?_
      refine (oput1_any _ _).mono ?_
      rintro e w6 ⟨rfl, hx6⟩
      exact ⟨_, rfl, rfl, hx6⟩
    · intro _ ρ W kz hS hJ hkl hbt hout hpre hpreN
      obtain rfl : kz = 0 := by have := hbt 0 0 (by kernel_rfl); omega
      have hx : Ext _ W := hJ
      refine GSay.none rfl ?_
      have f20 : ρ (.tmp 20) = .string (putS k 1 ++ putS l 4) := hpre 6 20 (by kernel_rfl)
      have f23 : ρ (.tmp 23) = .string ((putS I.length 1)) := hpre 9 23 (by kernel_rfl)
      have q1 := putS_size k 1 (by omega); have q2 := putS_size l 4 (by omega); have q3 := putS_size I.length 1 (by omega)
      exact DoesU.value (v := .string ((putS k 1 ++ putS l 4) ++ putS I.length 1)) (w' := W) (by simp [go_sem, f20, f23, q1, q2, q3]) ⟨rfl, Ext.refl _⟩
    · intro hz; exact absurd (by decide) hz
  · refine ⟨trivial, ?_⟩
    · intro ρ W hS hJ hout hpre hpreN
      refine ⟨rfl, ?_⟩
      have f4 : ρ (.tmp 4) = .pointer (some ⟨w1.heap.size, 0, none⟩) := hout 4 (by kernel_rfl)
      have f24 : ρ (.tmp 24) = .string ((putS k 1 ++ putS l 4) ++ putS I.length 1) := hpre 10 24 (by kernel_rfl)
      have hx : Ext _ W := hJ
      refine DoesU.call (f := 47) (args := #[.pointer (some ⟨w1.heap.size, 0, none⟩), .string ((putS k 1 ++ putS l 4) ++ putS I.length 1)]) (w' := W) (by simp [go_sem, hS.func, f4, f24]) ?_
      have hql := headL_len k l I.length
      rw [headL, bl_len] at hql
      refine (sbw_any w.heap.size w1.heap.size _ _ W (SB.out.ext hx) (by rw [hql]; decide) (Nat.le_trans hsz2 hx.size)).mono ?_
      rw [hql]
      rintro e w6 ⟨rfl, hs6, hb6⟩
      exact ⟨_, rfl, rfl, ⟨hs6, (Bw.of_ext hx hsz2).trans hb6⟩, fun jz u σ hj h => match jz, hj, h with | 0, _, h => h | 1, _, h => h | 2, _, h => h | 3, _, h => h | 4, _, h => h | 5, _, h => h | 6, _, h => h | 7, _, h => h | 8, _, h => h | 9, _, h => h | 10, _, h => h | 11, hj, _ => absurd rfl hj | _ + 12, _, _ => trivial⟩
  intro vs w3 σ hl hσ hD hN hJ
  replace hl := hl.trans (show (idxU _).length = 12 by kernel_rfl)
  rcases vs with _ | ⟨v14, vs⟩; · simp at hl
  rcases vs with _ | ⟨v15, vs⟩; · simp at hl
  rcases vs with _ | ⟨v16, vs⟩; · simp at hl
  rcases vs with _ | ⟨v17, vs⟩; · simp at hl
  rcases vs with _ | ⟨v18, vs⟩; · simp at hl
  rcases vs with _ | ⟨v19, vs⟩; · simp at hl
  rcases vs with _ | ⟨v20, vs⟩; · simp at hl
  rcases vs with _ | ⟨v21, vs⟩; · simp at hl
  rcases vs with _ | ⟨v22, vs⟩; · simp at hl
  rcases vs with _ | ⟨v23, vs⟩; · simp at hl
  rcases vs with _ | ⟨v24, vs⟩; · simp at hl
  rcases vs with _ | ⟨v25, vs⟩; · simp at hl
  obtain rfl : vs = [] := List.eq_nil_of_length_eq_zero (by simpa using hl)
  clear hl
  obtain rfl : v14 = .pointer (some ⟨w.heap.size, 0, none⟩) := hD 0 0 v14 (by kernel_rfl) rfl
  obtain rfl : v15 = .int .i64 k := hD 1 1 v15 (by kernel_rfl) rfl
  obtain rfl : v16 = .string ((putS k 1)) := hD 2 2 v16 (by kernel_rfl) rfl
  obtain rfl : v17 = .pointer (some ⟨w.heap.size, 1, none⟩) := hD 3 3 v17 (by kernel_rfl) rfl
  obtain rfl : v18 = .int .i64 l := hD 4 4 v18 (by kernel_rfl) rfl
  obtain rfl : v19 = .string ((putS l 4)) := hD 5 5 v19 (by kernel_rfl) rfl
  obtain rfl : v20 = .string (putS k 1 ++ putS l 4) := hD 6 6 v20 (by kernel_rfl) rfl
  obtain rfl : v21 = .slice ((some ⟨w1.heap.size + 1, 0, none⟩)) I.length I.length := hD 7 7 v21 (by kernel_rfl) rfl
  obtain rfl : v22 = .int .i64 I.length := hD 8 8 v22 (by kernel_rfl) rfl
  obtain rfl : v23 = .string ((putS I.length 1)) := hD 9 9 v23 (by kernel_rfl) rfl
  obtain rfl : v24 = .string ((putS k 1 ++ putS l 4) ++ putS I.length 1) := hD 10 10 v24 (by kernel_rfl) rfl
  obtain rfl : v25 = .tuple #[.int .i64 6, .nilIface] := hD 11 11 v25 (by kernel_rfl) rfl
  clear hD hN hσ
  rw [show dstsU _ = [14, 15, 16, 17, 18, 19, 20, 21, 22, 23, 24, 25] by kernel_rfl]
  simp only [putAll, List.setIfInBounds_toArray, List.set_cons_succ, List.set_cons_zero]
  have S3 := Lib.hid hJ.1
  have W3 := Lib.hid hJ.2
  clear hJ SB Bb
  go_wp2
  go_loopw [28] (fun v wr => ∃ j : Nat, v = .int .i64 j ∧ j ≤ I.length ∧ SbS w.heap.size wr w1.heap.size (Lib.byteCells (headL k l I.length ++ itemsL (I.take j))) ∧ Bw w.heap.size w1.heap.size w2 wr) (fun v _ => I.length - (intOf v).toNat)
  case atStart => exact ⟨0, rfl, Nat.zero_le _, by simpa [itemsL] using S3.out, W3.out⟩
  case round =>
    obtain ⟨j, rfl, hj, hsb, hbw⟩ := hrel
    have SR := Lib.hid hsb
    have WR := Lib.hid hbw
    have hszr := Nat.le_trans hsz2 hbw.size
    have OR := Lib.hid (own_bw O2.out hbw (by decide) (by simp [Value.ownBlock]))
    clear hsb hbw
    have hlj : (headL k l I.length ++ itemsL (I.take j)).length ≤ 600 := by
      rw [List.length_append, headL_len, itemsL_len]
      have := sizeT_take_le I j
      omega
    rcases Nat.lt_or_ge j I.length with hlt | hge
    · have hcell := (At.of_own OR.out).get0 (k := j) (by simpa using hlt)
      rw [List.getElem_map] at hcell
      have hs4 := HI4.out _ (List.getElem_mem hlt)
      have HSn := Lib.hid (itemsL_snoc I j hlt)
      obtain ⟨s, hs⟩ : ∃ s, s = I[j] := ⟨_, rfl⟩
      rw [← hs] at hcell hs4 HSn
      have i1 : (0 : Int) ≤ (j : Int) := by omega
      have i2 : (j : Int) < (I.length : Int) := by omega
      clear hs
      go_wp2_with fail
      refine (otextf_any s _ (by omega)).mono ?_
      rintro e w4 ⟨rfl, hx⟩
      have X4 := Lib.hid hx
      have hw4 := hx.size
      clear hx hcell
      go_wp2_with fail
      refine (sbw_any w.heap.size w1.heap.size _ _ _ (SR.out.ext X4.out) (by rw [Lib.byteCells_length, textB_size]; omega) (by omega)).mono ?_
      rintro e w5 ⟨rfl, hs5, hb5⟩
      have S5 := Lib.hid hs5
      have W5 := Lib.hid ((WR.out.ext X4.out hszr).trans hb5)
      clear hs5 hb5
      go_wp2
      go_roundw
      case rel => exact ⟨j + 1, by go_num, by omega, by rw [HSn.out, ← List.append_assoc, ← cells_snoc]; exact S5.out, W5.out⟩
      case measure => simp [intOf]; omega
    · obtain rfl : j = I.length := by omega
      rw [List.take_length] at SR hlj
      have hL : (headL k l I.length ++ itemsL I).length = 6 + sizeT I := by rw [List.length_append, headL_len, itemsL_len]
      obtain ⟨L, hLd⟩ : ∃ L, L = headL k l I.length ++ itemsL I := ⟨_, rfl⟩
      rw [← hLd] at SR hL
      have HL := Lib.hid hLd
      obtain ⟨z, hz⟩ : ∃ z : Nat, z = 504 - (6 + sizeT I) := ⟨_, rfl⟩
      have hzi : (504 : Int) - (L.length : Int) = (z : Int) := by omega
      have HZI := Lib.hid hzi
      have HZW := Lib.hid (show wrap64 (z : Int) = (z : Int) from IntWalk.wrap64_in _ ⟨by omega, by omega⟩)
      have HZ := Lib.hid hz
      have HLn := Lib.hid hL
      have hz5 : z ≤ 504 := by omega
      have B1r : Blk wr w.heap.size 26 #[.int .i64 k, .int .i64 l, .slice A ss.length c] := WR.out.other _ _ _ (by omega) (by decide) B1.out
      have b11 : wr.cell? ⟨w.heap.size, 1, none⟩ = some (.int .i64 l) := B1r.cell 1
      have hb1lt := B1r.lt
      have HB1 := Lib.hid B1r
      clear hge hlj hLd hz hzi hL B1r
      go_wp2_with fail
      refine (sblen_any w.heap.size _ _ _ SR.out).mono ?_
      rintro e w4 ⟨rfl, rfl⟩
      rw [Lib.byteCells_length]
      go_wp2_with fail
      rw [HZI.out, HZW.out]
      refine (Try.strings_Repeat ⟨#[0]⟩ z wr (by omega) (by show 1 * z ≤ _; omega)).mono ?_
      rintro e w4 ⟨rfl, hx⟩
      have X4 := Lib.hid (show Ext wr w4 from hx)
      have hw4 : wr.heap.size ≤ w4.heap.size := hx.size
      have ez : (⟨(Lib.repeatL (⟨#[0]⟩ : ByteArray).data.toList z).toArray⟩ : ByteArray) = baOf (List.replicate z 0) := by rw [← repeatL_zero]; rfl
      have EZ := Lib.hid ez
      obtain ⟨zs, hzs⟩ : ∃ zs, zs = baOf (List.replicate z (0 : UInt8)) := ⟨_, rfl⟩
      rw [ez, ← hzs]
      have hzz : zs.size = z := by rw [hzs, baOf_size, List.length_replicate]
      have HZS := Lib.hid hzs
      clear hx ez hzs b11
      go_wp2_with fail
      refine (sbw_any w.heap.size w1.heap.size _ _ _ (SR.out.ext X4.out) (by rw [Lib.byteCells_length, HLn.out, hzz]; omega) (by omega)).mono ?_
      rw [cells_snoc]
      rintro e w5 ⟨rfl, hs5, hb5⟩
      have S5 := Lib.hid hs5
      have W5 := Lib.hid ((WR.out.ext X4.out hszr).trans hb5)
      have B15 := W5.out.other _ _ _ (by omega) (by decide) B1.out
      have b11 : w5.cell? ⟨w.heap.size, 1, none⟩ = some (.int .i64 l) := B15.cell 1
      have hw5 := Nat.le_trans hw4 hb5.size
      clear hs5 hb5 B15
      go_wp2_with fail
      refine (oput4_any _ _).mono ?_
      rintro e w6 ⟨rfl, hx⟩
      have X6 := Lib.hid hx
      have hw6 : w5.heap.size ≤ w6.heap.size := hx.size
      have hps := putS_size l 4 (by omega)
      clear hx b11
      go_wp2_with fail
      refine (sbw_any w.heap.size w1.heap.size _ _ _ (S5.out.ext X6.out) (by rw [Lib.byteCells_length, List.length_append, HLn.out, bl_len, hzz, hps]; omega) (by omega)).mono ?_
      rw [cells_snoc]
      rintro e w7 ⟨rfl, hs7, hb7⟩
      have W7 := Lib.hid ((W5.out.ext X6.out (by omega)).trans hb7)
      have XF := Lib.hid ((X1.out.trans (Ext.refl _)).bw W7.out (Nat.le_refl _))
      have SF := Lib.hid (Lib.IsBuilderF.of hs7.is)
      have hle : (L ++ bl zs) ++ bl (putS l 4) = bodyL k l I := by rw [HL.out, HZS.out, HZ.out, bl_baOf, bodyL]
      rw [hle] at SF
      have hbl := bodyL_len k l I hIz
      have hps4 := putS_size (sumF (baOf (bodyL k l I))) 4 (by omega)
      have hbs := baOf_size (bodyL k l I)
      have hsz7 : w.heap.size ≤ w7.heap.size := Nat.le_trans (by omega) hb7.size
      obtain ⟨b, hb⟩ : ∃ b, b = bodyL k l I := ⟨_, rfl⟩
      have HB := Lib.hid hb
      rw [← hb] at SF hbl hps4 hbs
      clear hle hb hs7 hb7
      go_wp2_with fail
      refine (sbstr_any w.heap.size w1.heap.size _ _ SF.out hsz7).mono ?_
      rintro e w8 ⟨rfl, hf8, hx8⟩
      have SF8 := Lib.hid hf8
      have XF8 := Lib.hid (XF.out.below hx8 (Nat.le_refl _))
      have hsz8 := XF8.out.size
      have eb : (⟨b.toArray⟩ : ByteArray) = baOf b := rfl
      rw [eb]
      clear hf8 hx8 eb
      go_wp2_with fail
      refine (osum_any _ _ (by rw [hbs]; omega)).mono ?_
      rintro e w9 ⟨rfl, hx9⟩
      have SF9 := Lib.hid (sbF_ext SF8.out hx9)
      have XF9 := Lib.hid (XF8.out.trans hx9)
      have hsz9 := XF9.out.size
      clear hx9
      go_wp2_with fail
      rw [show wrap64 (sumF (baOf b) : Int) = (sumF (baOf b) : Int) from IntWalk.wrap64_in _ ⟨by have := sumF_lt (baOf b); omega, by have := sumF_lt (baOf b); omega⟩]
      refine (oput4_any _ _).mono ?_
      rintro e w10 ⟨rfl, hx10⟩
      have SF10 := Lib.hid (sbF_ext SF9.out hx10)
      have XF10 := Lib.hid (XF9.out.trans hx10)
      have hsz10 := XF10.out.size
      clear hx10
      go_wp2_with fail
      refine (sbstr_any w.heap.size w1.heap.size _ _ SF10.out hsz10).mono ?_
      rintro e w11 ⟨rfl, hf11, hx11⟩
      have XF11 := Lib.hid (XF10.out.below hx11 (Nat.le_refl _))
      have eb : (⟨b.toArray⟩ : ByteArray) = baOf b := rfl
      rw [eb]
      clear hf11 hx11 eb
      go_wp2
      go_ret2
      have hby : bytesF k l I = putS (sumF (baOf (bodyL k l I))) 4 ++ baOf (bodyL k l I) := rfl
      rw [hby, ← HB.out]
      exact ⟨rfl, XF11.out⟩
end Go.Proofs.Ytkkldciofndedaa

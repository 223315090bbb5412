/- Pages filled with one item; texts of a page's bytes; octet.Read. -/
import Derived.Test.YtkkldciofndedaaRound
import Derived.Test.YtkkldciofndedaaPageOrder
namespace Go.Proofs.Ytkkldciofndedaa
open Go.RowKit
set_option linter.unusedVariables false

def rep (m : Nat) (z : ByteArray) : List ByteArray := List.replicate m z
theorem rep_len (m : Nat) (z : ByteArray) : (rep m z).length = m := by rw [rep, List.length_replicate]
theorem rep_item {m j : Nat} {z : ByteArray} (h : j < m) : itemF (rep m z) j = z := by rw [item_in (by rw [rep_len]; exact h)]; simp [rep]
theorem rep_out {m j : Nat} {z : ByteArray} (h : m ≤ j) : itemF (rep m z) j = ByteArray.empty := item_out (by rw [rep_len]; exact h)
theorem emp_of {z : ByteArray} (hz : 0 < z.size) : emp z = false := by
  rcases h : emp z with _ | _
  · rfl
  · have := (emp_size z).1 h; omega
theorem emp_e : emp ByteArray.empty = true := (emp_iff _).2 rfl
theorem rep_plain (m : Nat) {z : ByteArray} (hz : 0 < z.size) : plainL (rep m z) = rep m z := by
  rcases Nat.eq_zero_or_pos m with rfl | h
  · rfl
  · have hne : rep m z ≠ [] := by intro e; have := congrArg List.length e; rw [rep_len] at this; simp at this; omega
    refine plain_full hne ?_
    have : (rep m z).getLast hne = z := List.eq_of_mem_replicate (List.getLast_mem hne)
    rw [this]; exact emp_of hz
theorem rep_sizeT (m : Nat) (z : ByteArray) : sizeT (rep m z) = m * (2 + z.size) := by
  simp [sizeT, rep]
theorem rep_size (m : Nat) {z : ByteArray} (hz : 0 < z.size) : sizeL (rep m z) = 14 + m * (2 + z.size) := by rw [sizeL, rep_plain m hz, rep_sizeT]
theorem rep_long (m : Nat) {z : ByteArray} (h4 : z.size ≤ 400) : longB (rep m z) = false := by
  rcases h : longB (rep m z) with _ | _
  · rfl
  · rw [longB, List.any_eq_true] at h
    obtain ⟨x, hx, h⟩ := h
    rw [List.eq_of_mem_replicate hx] at h
    simp at h; omega
theorem rep_right {m : Nat} {z : ByteArray} (hz : 0 < z.size) (h4 : z.size ≤ 400) (hm : m ≤ 24) (hs : 14 + m * (2 + z.size) ≤ 512) : rightB 1 0 (rep m z) = true := by
  simp [rightB, rep_len, rep_long m h4, rep_size m hz, hm, hs]
theorem rep_free {m : Nat} {z : ByteArray} (hz : 0 < z.size) (hm : m ≤ 24) (hr : rightB 1 0 (rep m z) = true) : freeF 1 0 (rep m z) 0 = if m < 24 then (m : Int) else -1 := by
  have e : freeF 1 0 (rep m z) 0 = frL (rep m z) 24 0 := by rw [freeF, hr, if_pos rfl]; rfl
  rw [e]
  rcases frL_spec (rep m z) 24 0 with ⟨h1, h2⟩ | ⟨j, h1, h2, h3, h4, h5⟩
  · rw [h1, if_neg]
    intro hlt
    have := h2 m (by omega) (by omega)
    rw [rep_out (Nat.le_refl _), emp_e] at this
    cases this
  · have : m = j := by
      rcases Nat.lt_trichotomy j m with h | h | h
      · rw [rep_item h, emp_of hz] at h4; cases h4
      · exact h.symm
      · have := h5 m (by omega) h
        rw [rep_out (Nat.le_refl _), emp_e] at this
        cases this
    subst this
    rw [h1, if_pos (by omega)]
theorem rep_room {m : Nat} {z : ByteArray} (hz : 0 < z.size) (h4 : z.size ≤ 400) (hm : m ≤ 24) (hr : rightB 1 0 (rep m z) = true) :
    (z.size : Int) ≤ roomF 1 0 (rep m z) ↔ m < 24 ∧ 14 + (m + 1) * (2 + z.size) ≤ 512 := by
  have e : (m + 1) * (2 + z.size) = m * (2 + z.size) + (2 + z.size) := Nat.succ_mul _ _
  rw [roomF, rep_free hz hm hr, rep_plain m hz, rep_len, rep_size m hz, e]
  obtain ⟨y, hy⟩ : ∃ y, y = m * (2 + z.size) := ⟨_, rfl⟩
  rw [← hy]
  by_cases h : m < 24
  · rw [if_pos h, if_neg (by omega), if_pos (by omega)]
    constructor
    · intro h1; omega
    · intro h1; omega
  · rw [if_neg h, if_pos (by omega)]
    constructor
    · intro h1; omega
    · intro h1; omega
theorem rep_put {m : Nat} {z : ByteArray} (hz : 0 < z.size) : putL (rep m z) m z = rep (m + 1) z :=
  putL_ext (rep_plain _ hz) fun j => by
    by_cases h : j = m
    · rw [if_pos h, rep_item (by omega)]
    · rw [if_neg h]
      rcases Nat.lt_or_ge j m with h1 | h1
      · rw [rep_item h1, rep_item (by omega)]
      · rw [rep_out h1, rep_out (by omega)]
theorem rep_with {m : Nat} {z : ByteArray} (hz : 0 < z.size) : sizeL (withL (rep m z) m z) = 14 + (m + 1) * (2 + z.size) := by
  rw [← rep_size (m + 1) hz]
  refine sizeL_ext fun j => ?_
  rw [item_with]
  by_cases h : j = m
  · rw [if_pos h, rep_item (by omega)]
  · rw [if_neg h]
    rcases Nat.lt_or_ge j m with h1 | h1
    · rw [rep_item h1, rep_item (by omega)]
    · rw [rep_out h1, rep_out (by omega)]
theorem rep_err {m : Nat} {z : ByteArray} (hz : 0 < z.size) (h4 : z.size ≤ 400) (hr : rightB 1 0 (rep m z) = true) (hm : m < 24) (hs : 14 + (m + 1) * (2 + z.size) ≤ 512) : putErr 1 0 (rep m z) m z = 0 := by
  rw [putErr, hr, if_neg (by simp), if_neg (by omega), Int.toNat_natCast, rep_with hz, if_neg (by omega)]
theorem rep_putAny {m : Nat} {z : ByteArray} (hz : 0 < z.size) (h4 : z.size ≤ 400) (hr : rightB 1 0 (rep m z) = true) (hm : m < 24) (hs : 14 + (m + 1) * (2 + z.size) ≤ 512) (A : Option Addr) (c : Nat) (w : World) (h : At w A ((rep m z).map Value.string)) :
    Calls Try.prog 18 #[.agg #[.int .i64 1, .int .i64 0, .slice A m c], .int .i64 m, .string z] w (PgPost 1 0 (rep (m + 1) z) 0 w) := by
  have := put_any 1 0 A m c (rep m z) m z w (by rw [rep_len]) h (right_small hr) (by omega)
  have e := rep_err hz h4 hr hm hs
  rw [put_eq, putKind, putLsn, putItems, e, if_pos rfl, if_pos rfl, if_pos rfl, Int.toNat_natCast, show plainL (withL (rep m z) m z) = rep (m + 1) z from rep_put hz] at this
  exact this
theorem rep_stop {m : Nat} {z : ByteArray} (hz : 0 < z.size) (hs : 14 + m * (2 + z.size) ≤ 512) (hm : m ≤ 24) (h : ¬ (m < 24 ∧ 14 + (m + 1) * (2 + z.size) ≤ 512)) : m = min 24 (498 / (z.size + 2)) := by
  have h1 : m ≤ 498 / (z.size + 2) := by rw [Nat.le_div_iff_mul_le (by omega), Nat.add_comm z.size 2]; omega
  rcases Nat.lt_or_ge m 24 with h2 | h2
  · have h3 : 498 / (z.size + 2) < m + 1 := by
      rw [Nat.div_lt_iff_lt_mul (by omega), Nat.add_comm z.size 2]
      omega
    omega
  · omega

/-- the j-th text of a page's bytes -/
theorem bytes_text (k l : Int) (I : List ByteArray) (h : 6 + sizeT I ≤ 504) (j : Nat) (hj : j < I.length) :
    10 + sizeT (I.take j) + 2 ≤ (bytesF k l I).size ∧ 10 + sizeT (I.take j) + 2 + numS (bytesF k l I) (10 + sizeT (I.take j)) 2 ≤ (bytesF k l I).size ∧
      textS (bytesF k l I) (10 + sizeT (I.take j)) = I[j] ∧ 10 + sizeT (I.take j) + 2 + numS (bytesF k l I) (10 + sizeT (I.take j)) 2 = 10 + sizeT (I.take (j + 1)) := by
  have h1 := bytes_rtx k l I h j (by omega)
  have h2 := bytes_rtx k l I h (j + 1) (by omega)
  rw [rtx, h1] at h2
  simp only at h2
  split at h2
  · rename_i hc
    have e1 := congrArg Prod.fst (Option.some.inj h2)
    have e2 := congrArg Prod.snd (Option.some.inj h2)
    have e3 : I.take j ++ [textS (bytesF k l I) (10 + sizeT (I.take j))] = I.take (j + 1) := e1
    rw [List.take_succ_eq_append_getElem hj] at e3
    have e4 := List.append_cancel_left e3
    refine ⟨hc.1, hc.2, ?_, e2⟩
    injection e4
  · cases h2

set_option maxRecDepth 100000 in
set_option maxHeartbeats 1000000 in
theorem oread_any (s : ByteArray) (w : World) (hs : s.size ≤ 1000000) :
    Calls Try.prog 29 #[.string s] w fun e w' => e = .returned (.pointer (some ⟨w.heap.size, 0, none⟩)) ∧ Rd 95 w' w.heap.size s 0 false ∧ Ext w w' := by
  go_enter Try.func29, Try.ntmps29
  go_wp2
  go_ret
  exact ⟨rfl, ⟨Blk.new' rfl, Nat.zero_le _, hs⟩, (Ext.refl _).alloc _⟩
end Go.Proofs.Ytkkldciofndedaa

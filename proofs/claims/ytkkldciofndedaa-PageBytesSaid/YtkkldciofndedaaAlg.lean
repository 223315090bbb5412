/- Plain: the items of a page as a function of the slot; what a page with an item put in holds; putting twice, in either order. -/
import Derived.Test.YtkkldciofndedaaRoomPlain
namespace Go.Proofs.Ytkkldciofndedaa
open Go.RowKit
set_option linter.unusedVariables false

theorem item_out {ss : List ByteArray} {i : Nat} (h : ss.length ≤ i) : itemF ss i = ByteArray.empty := by
  rw [item_get]; simp [List.getD, List.getElem?_eq_none h]
theorem item_in {ss : List ByteArray} {i : Nat} (h : i < ss.length) : itemF ss i = ss[i] := by
  rw [item_get]; simp [List.getD, h]
theorem item_plain (ss : List ByteArray) (i : Nat) : itemF (plainL ss) i = itemF ss i := by
  rcases Nat.lt_or_ge i (plainL ss).length with h | h
  · rw [item_in h, plain_get h]
  · rw [item_out h]
    rcases Nat.lt_or_ge i ss.length with g | g
    · rw [plainL_len] at h
      exact ((emp_iff _).1 (trimN_emp ss ss.length i h g)).symm
    · rw [item_out g]
theorem plain_le {ss ts : List ByteArray} (h : ∀ i : Nat, itemF ss i = itemF ts i) : (plainL ss).length ≤ (plainL ts).length := by
  rcases Nat.lt_or_ge (plainL ts).length (plainL ss).length with g | g
  · exfalso
    have h1 := trimN_last ss ss.length (by rw [← plainL_len]; omega)
    rw [← plainL_len, h, ← item_plain ts, item_out (by omega)] at h1
    rw [(emp_iff _).2 rfl] at h1
    cases h1
  · exact g
theorem plain_ext {ss ts : List ByteArray} (h : ∀ i : Nat, itemF ss i = itemF ts i) : plainL ss = plainL ts := by
  refine List.ext_getElem (Nat.le_antisymm (plain_le h) (plain_le fun i => (h i).symm)) fun i h1 h2 => ?_
  rw [plain_get h1, plain_get h2, h]
theorem plain_idem (ss : List ByteArray) : plainL (plainL ss) = plainL ss := plain_ext (item_plain ss)
theorem item_pad (l : List ByteArray) (n j : Nat) : itemF (padTo l n) j = itemF l j := by
  rcases Nat.lt_or_ge j l.length with h | h
  · rw [item_in h, item_in (by simp [padTo]; omega)]
    simp [padTo, h]
  · rw [item_out h]
    rcases Nat.lt_or_ge j (padTo l n).length with g | g
    · rw [item_in g]
      simp [padTo, List.getElem_append, Nat.not_lt.2 h]
    · rw [item_out g]
theorem item_with (ss : List ByteArray) (K : Nat) (s : ByteArray) (j : Nat) : itemF (withL ss K s) j = if j = K then s else itemF ss j := by
  have hK : K < (padTo (plainL ss) (K + 1)).length := by simp [padTo]; omega
  rw [← item_plain ss, ← item_pad (plainL ss) (K + 1) j, withL]
  by_cases h : j = K
  · subst h
    rw [if_pos rfl, item_in (by simpa using hK), List.getElem_set_self]
  · rw [if_neg h]
    rcases Nat.lt_or_ge j (padTo (plainL ss) (K + 1)).length with g | g
    · rw [item_in g, item_in (by simpa using g)]
      rw [List.getElem_set_ne (fun e => h e.symm)]
    · rw [item_out g, item_out (by simpa using g)]
theorem sizeL_ext {ss ts : List ByteArray} (h : ∀ i : Nat, itemF ss i = itemF ts i) : sizeL ss = sizeL ts := by
  unfold sizeL; rw [plain_ext h]
/-- the items behind a put -/
def putL (ss : List ByteArray) (K : Nat) (s : ByteArray) : List ByteArray := plainL (withL ss K s)
theorem item_put (ss : List ByteArray) (K : Nat) (s : ByteArray) (j : Nat) : itemF (putL ss K s) j = if j = K then s else itemF ss j := by
  rw [putL, item_plain, item_with]
theorem putL_plain (ss : List ByteArray) (K : Nat) (s : ByteArray) : plainL (putL ss K s) = putL ss K s := plain_idem _
theorem putL_ext {ss ts : List ByteArray} {K : Nat} {s : ByteArray} (ht : plainL ts = ts) (h : ∀ j : Nat, (if j = K then s else itemF ss j) = itemF ts j) : putL ss K s = ts := by
  rw [← ht, putL]
  exact plain_ext fun j => by rw [item_with]; exact h j
theorem put_comm (ss : List ByteArray) {i k : Nat} (h : i ≠ k) (x y : ByteArray) : putL (putL ss i x) k y = putL (putL ss k y) i x := by
  refine putL_ext (putL_plain _ _ _) fun j => ?_
  rw [item_put, item_put, item_put]
  by_cases h1 : j = k
  · subst h1; rw [if_pos rfl, if_neg (fun e => h e.symm), if_pos rfl]
  · rw [if_neg h1, if_neg h1]
theorem put_same (ss : List ByteArray) {k : Nat} (y : ByteArray) (hp : plainL ss = ss) (h : itemF ss k = y) : putL ss k y = ss := by
  refine putL_ext hp fun j => ?_
  by_cases h1 : j = k
  · subst h1; rw [if_pos rfl, h]
  · rw [if_neg h1]

/-- A put as a fact: of the old page (right), the slot, the item, the new page and the error. -/
structure PutSt (k l : Int) (ss : List ByteArray) (slot : Int) (s : ByteArray) (k' l' : Int) (ss' : List ByteArray) (er : Int) : Prop where
  err : er = putErr k l ss slot s
  right : rightB k' l' ss' = true
  ok : er = 0 → k' = k ∧ l' = l ∧ ss' = putL ss slot.toNat s ∧ 0 ≤ slot ∧ slot < 24 ∧ s.size ≤ 400
  bad : er ≠ 0 → k' = 0 ∧ l' = 0 ∧ ss' = []
theorem PutSt.okN {k l : Int} {ss : List ByteArray} {i : Nat} {s : ByteArray} {k' l' : Int} {ss' : List ByteArray} {er : Int} (h : PutSt k l ss i s k' l' ss' er) (hz : er = 0) : k' = k ∧ l' = l ∧ ss' = putL ss i s ∧ i < 24 ∧ s.size ≤ 400 := by
  obtain ⟨h1, h2, h3, h4, h5, h6⟩ := h.ok hz
  exact ⟨h1, h2, h3, by omega, h6⟩
theorem right_with {k l : Int} {ss : List ByteArray} (h : rightB k l ss = true) : sizeL ss ≤ 512 := (right_parts h).2.2.2
theorem PutSt.of {k l : Int} {ss : List ByteArray} {slot : Int} {s : ByteArray} (h : rightB k l ss = true) : PutSt k l ss slot s (putKind k l ss slot s) (putLsn k l ss slot s) (putItems k l ss slot s) (putErr k l ss slot s) := by
  by_cases he : putErr k l ss slot s = 0
  · refine ⟨rfl, ?_, fun _ => ?_, fun h' => absurd he h'⟩
    · rw [putKind, putLsn, putItems, if_pos he, if_pos he, if_pos he]; exact put_right h he
    · refine ⟨by rw [putKind, if_pos he], by rw [putLsn, if_pos he], by rw [putItems, if_pos he, putL], ?_⟩
      unfold putErr at he
      rw [h, if_neg (by simp)] at he
      split at he
      · omega
      · omega
  · refine ⟨rfl, ?_, fun h' => absurd h' he, fun _ => ⟨by rw [putKind, if_neg he], by rw [putLsn, if_neg he], by rw [putItems, if_neg he]⟩⟩
    rw [putKind, putLsn, putItems, if_neg he, if_neg he, if_neg he]
    exact right_nil (by omega) (by omega)
/-- a put that changes nothing goes well -/
theorem putErr_same {k l : Int} {ss : List ByteArray} {i : Nat} {y : ByteArray} (h : rightB k l ss = true) (hi : i < 24) (hy : y.size ≤ 400) (he : itemF ss i = y) : putErr k l ss i y = 0 := by
  have hs : sizeL (withL ss (Int.toNat i) y) = sizeL ss := sizeL_ext fun j => by
    rw [item_with, Int.toNat_natCast]
    by_cases hj : j = i
    · subst hj; rw [if_pos rfl, he]
    · rw [if_neg hj]
  unfold putErr
  rw [h, if_neg (by simp), if_neg (by omega), hs, if_neg (by have := right_with h; omega)]
theorem right_small {k l : Int} {ss : List ByteArray} (h : rightB k l ss = true) : Small ss := by
  have := (right_parts h).2.2.1
  exact ⟨by omega, fun x hx => by have := this.2 x hx; omega⟩

theorem same_self (k l : Int) (ss : List ByteArray) : sameB k l ss k l ss = true := by
  simp [sameB]
theorem order_law {k0 l0 k3 l3 k4 l4 k5 l5 k6 l6 : Int} {I Q R S T : List ByteArray} {i k : Nat} {x y : ByteArray} {e3 e4 e5 e6 : Int} (hik : i ≠ k)
    (h3 : PutSt k0 l0 I i x k3 l3 Q e3) (h4 : PutSt k3 l3 Q k y k4 l4 R e4) (h5 : PutSt k0 l0 I k y k5 l5 S e5) (h6 : PutSt k5 l5 S i x k6 l6 T e6)
    (z3 : e3 = 0) (z4 : e4 = 0) (z5 : e5 = 0) (z6 : e6 = 0) :
    sameB k4 l4 R k6 l6 T = true ∧ putErr k6 l6 T k y = 0 ∧ ∀ k7 l7 U e7, PutSt k6 l6 T k y k7 l7 U e7 → e7 = 0 ∧ sameB k7 l7 U k6 l6 T = true := by
  obtain ⟨rfl, rfl, rfl, a3⟩ := h3.okN z3
  obtain ⟨rfl, rfl, rfl, a4⟩ := h4.okN z4
  obtain ⟨rfl, rfl, rfl, a5⟩ := h5.okN z5
  have r6 := h6.right
  obtain ⟨rfl, rfl, rfl, a6⟩ := h6.okN z6
  have hT : itemF (putL (putL I k y) i x) k = y := by rw [item_put, if_neg (fun e => hik e.symm), item_put, if_pos rfl]
  have hz := putErr_same r6 (i := k) (y := y) (by omega) (by omega) hT
  refine ⟨?_, hz, fun k7 l7 U e7 h7 => ?_⟩
  · rw [put_comm I hik x y]; exact same_self _ _ _
  have h7z : e7 = 0 := by rw [h7.err]; exact hz
  have h8 := h7.okN h7z
  refine ⟨h7z, ?_⟩
  rw [h8.1, h8.2.1, h8.2.2.1, put_same _ y (putL_plain _ _ _) hT]
  exact same_self _ _ _

set_option maxRecDepth 100000 in
/-- Put at a right page, told as a fact. -/
theorem put_abs (k l : Int) (A : Option Addr) (n c : Nat) (ss : List ByteArray) (slot : Int) (s : ByteArray) (w : World) (hn : n = ss.length) (h : At w A (ss.map Value.string)) (hr : rightB k l ss = true) (hss : s.size ≤ 9223372036854775807) :
    Calls Try.prog 18 #[.agg #[.int .i64 k, .int .i64 l, .slice A n c], .int .i64 slot, .string s] w fun e w' =>
      ∃ k' l' ss' er A' c', e = .returned (.tuple #[.agg #[.int .i64 k', .int .i64 l', .slice A' (List.length ss') c'], .int .i64 er]) ∧ Hid (PutSt k l ss slot s k' l' ss' er) ∧
        Hid (w'.ownsRow w.heap.size 9 1 (.slice A' ss'.length c') ss'.length (ss'.map Value.string)) ∧ Hid (Ext w w') := by
  refine (put_any k l A n c ss slot s w hn h (right_small hr) hss).mono ?_
  rw [put_eq]
  rintro e w' ⟨A', c', rfl, hown, hx⟩
  exact ⟨_, _, _, _, A', c', rfl, Lib.hid (PutSt.of hr), Lib.hid hown, Lib.hid hx⟩
end Go.Proofs.Ytkkldciofndedaa

/- Plain: a made page has no empty items at its end; what PageItems asks. -/
import Derived.Test.YtkkldciofndedaaDo
import Derived.Test.YtkkldciofndedaaLawMade
namespace Go.Proofs.Ytkkldciofndedaa
open Go.RowKit
set_option linter.unusedVariables false

theorem madeL_plain (k l : Int) (ss : List ByteArray) : ∀ i, plainL (madeL k l ss i) = madeL k l ss i
  | 0 => rfl
  | i + 1 => by
    rw [madeL_succ]
    split
    · exact plain_idem _
    · exact madeL_plain k l ss i
theorem mkL_plain (k l : Int) (ss : List ByteArray) : plainL (mkL k l ss) = mkL k l ss := madeL_plain _ _ _ _
theorem item_small {k l : Int} {ss : List ByteArray} (h : rightB k l ss = true) (i : Nat) : (itemF ss i).size ≤ 400 := by
  rcases Nat.lt_or_ge i ss.length with g | g
  · rw [item_in g]; exact (right_parts h).2.2.1.2 _ (List.getElem_mem g)
  · rw [item_out g]; decide
/-- an item put back -/
theorem back_law {k l : Int} {I : List ByteArray} {i : Nat} {x : ByteArray} {k3 l3 : Int} {Q : List ByteArray} {e3 : Int} (hr : rightB k l I = true) (hp : plainL I = I) (h : PutSt k l I i x k3 l3 Q e3) (hz : e3 = 0) :
    k3 = k ∧ l3 = l ∧ Q = putL I i x ∧ putErr k3 l3 Q i (itemF I i) = 0 ∧ putKind k3 l3 Q i (itemF I i) = k ∧ putLsn k3 l3 Q i (itemF I i) = l ∧ putItems k3 l3 Q i (itemF I i) = I := by
  have hr3 := h.right
  obtain ⟨h1, h2, h3, hi, hx⟩ := h.okN hz
  have hs : ∀ j : Nat, itemF (withL Q (Int.toNat i) (itemF I i)) j = itemF I j := fun j => by
    rw [item_with, Int.toNat_natCast, h3, item_put]
    by_cases hj : j = i
    · subst hj; rw [if_pos rfl]
    · rw [if_neg hj, if_neg hj]
  have he : putErr k3 l3 Q i (itemF I i) = 0 := by
    unfold putErr
    rw [hr3, if_neg (by simp), if_neg (by have := item_small hr i; omega), sizeL_ext hs, if_neg (by have := right_with hr; omega)]
  refine ⟨h1, h2, h3, he, ?_, ?_, ?_⟩
  · rw [putKind, if_pos he, h1]
  · rw [putLsn, if_pos he, h2]
  · rw [putItems, if_pos he, plain_ext hs, hp]
/-- the one error of a put into a right page at a right slot -/
theorem only_room {k l : Int} {I : List ByteArray} {i : Nat} {x : ByteArray} {k3 l3 : Int} {Q : List ByteArray} {e3 : Int} (hr : rightB k l I = true) (hi : i < 24) (hx : x.size ≤ 400) (h : PutSt k l I i x k3 l3 Q e3) (hz : ¬ e3 = 0) : e3 = 20 ∧ Q = [] := by
  refine ⟨?_, (h.bad hz).2.2⟩
  rw [h.err] at hz ⊢
  unfold putErr at hz ⊢
  rw [hr, if_neg (by simp), if_neg (by omega)] at hz ⊢
  split
  · rfl
  · rename_i h5; rw [if_neg h5] at hz; exact absurd rfl hz
theorem do_eq {k l : Int} {I : List ByteArray} {i : Nat} {x : ByteArray} {k3 l3 : Int} {Q : List ByteArray} {e3 : Int} {lsn : Int} (h : PutSt k l I i x k3 l3 Q e3) (hz : e3 = 0) :
    putErr k l I i x = 0 ∧ putKind k l I i x = k ∧ doLsn k l I i x lsn = lsn ∧ putItems k l I i x = Q := by
  have he : putErr k l I i x = 0 := by rw [← h.err, hz]
  refine ⟨he, by rw [putKind, if_pos he], by rw [doLsn, if_pos he], ?_⟩
  obtain ⟨_, _, h3, _⟩ := h.okN hz
  rw [putItems, if_pos he, h3, Int.toNat_natCast, putL]
end Go.Proofs.Ytkkldciofndedaa

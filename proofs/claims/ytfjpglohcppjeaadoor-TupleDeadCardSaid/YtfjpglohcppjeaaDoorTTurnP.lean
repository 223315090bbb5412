/- Turning the ring of ids: every function of tuple goes along. -/
import Derived.Test.YtfjpglohcppjeaaDoorTOwn
namespace Go.Proofs.YtfjpglohcppjeaaDoor
open Go.RowKit
set_option linter.unusedVariables false
set_option linter.unusedSimpArgs false

theorem T_on {x k : Int} (hk : 0 ≤ k) : onF (turnF x k) = onF x := by
  cases h : onF x with
  | false => rw [turnF, if_neg (by simp [h]), h]
  | true =>
    rw [turnF, if_pos h, onF_iff]
    omega
theorem T_off {x k : Int} (h : onF x = false) : turnF x k = x := by rw [turnF, if_neg (by simp [h])]
theorem T_val {x k : Int} (h : onF x = true) : turnF x k = 3 + (x - 3 + k) % 125 := by rw [turnF, if_pos h]
theorem T_eq2 {x k : Int} (hk : 0 ≤ k) : (turnF x k = 2) ↔ x = 2 := by
  cases h : onF x with
  | false => rw [T_off h]
  | true =>
    have h2 := onF_iff.1 h
    rw [T_val h]; omega
theorem T_eq0 {x k : Int} (hk : 0 ≤ k) : (turnF x k = 0) ↔ x = 0 := by
  cases h : onF x with
  | false => rw [T_off h]
  | true =>
    have h2 := onF_iff.1 h
    rw [T_val h]; omega
theorem T_0 (k : Int) : turnF 0 k = 0 := T_off (by decide)
theorem T_b2 {x k : Int} (hk : 0 ≤ k) : (turnF x k == 2) = (x == 2) := by
  rw [Bool.eq_iff_iff, beq_iff_eq, beq_iff_eq]; exact T_eq2 hk
theorem T_b0 {x k : Int} (hk : 0 ≤ k) : (turnF x k == 0) = (x == 0) := by
  rw [Bool.eq_iff_iff, beq_iff_eq, beq_iff_eq]; exact T_eq0 hk
theorem T_n0 {x k : Int} (hk : 0 ≤ k) : (turnF x k != 0) = (x != 0) := by rw [bne, bne, T_b0 hk]
theorem T_before {a b k : Int} (hk : 0 ≤ k) : beforeF (turnF a k) (turnF b k) = beforeF a b := by
  by_cases h2 : a = 2
  · rw [beforeF, if_pos ((T_eq2 hk).2 h2), beforeF, if_pos h2, T_on hk]
  · rw [beforeF, if_neg (fun e => h2 ((T_eq2 hk).1 e)), beforeF, if_neg h2, T_on hk, T_on hk]
    cases ha : onF a with
    | false => simp
    | true =>
      cases hb : onF b with
      | false => simp
      | true =>
        have h3 := onF_iff.1 ha
        have h4 := onF_iff.1 hb
        have e : stepsF (turnF a k) (turnF b k) = stepsF a b := by
          rw [T_val ha, T_val hb, stepsF, stepsF]; omega
        rw [e]
theorem T_inj {x y k : Int} (hk : 0 ≤ k) (h : turnF x k = turnF y k) : x = y := by
  have h1 : onF x = onF y := by rw [← T_on (x := x) hk, ← T_on (x := y) hk, h]
  cases hx : onF x with
  | false => rw [T_off hx, T_off (by rw [← h1, hx])] at h; exact h
  | true =>
    have hy : onF y = true := by rw [← h1, hx]
    have h3 := onF_iff.1 hx
    have h4 := onF_iff.1 hy
    rw [T_val hx, T_val hy] at h
    omega
theorem T_con {ls : List Int} {x k : Int} (hk : 0 ≤ k) : (ls.map fun y => turnF y k).contains (turnF x k) = ls.contains x := by
  induction ls with
  | nil => rfl
  | cons a l ih =>
    rw [List.map_cons, List.contains_cons, List.contains_cons, ih]
    congr 1
    rw [Bool.eq_iff_iff, beq_iff_eq, beq_iff_eq]
    exact ⟨fun h => T_inj hk h, fun h => by rw [h]⟩
section
variable {k hi hz a b x : Int} {ls own : List Int} {g g' : Int → Int}
theorem T_ended (hk : 0 ≤ k) (hg : ∀ x, g' (turnF x k) = g x) : endedF (turnF hi k) (ls.map fun y => turnF y k) g' (turnF x k) = endedF hi ls g x := by
  by_cases h2 : x = 2
  · rw [endedF, if_pos ((T_eq2 hk).2 h2), endedF, if_pos h2]
  · rw [endedF, if_neg (fun e => h2 ((T_eq2 hk).1 e)), endedF, if_neg h2, T_on hk, T_before hk, T_con hk, hg]
theorem T_mine (hk : 0 ≤ k) (hg : ∀ x, g' (turnF x k) = g x) : mineF (own.map fun y => turnF y k) g' (turnF x k) = mineF own g x := by rw [mineF, mineF, T_con hk, hg]
theorem T_did (hk : 0 ≤ k) (hg : ∀ x, g' (turnF x k) = g x) : didF (turnF hi k) (ls.map fun y => turnF y k) (own.map fun y => turnF y k) g' (turnF x k) = didF hi ls own g x := by rw [didF, didF, T_mine hk hg, T_ended hk hg]
theorem T_bes (hk : 0 ≤ k) (hg : ∀ x, g' (turnF x k) = g x) : besF (turnF hi k) (ls.map fun y => turnF y k) (own.map fun y => turnF y k) g' (turnF x k) = besF hi ls own g x := by rw [besF, besF, T_on hk, T_con hk, hg, T_ended hk hg]
theorem T_vis (hk : 0 ≤ k) (hg : ∀ x, g' (turnF x k) = g x) : visF (turnF hi k) (ls.map fun y => turnF y k) (own.map fun y => turnF y k) g' (turnF a k) (turnF b k) = visF hi ls own g a b := by rw [visF, visF, T_did hk hg, T_did hk hg, T_n0 hk]
theorem T_bes1 (hk : 0 ≤ k) (hg : ∀ x, g' (turnF x k) = g x) : bes1F (turnF hi k) (ls.map fun y => turnF y k) (own.map fun y => turnF y k) g' (turnF a k) = turnF (bes1F hi ls own g a) k := by
  rw [bes1F, bes1F, T_bes hk hg]; split
  · rfl
  · exact (T_0 k).symm
theorem T_bes2 (hk : 0 ≤ k) (hg : ∀ x, g' (turnF x k) = g x) : bes2F (turnF hi k) (ls.map fun y => turnF y k) (own.map fun y => turnF y k) g' (turnF b k) = turnF (bes2F hi ls own g b) k := by
  rw [bes2F, bes2F, T_bes hk hg, T_n0 hk]; split
  · rfl
  · exact (T_0 k).symm
theorem T_busy (hk : 0 ≤ k) (hg : ∀ x, g' (turnF x k) = g x) : busyF (own.map fun y => turnF y k) g' (turnF b k) = turnF (busyF own g b) k := by
  rw [busyF, busyF, T_con hk, hg]; split
  · exact (T_0 k).symm
  · rfl
theorem T_old (hk : 0 ≤ k) (hg : ∀ x, g' (turnF x k) = g x) : oldF g' (turnF hz k) (turnF x k) = oldF g hz x := by rw [oldF, oldF, T_on hk, T_before hk, hg]
theorem T_dead (hk : 0 ≤ k) (hg : ∀ x, g' (turnF x k) = g x) : deadF g' (turnF hz k) (turnF a k) (turnF b k) = deadF g hz a b := by rw [deadF, deadF, hg, T_old hk hg]
theorem T_all (hk : 0 ≤ k) (hg : ∀ x, g' (turnF x k) = g x) : allF g' (turnF hz k) (turnF a k) (turnF b k) = allF g hz a b := by rw [allF, allF, T_b2 hk, T_old hk hg, T_b0 hk, hg]
theorem T_fzX (hk : 0 ≤ k) (hg : ∀ x, g' (turnF x k) = g x) : fzX g' (turnF b k) = fzX g b := by rw [fzX, fzX, T_n0 hk, hg]
end
/-- the states of the turned ring, as far as they are written -/
def rwT (bs : List Int) (by' : Nat) (n : Nat) : List Int := (List.range 125).map fun j => if (j + (125 - by')) % 125 < n then standF bs (3 + (((j + (125 - by')) % 125 : Nat) : Int)) else 0
theorem rwT_len (bs : List Int) (k n : Nat) : (rwT bs k n).length = 125 := by simp [rwT]
theorem rwT_0 (bs : List Int) (k : Nat) : rwT bs k 0 = List.replicate 125 0 := by
  apply List.ext_getElem
  · simp [rwT]
  · intro i h1 h2
    rw [List.getElem_replicate]
    simp only [rwT, List.getElem_map]
    rw [if_neg (by omega)]
theorem rwT_set (bs : List Int) (k i : Nat) (hk : k < 125) (h : i < 125) : (rwT bs k i).set ((i + k) % 125) (standF bs (3 + (i : Int))) = rwT bs k (i + 1) := by
  apply List.ext_getElem
  · simp [rwT]
  · intro j h1 h2
    simp only [rwT, List.length_set, List.length_map, List.length_range] at h1
    rw [List.getElem_set]
    simp only [rwT, List.getElem_map, List.getElem_range]
    by_cases e : (i + k) % 125 = j
    · have e2 : (j + (125 - k)) % 125 = i := by omega
      rw [if_pos e, e2, if_pos (by omega)]
    · have e2 : (j + (125 - k)) % 125 ≠ i := by omega
      rw [if_neg e]
      by_cases h3 : (j + (125 - k)) % 125 < i
      · rw [if_pos h3, if_pos (by omega)]
      · rw [if_neg h3, if_neg (by omega)]
theorem rwT_idx {x : Int} {k : Nat} (hx : 3 ≤ x ∧ x < 128) (hk : k < 125) : (turnF x k - 3).toNat = ((x - 3).toNat + k) % 125 := by
  rw [T_val (onF_iff.2 hx)]; omega
theorem T_state {bs : List Int} {k : Nat} (hk : k < 125) (x : Int) : standF (rwT bs k 125) (turnF x k) = standF bs x := by
  have hl := rwT_len bs k 125
  by_cases h2 : x = 2
  · subst h2
    rw [T_off (by decide), standF, if_pos rfl, standF, if_pos rfl]
  · by_cases hx : 3 ≤ x ∧ x < 128
    · have ho := onF_iff.2 hx
      have hv := T_val (k := (k : Int)) ho
      have e : ((turnF x k - 3) % ((rwT bs k 125).length : Int)).toNat = ((x - 3).toNat + k) % 125 := by rw [hl, hv]; omega
      rw [standF, if_neg (by omega), if_neg (by rw [hl]; omega), e]
      have hj : ((x - 3).toNat + k) % 125 < (rwT bs k 125).length := by rw [hl]; omega
      rw [List.getD_eq_getElem?_getD, List.getElem?_eq_getElem hj, Option.getD_some]
      simp only [rwT, List.getElem_map, List.getElem_range]
      have e2 : (((x - 3).toNat + k) % 125 + (125 - k)) % 125 = (x - 3).toNat := by omega
      rw [e2, if_pos (by omega)]
      have e3 : (3 : Int) + ((x - 3).toNat : Int) = x := by omega
      rw [e3]
      have := standF_bd bs x
      omega
    · have ho : onF x = false := by
        cases h : onF x with
        | false => rfl
        | true => exact absurd (onF_iff.1 h) hx
      rw [T_off ho, standF, if_neg h2, if_pos (by omega), standF, if_neg h2, if_pos (by omega)]
theorem rwT_u8 (bs : List Int) (k n : Nat) : ∀ b ∈ rwT bs k n, 0 ≤ b ∧ b ≤ 255 := by
  intro b hb
  simp only [rwT, List.mem_map, List.mem_range] at hb
  obtain ⟨j, _, rfl⟩ := hb
  split
  · have := standF_bd bs (3 + (((j + (125 - k)) % 125 : Nat) : Int)); omega
  · omega
end Go.Proofs.YtfjpglohcppjeaaDoor

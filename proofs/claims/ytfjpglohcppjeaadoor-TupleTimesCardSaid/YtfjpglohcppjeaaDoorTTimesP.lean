/- TupleTimes, plainly: what a running clock and a snapshot know of the ids that were given. -/
import Derived.Test.YtfjpglohcppjeaaDoorClW
namespace Go.Proofs.YtfjpglohcppjeaaDoor
open Go.RowKit
set_option linter.unusedVariables false
set_option linter.unusedSimpArgs false

def stK (lo : Int) (K : List Int) (k : Nat) : Int := K.getD (rAt lo k).toNat 0
theorem rAt_bd (lo : Int) (k : Nat) : 3 ≤ rAt lo k ∧ rAt lo k < 128 := by unfold rAt; omega
theorem rAt_ne {lo : Int} {j k : Nat} (h : j < k) (hk : k < j + 125) : rAt lo j ≠ rAt lo k := by unfold rAt; omega
theorem rAt_toNat_ne {lo : Int} {j k : Nat} (h : rAt lo j ≠ rAt lo k) : (rAt lo j).toNat ≠ (rAt lo k).toNat := by
  have := rAt_bd lo j; have := rAt_bd lo k; omega
theorem getD_set_self {K : List Int} {i : Nat} {v : Int} (h : i < K.length) : (K.set i v).getD i 0 = v := by simp [h]
theorem getD_set_other {K : List Int} {i j : Nat} {v : Int} (h : i ≠ j) : (K.set i v).getD j 0 = K.getD j 0 := by
  rw [List.getD_eq_getElem?_getD, List.getD_eq_getElem?_getD, List.getElem?_set_ne h]
theorem stK_set {lo : Int} {K : List Int} {j k : Nat} {v : Int} (h : rAt lo j ≠ rAt lo k) : stK lo (K.set (rAt lo j).toNat v) k = stK lo K k := getD_set_other (rAt_toNat_ne h)
theorem stK_set_self {lo : Int} {K : List Int} {k : Nat} {v : Int} (hK : K.length = 128) : stK lo (K.set (rAt lo k).toNat v) k = v := getD_set_self (by have := rAt_bd lo k; omega)
theorem stepN_r {lo : Int} {m : Nat} (hlo : onF lo = true) (hm : m ≤ 60) : stepN lo (rAt lo m) = m := by
  have := onF_iff.1 hlo
  unfold stepN stepsF rAt; omega
theorem knows_r {lo : Int} {m k : Nat} (hlo : onF lo = true) (hm : m ≤ 60) (hk : k < m) : knowsF lo (rAt lo m) (rAt lo k) = true := by
  have := onF_iff.1 hlo
  unfold knowsF
  rw [rAt_on, Bool.true_and, decide_eq_true_eq]
  unfold stepsF rAt; omega
theorem state_r {lo : Int} {K : List Int} {m k : Nat} (hlo : onF lo = true) (hm : m ≤ 60) (hk : k < m) : stateF lo (rAt lo m) K (rAt lo k) = stK lo K k := by
  have := rAt_bd lo k
  unfold stateF
  rw [if_neg (by omega), if_pos (knows_r hlo hm hk)]; rfl
theorem before_r {lo : Int} {j k : Nat} (hlo : onF lo = true) (hj : j ≤ 60) (hk : k < 60) : beforeF (rAt lo k) (rAt lo j) = decide (k < j) := by
  have := onF_iff.1 hlo
  have hb := rAt_bd lo k
  unfold beforeF
  rw [if_neg (by omega), rAt_on, rAt_on, Bool.true_and, Bool.true_and]
  rw [Bool.eq_iff_iff, Bool.and_eq_true, decide_eq_true_eq, decide_eq_true_eq, decide_eq_true_eq]
  unfold stepsF rAt; omega
theorem live_r {lo : Int} {K : List Int} {m k : Nat} (hlo : onF lo = true) (hm : m ≤ 60) (hk : k < m) : rAt lo k ∈ liveL K (ringL lo (rAt lo m)) ↔ stK lo K k = 1 ∨ stK lo K k = 4 := by
  have e : liveF K (rAt lo k) = true ↔ stK lo K k = 1 ∨ stK lo K k = 4 := by
    unfold liveF stK; simp
  rw [← e]
  simp only [liveL, List.mem_map, List.mem_filter, ringL, stepN_r hlo hm, List.mem_range]
  constructor
  · rintro ⟨x, ⟨⟨j, hj, rfl⟩, h⟩, hx⟩
    rw [← hx]; exact h
  · intro h
    exact ⟨rX lo k, ⟨⟨k, hk, rfl⟩, h⟩, rfl⟩
/-- what the law's loop keeps -/
structure TInv (lo : Int) (m : Nat) (K : List Int) (tk : Bool) (hi : Int) (lv : List Int) (hd : List Bool) : Prop where
  len : K.length = 128
  st : ∀ k, k < m → stK lo K k = 1 ∨ stK lo K k = 2 ∨ stK lo K k = 3
  snap : tk = true → ∃ ms, ms ≤ m ∧ hi = rAt lo ms ∧ hd.length = ms ∧ ∀ k, k < ms → (hd.getD k false = true ∧ rAt lo k ∉ lv ∧ stK lo K k = 2) ∨ (hd.getD k false = false ∧ (rAt lo k ∈ lv ∨ stK lo K k = 3))
theorem tinv_0 (lo : Int) : TInv lo 0 (List.replicate 128 0) false 0 [] [] := ⟨by simp, fun k hk => by omega, fun h => by cases h⟩
theorem tinv_begin {lo : Int} {m : Nat} {K : List Int} {tk : Bool} {hi : Int} {lv : List Int} {hd : List Bool} (h : TInv lo m K tk hi lv hd) (hm : m < 60) : TInv lo (m + 1) (K.set (rAt lo m).toNat 1) tk hi lv hd := by
  have hne : ∀ k, k < m → rAt lo m ≠ rAt lo k := fun k hk => (rAt_ne hk (by omega)).symm
  refine ⟨by rw [List.length_set]; exact h.len, fun k hk => ?_, fun ht => ?_⟩
  · rcases Nat.lt_or_ge k m with g | g
    · rw [stK_set (hne k g)]; exact h.st k g
    · have : k = m := by omega
      subst this
      exact .inl (stK_set_self h.len)
  · obtain ⟨ms, h1, h2, h3, h4⟩ := h.snap ht
    refine ⟨ms, by omega, h2, h3, fun k hk => ?_⟩
    rw [stK_set (hne k (by omega))]
    exact h4 k hk
theorem tinv_end {lo : Int} {m k0 : Nat} {K : List Int} {tk : Bool} {hi st : Int} {lv : List Int} {hd : List Bool} (h : TInv lo m K tk hi lv hd) (hm : m ≤ 60) (hk0 : k0 < m) (hs : st = 2 ∨ st = 3) (hlv : liveF K (rAt lo k0) = true) : TInv lo m (K.set (rAt lo k0).toNat st) tk hi lv hd := by
  have hne : ∀ k, k < m → k ≠ k0 → rAt lo k0 ≠ rAt lo k := fun k hk hn => by
    rcases Nat.lt_or_gt_of_ne hn with g | g
    · exact (rAt_ne g (by omega)).symm
    · exact rAt_ne g (by omega)
  have h1 : stK lo K k0 = 1 := by
    have e : stK lo K k0 = 1 ∨ stK lo K k0 = 4 := by unfold liveF at hlv; unfold stK; simpa using hlv
    have := h.st k0 hk0
    omega
  refine ⟨by rw [List.length_set]; exact h.len, fun k hk => ?_, fun ht => ?_⟩
  · by_cases e : k = k0
    · subst e
      rw [stK_set_self h.len]; omega
    · rw [stK_set (hne k hk e)]; exact h.st k hk
  · obtain ⟨ms, g1, g2, g3, g4⟩ := h.snap ht
    refine ⟨ms, g1, g2, g3, fun k hk => ?_⟩
    by_cases e : k = k0
    · subst e
      rcases g4 k hk with ⟨_, _, h2⟩ | ⟨h2, h3 | h3⟩
      · omega
      · exact .inr ⟨h2, .inl h3⟩
      · omega
    · rw [stK_set (hne k (by omega) e)]
      exact g4 k hk
def hadL (lo : Int) (m : Nat) (K : List Int) (n : Nat) : List Bool := (List.range n).map fun k => stateF lo (rAt lo m) K (rAt lo k) == 2
theorem had_len (lo : Int) (m : Nat) (K : List Int) (n : Nat) : (hadL lo m K n).length = n := by simp [hadL]
theorem had_snoc (lo : Int) (m : Nat) (K : List Int) (n : Nat) : hadL lo m K n ++ [stateF lo (rAt lo m) K (rAt lo n) == 2] = hadL lo m K (n + 1) := by
  simp [hadL, List.range_succ]
theorem tinv_snap {lo : Int} {m : Nat} {K : List Int} {tk : Bool} {hi : Int} {lv : List Int} {hd : List Bool} (h : TInv lo m K tk hi lv hd) (hlo : onF lo = true) (hm : m ≤ 60) :
    TInv lo m K true (rAt lo m) (liveL K (ringL lo (rAt lo m))) (hadL lo m K m) := by
  refine ⟨h.len, h.st, fun _ => ⟨m, Nat.le_refl _, rfl, had_len lo m K m, fun k hk => ?_⟩⟩
  have hd : (hadL lo m K m).getD k false = (stK lo K k == 2) := by
    rw [List.getD_eq_getElem?_getD]
    simp [hadL, hk, state_r hlo hm hk]
  have hl := live_r (K := K) hlo hm hk
  rw [hd, hl]
  rcases h.st k hk with e | e | e <;> rw [e] <;> simp
theorem times_end {lo : Int} {m k : Nat} {K : List Int} {hi : Int} {lv : List Int} {hd : List Bool} (h : TInv lo m K true hi lv hd) (hlo : onF lo = true) (hm : m ≤ 60) (hk : k < m) :
    visF hi lv [] (stateF lo (rAt lo m) K) (rAt lo k) 0 = (decide ((k : Int) < (hd.length : Int)) && hd.getD k false) ∧
    visF hi lv [] (stateF lo (rAt lo m) K) 2 (rAt lo k) = !(decide ((k : Int) < (hd.length : Int)) && hd.getD k false) := by
  obtain ⟨ms, g1, g2, g3, g4⟩ := h.snap rfl
  have hb := rAt_bd lo k
  have he : endedF hi lv (stateF lo (rAt lo m) K) (rAt lo k) = (decide ((k : Int) < (hd.length : Int)) && hd.getD k false) := by
    unfold endedF
    rw [if_neg (by omega), rAt_on, Bool.true_and, g2, before_r hlo (by omega) (by omega), state_r hlo hm hk, g3]
    by_cases hms : k < ms
    · rw [decide_eq_true hms, decide_eq_true (by omega : (k : Int) < (ms : Int)), Bool.true_and, Bool.true_and]
      rcases g4 k hms with ⟨e1, e2, e3⟩ | ⟨e1, e2⟩
      · rw [e1, e3]
        simpa using e2
      · rw [e1]
        rcases e2 with e2 | e2
        · simp [e2]
        · rw [e2]; simp
    · rw [decide_eq_false hms, decide_eq_false (by omega : ¬ (k : Int) < (ms : Int))]
      simp
  have hd1 : ∀ x, didF hi lv [] (stateF lo (rAt lo m) K) x = endedF hi lv (stateF lo (rAt lo m) K) x := fun x => by simp [didF, mineF]
  have h2 : endedF hi lv (stateF lo (rAt lo m) K) 2 = true := by simp [endedF]
  refine ⟨?_, ?_⟩
  · unfold visF
    rw [hd1, he]; simp
  · unfold visF
    rw [hd1, hd1, he, h2, show (rAt lo k != 0) = true by rw [bne_iff_ne]; omega]; simp
def givenL (lo : Int) (m : Nat) : List Int := (List.range m).map (rAt lo)
theorem given_len (lo : Int) (m : Nat) : (givenL lo m).length = m := by simp [givenL]
theorem given_snoc (lo : Int) (m : Nat) : givenL lo m ++ [rAt lo m] = givenL lo (m + 1) := by simp [givenL, List.range_succ]
theorem given_map (lo : Int) (m : Nat) : (givenL lo m).map (Value.int .i64) ++ [.int .i64 (rAt lo m)] = (givenL lo (m + 1)).map (Value.int .i64) := by rw [← given_snoc, List.map_append]; rfl
theorem given_at {lo : Int} {m k : Nat} (h : k < m) : ((givenL lo m).map (Value.int .i64))[k]? = some (.int .i64 (rAt lo k)) := by simp [givenL, h]
theorem had_map (lo : Int) (m : Nat) (K : List Int) (n : Nat) : (hadL lo m K n).map Value.bool ++ [.bool (stateF lo (rAt lo m) K (rAt lo n) == 2)] = (hadL lo m K (n + 1)).map Value.bool := by rw [← had_snoc, List.map_append]; rfl
theorem bool_at {l : List Bool} {k : Nat} (h : k < l.length) : (l.map Value.bool)[k]? = some (.bool (l.getD k false)) := by simp [h]
theorem not_beq_self (b : Bool) : ((!b) == b) = false := by cases b <;> rfl
theorem not_bne_self (b : Bool) : (!(b == b)) = false := by cases b <;> rfl
end Go.Proofs.YtfjpglohcppjeaaDoor

/- page.plain: the items without the empty ones at the end, in new memory. -/
import Derived.Test.YtfjpglohcppjeaaDoorWords
namespace Go.Proofs.YtfjpglohcppjeaaDoor
set_option linter.unusedVariables false
set_option linter.unusedSimpArgs false
open Go.RowKit

def trimN (ss : List ByteArray) : Nat → Nat
  | 0 => 0
  | n + 1 => if (ss.getD n ByteArray.empty).toList.isEmpty then trimN ss n else n + 1
theorem trimN_le (ss : List ByteArray) : ∀ n, trimN ss n ≤ n
  | 0 => Nat.le_refl _
  | n + 1 => by unfold trimN; split; exact Nat.le_succ_of_le (trimN_le ss n); exact Nat.le_refl _
theorem trimN_succ (ss : List ByteArray) (n : Nat) : trimN ss (n + 1) = if (ss.getD n ByteArray.empty).toList.isEmpty then trimN ss n else n + 1 := rfl
def plainL (ss : List ByteArray) : List ByteArray := ss.take (trimN ss ss.length)
theorem plainL_len (ss : List ByteArray) : (plainL ss).length = trimN ss ss.length := by
  simp only [plainL, List.length_take]; exact Nat.min_eq_left (trimN_le ss _)

theorem Tryd.infoStr : (Tryd.prog.info? 9).map (fun i => (i.zero, i.size, i.bytes)) = some (some (.string ByteArray.empty), 1, 16) := by kernel_rfl
theorem Tryd.sizeStr : (Tryd.prog.info? 9).map (·.size) = some 1 := by kernel_rfl

theorem take_min (ss : List ByteArray) (k : Nat) : ((ss.take k).map Value.string).length = Nat.min ss.length k := by
  rw [List.length_map, List.length_take]; exact Nat.min_comm _ _
/-- what make and copy leave -/
theorem plain_end {w w1 w2 : World} {ss : List ByteArray} {k : Nat} (hk : k ≤ ss.length) (hb : ss.length ≤ 100000) (ht : k = trimN ss ss.length) (hg1 : w.grownBy w1 none)
    (h2 : w2.heap[w.heap.size]? = some (.cells (splice (List.replicate k (Value.string ByteArray.empty)) 0 ((ss.take k).map Value.string)).toArray 9 (0, 0))) (hb2 : Below w.heap.size w1 w2) :
    w2.ownsRow w.heap.size 9 1 (.slice (some ⟨w.heap.size, 0, none⟩) k k) k ((plainL ss).map Value.string) ∧ Ext w w2 ∧ (plainL ss).length = k := by
  have hl : (plainL ss).length = k := by rw [plainL_len, ht]
  have e : splice (List.replicate k (Value.string ByteArray.empty)) 0 ((ss.take k).map Value.string) = (plainL ss).map Value.string := by
    subst ht
    simp [splice, plainL, Nat.min_eq_left (trimN_le ss ss.length)]
  rw [e] at h2
  exact ⟨own_of_block h2 (Nat.le_refl _) (by simp [hl]) (by simp only [maxLen]; omega), ((Ext.refl w).grown hg1 (by simp)).out.trans hb2, hl⟩

set_option maxRecDepth 100000 in
set_option maxHeartbeats 400000 in
theorem plain_any (A : Option Addr) (c : Nat) (ss : List ByteArray) (w : World) (h : At w A (ss.map Value.string)) (hl : ss.length ≤ 100000) :
    Calls Tryd.prog 87 #[.slice A ss.length c] w fun e w' => e = .returned (.slice (some ⟨w.heap.size, 0, none⟩) (plainL ss).length (plainL ss).length) ∧
      w'.ownsRow w.heap.size 9 1 (.slice (some ⟨w.heap.size, 0, none⟩) (plainL ss).length (plainL ss).length) (plainL ss).length ((plainL ss).map Value.string) ∧ Ext w w' := by
  obtain ⟨i0, hi0, hz0, hz1, hz2⟩ := info_parts Tryd.infoStr
  have H := Lib.hid h; clear h
  go_enter Tryd.func87, Tryd.ntmps87
  go_wp2
  go_loop [3] (fun i => ∃ k : Nat, k ≤ ss.length ∧ i = .int .i64 k ∧ trimN ss k = trimN ss ss.length) (fun i => (intOf i).toNat)
  case atStart => exact ⟨_, Nat.le_refl _, rfl, rfl⟩
  case round =>
    obtain ⟨k, hk, rfl, ht⟩ := hrel
    have Ht := Lib.hid ht; clear ht
    rcases k with _ | k
    · go_wp2_with (first
        | (at_make; go_must (refine wpList_make_full _ rfl (.tmp 19) (.tmp 19) 92 rfl w.heap.size 9 i0 _ 1 Tryd.underlying92 hi0 hz0 hz1 .i64 .i64 _ _ 0 rfl rfl rfl rfl (by rw [hz2]; omega) (by simp only [maxLen]; omega) (Nat.le_refl _) ?_); intro w1 hown1 hg1; have hm1 := own_made hown1; clear hown1)
        | (with_reducible refine wpList_copy_splice rfl (.tmp 21) (.tmp 22) 92 92 rfl 9 Tryd.underlying92 Tryd.sizeStr _ _ _ _ _ _ rfl rfl w.heap.size 0 _ 9 hm1 [] (by simp) (by simp) (by simp) (by simp) w.heap.size w1 (Below.refl _ _) (Nat.le_refl _) ?_; intro w2 hh2 hb2))
      go_ret
      have R := plain_end (k := 0) (Nat.zero_le _) hl Ht.out hg1 hh2.out hb2
      rw [R.2.2]
      exact ⟨rfl, R.1, R.2.1⟩
    · have hs : (ss.map Value.string)[k]? = some (.string (ss.getD k ByteArray.empty)) := by simp [List.getD, List.getElem?_eq_getElem (show k < ss.length by omega)]
      obtain ⟨ad, rfl, hb, hc⟩ := H.out _ _ hs
      clear hs
      obtain ⟨s, hs⟩ : ∃ s, s = ss.getD k ByteArray.empty := ⟨_, rfl⟩
      rw [← hs] at hc
      have Hs := Lib.hid hs; clear hs
      go_wp2_with (first
        | (at_make; go_must (refine wpList_make_full _ rfl (.tmp 19) (.tmp 19) 92 rfl w.heap.size 9 i0 _ 1 Tryd.underlying92 hi0 hz0 hz1 .i64 .i64 _ _ (k+1) rfl rfl (by omega) (by omega) (by rw [hz2]; omega) (by simp only [maxLen]; omega) (Nat.le_refl _) ?_); intro w1 hown1 hg1; have hm1 := own_made hown1; clear hown1)
        | (with_reducible refine wpList_copy_splice rfl (.tmp 21) (.tmp 22) 92 92 rfl 9 Tryd.underlying92 Tryd.sizeStr _ _ _ _ _ _ rfl rfl w.heap.size 0 _ 9 hm1 ((ss.take (k+1)).map Value.string) (take_min _ _) (fun _ => ⟨rfl, _, rfl, fun j v hj => ((At.take H.out (k+1)).ext ((Ext.refl w).grown hg1 (by simp))).at_ j v (by simpa using hj)⟩) (by simp; omega) (str_one _) w.heap.size w1 (Below.refl _ _) (Nat.le_refl _) ?_; intro w2 hh2 hb2))
      · have hemp : s.toList.isEmpty = true := by assumption
        go_round
        case rel => exact ⟨k, by omega, rfl, by rw [← Ht.out, trimN_succ, ← Hs.out, if_pos hemp]⟩
        case measure => simp [intOf]
      · have hemp : s.toList.isEmpty = false := by assumption
        go_ret
        have R := plain_end (k := k + 1) hk hl (by rw [← Ht.out, trimN_succ, ← Hs.out, hemp]; rfl) hg1 hh2.out hb2
        rw [R.2.2]
        exact ⟨rfl, R.1, R.2.1⟩
end Go.Proofs.YtfjpglohcppjeaaDoor

/- page.size, page.right, page.Free, page.Room: what they compute. -/
import Derived.Test.YtfjpglohcppjeaaDoorPlain
namespace Go.Proofs.YtfjpglohcppjeaaDoor
set_option linter.unusedVariables false
set_option linter.unusedSimpArgs false
open Go.RowKit

def sizeT (ss : List ByteArray) : Nat := (ss.map fun s => 2 + s.size).sum
theorem sizeT_take_succ (ss : List ByteArray) (k : Nat) (h : k < ss.length) : sizeT (ss.take (k + 1)) = sizeT (ss.take k) + (2 + ss[k].size) := by
  unfold sizeT
  rw [List.take_succ_eq_append_getElem h, List.map_append, List.sum_append]
  simp only [List.map_cons, List.map_nil, List.sum_cons, List.sum_nil, Nat.add_zero]
theorem sizeT_le (ss : List ByteArray) (B : Nat) (h : ∀ s ∈ ss, s.size ≤ B) : sizeT ss ≤ ss.length * (2 + B) := by
  unfold sizeT
  induction ss with
  | nil => simp
  | cons a l ih =>
    have h1 := h a (by simp)
    have h2 := ih fun s hs => h s (by simp [hs])
    simp only [List.map_cons, List.sum_cons, List.length_cons, Nat.add_mul]
    omega
def sizeL (ss : List ByteArray) : Nat := 14 + sizeT (plainL ss)
def Small (ss : List ByteArray) : Prop := ss.length ≤ 100000 ∧ ∀ s ∈ ss, s.size ≤ 1000000
theorem Small.plain {ss : List ByteArray} (h : Small ss) : Small (plainL ss) :=
  ⟨by have := plainL_len ss; have := trimN_le ss ss.length; have := h.1; omega, fun s hs => h.2 s (List.mem_of_mem_take hs)⟩
theorem Small.take {ss : List ByteArray} (h : Small ss) (k : Nat) : sizeT (ss.take k) ≤ 100000 * 1000002 := by
  have h1 := sizeT_le (ss.take k) 1000000 fun s hs => h.2 s (List.mem_of_mem_take hs)
  have h2 : (ss.take k).length ≤ 100000 := by have := h.1; simp; omega
  exact Nat.le_trans h1 (Nat.mul_le_mul h2 (by omega))

set_option maxRecDepth 100000 in
set_option maxHeartbeats 400000 in
theorem size_any (A : Option Addr) (c : Nat) (ss : List ByteArray) (w : World) (h : At w A (ss.map Value.string)) (hs : Small ss) :
    Calls Tryd.prog 88 #[.slice A ss.length c] w fun e w' => e = .returned (.int .i64 (sizeL ss)) ∧ Ext w w' := by
  have H := Lib.hid h; clear h
  have HS := Lib.hid hs; clear hs
  go_enter Tryd.func88, Tryd.ntmps88
  go_wp2_with (go_at_call 87; refine (plain_any _ _ _ _ H.out HS.out.1).mono ?_; rintro e w1 ⟨rfl, hown, hext⟩; have Hown := Lib.hid hown; clear hown; have Hext := Lib.hid hext; clear hext)
  have hsm := Small.plain HS.out
  have hpl : (plainL ss).length ≤ 100000 := hsm.1
  have Hp := Lib.hid hsm; clear hsm
  obtain ⟨ps, hps⟩ : ∃ ps, ps = plainL ss := ⟨_, rfl⟩
  rw [← hps] at Hown Hp hpl ⊢
  have Hps := Lib.hid hps; clear hps
  go_loop [3, 9] (fun n i => ∃ k : Nat, k ≤ ps.length ∧ i = .int .i64 k ∧ n = .int .i64 ((14 + sizeT (ps.take k) : Nat) : Int)) (fun _ i => ps.length - (intOf i).toNat)
  case atStart => exact ⟨0, Nat.zero_le _, rfl, rfl⟩
  case round =>
    obtain ⟨k, hk, rfl, rfl⟩ := hrel
    have hb := Small.take Hp.out k
    rcases Nat.lt_or_ge k ps.length with hlt | hge
    · have hc := (At.of_own Hown.out).get0 (k := k) (by simpa using hlt)
      have hsz : (ps[k]).size ≤ 1000000 := Hp.out.2 _ (List.getElem_mem hlt)
      have Hn := Lib.hid (sizeT_take_succ ps k hlt)
      obtain ⟨s, hs⟩ : ∃ s, s = ps[k] := ⟨_, rfl⟩
      rw [← hs] at hsz Hn
      rw [List.getElem_map, ← hs] at hc
      clear hs
      obtain ⟨t, ht⟩ : ∃ t, t = sizeT (ps.take k) := ⟨_, rfl⟩
      rw [← ht] at Hn hb ⊢
      clear ht
      go_wp2
      go_round
      case rel => exact ⟨k + 1, by omega, by go_num, by rw [Hn.out]; go_num⟩
      case measure => simp [intOf]; omega
    · obtain rfl : k = ps.length := by omega
      go_wp2
      go_ret
      exact ⟨ret_int (by rw [sizeL, ← Hps.out]; omega), Hext.out⟩
end Go.Proofs.YtfjpglohcppjeaaDoor

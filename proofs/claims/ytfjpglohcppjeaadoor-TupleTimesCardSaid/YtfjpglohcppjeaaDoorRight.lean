/- page.right and what it calls. -/
import Derived.Test.YtfjpglohcppjeaaDoorSize
namespace Go.Proofs.YtfjpglohcppjeaaDoor
set_option linter.unusedVariables false
set_option linter.unusedSimpArgs false
open Go.RowKit

def longB (ss : List ByteArray) : Bool := ss.any fun s => decide (400 < s.size)
theorem longB_take_succ (ss : List ByteArray) (k : Nat) (h : k < ss.length) : longB (ss.take (k + 1)) = (longB (ss.take k) || decide (400 < ss[k].size)) := by
  unfold longB
  rw [List.take_succ_eq_append_getElem h]
  simp only [List.any_append, List.any_cons, List.any_nil, Bool.or_false]
def IdxPost (ss : List ByteArray) (w : World) (e : Ending) (w' : World) : Prop := ∃ r : Int, e = .returned (.int .i64 r) ∧ (0 ≤ r ↔ longB ss = true) ∧ w = w'
theorem longB_of (ss : List ByteArray) (k : Nat) (h : k < ss.length) (hl : 400 < ss[k].size) : longB ss = true := by
  unfold longB
  rw [List.any_eq_true]
  exact ⟨ss[k], List.getElem_mem h, by simpa using hl⟩

set_option maxRecDepth 100000 in
set_option maxHeartbeats 400000 in
theorem long_any (s : ByteArray) (w : World) (hs : s.size ≤ 9223372036854775807) :
    Calls Tryd.prog 119 #[.string s] w fun e w' => e = .returned (.bool (decide (400 < s.size))) ∧ w = w' := by
  go_enter Tryd.func119, Tryd.ntmps119
  go_wp2
  go_ret
  exact ⟨ret_bool (by simp only [decide_eq_decide]; omega), rfl⟩

set_option maxRecDepth 100000 in
set_option maxHeartbeats 400000 in
theorem index_any (A : Option Addr) (c : Nat) (ss : List ByteArray) (w : World) (h : At w A (ss.map Value.string)) (hs : Small ss) :
    Calls Tryd.prog 129 #[.slice A ss.length c, .func (.func 119) #[] #[]] w (IdxPost ss w) := by
  have H := Lib.hid h; clear h
  have hl := hs.1
  have HS := Lib.hid hs; clear hs
  go_enter Tryd.func129, Tryd.ntmps129
  go_wp2
  go_loop [8] (fun i => ∃ k : Nat, k ≤ ss.length ∧ i = .int .i64 k ∧ longB (ss.take k) = false) (fun i => ss.length - (intOf i).toNat)
  case atStart => exact ⟨0, Nat.zero_le _, rfl, rfl⟩
  case round =>
    obtain ⟨k, hk, rfl, ht⟩ := hrel
    have Ht := Lib.hid ht; clear ht
    rcases Nat.lt_or_ge k ss.length with hlt | hge
    · obtain ⟨ad, rfl, _, hc⟩ := H.out.get (k := k) (by simpa using hlt)
      rw [List.getElem_map] at hc
      have hsz : (ss[k]).size ≤ 1000000 := HS.out.2 _ (List.getElem_mem hlt)
      obtain ⟨s, hs⟩ : ∃ s, s = ss[k] := ⟨_, rfl⟩
      rw [← hs] at hc hsz
      have Hs := Lib.hid hs; clear hs
      rcases Nat.lt_or_ge 400 s.size with h4 | h4
      · have hd : decide (400 < s.size) = true := by simpa using h4
        go_wp2_with (go_at_call 119; refine (long_any _ _ (by omega)).mono ?_; rintro e w1 ⟨rfl, rfl⟩)
        go_ret
        exact ⟨_, rfl, ⟨fun _ => longB_of ss k hlt (by rw [← Hs.out]; exact h4), fun _ => by omega⟩, rfl⟩
      · have hd : decide (400 < s.size) = false := by simpa using h4
        have hn : longB (ss.take (k + 1)) = false := by rw [longB_take_succ ss k hlt, Ht.out, ← Hs.out, hd]; rfl
        have Hn := Lib.hid hn; clear hn
        go_wp2_with (go_at_call 119; refine (long_any _ _ (by omega)).mono ?_; rintro e w1 ⟨rfl, rfl⟩)
        go_round
        case rel => exact ⟨k + 1, by omega, by go_num, Hn.out⟩
        case measure => simp [intOf]; omega
    · obtain rfl : k = ss.length := by omega
      rw [List.take_length] at Ht
      go_wp2
      go_ret
      exact ⟨-1, rfl, ⟨fun h => absurd h (by decide), fun h => by rw [Ht.out] at h; cases h⟩, rfl⟩

set_option maxRecDepth 100000 in
set_option maxHeartbeats 400000 in
theorem contains_any (A : Option Addr) (c : Nat) (ss : List ByteArray) (w : World) (h : At w A (ss.map Value.string)) (hs : Small ss) :
    Calls Tryd.prog 120 #[.slice A ss.length c, .func (.func 119) #[] #[]] w fun e w' => e = .returned (.bool (longB ss)) ∧ w = w' := by
  have H := Lib.hid h; clear h
  have HS := Lib.hid hs; clear hs
  go_enter Tryd.func120, Tryd.ntmps120
  go_wp2_with (go_at_call 129; refine (index_any _ _ _ _ H.out HS.out).mono ?_; rintro e w1 ⟨r, rfl, hr, rfl⟩; have Hr := Lib.hid hr; clear hr)
  go_ret
  refine ⟨ret_bool ?_, rfl⟩
  rw [Bool.eq_iff_iff, ← Hr.out, decide_eq_true_iff]

structure Pg where
  kind : Int
  lsn : Int
  items : List ByteArray
def rightB (k l : Int) (ss : List ByteArray) : Bool :=
  decide (0 ≤ k) && (decide (k ≤ 2) && (decide (0 ≤ l) && (decide (l ≤ 2147483647) && (decide (ss.length ≤ 24) && (!longB ss && decide (sizeL ss ≤ 512))))))

def Ret1 (v : Value) (w : World) (e : Ending) (w' : World) : Prop := e = .returned v ∧ Ext w w'
theorem Ret1.bool {a b : Bool} {w w1 : World} (h : a = b) (hx : Ext w w1) : Ret1 (.bool b) w (.returned (.bool a)) w1 := ⟨by rw [h], hx⟩
theorem Ret1.int {k : IntKind} {a b : Int} {w w1 : World} (h : a = b) (hx : Ext w w1) : Ret1 (.int k b) w (.returned (.int k a)) w1 := ⟨by rw [h], hx⟩

set_option maxRecDepth 100000 in
set_option maxHeartbeats 1000000 in
theorem right_any (k l : Int) (A : Option Addr) (c : Nat) (ss : List ByteArray) (w : World) (h : At w A (ss.map Value.string)) (hs : Small ss) :
    Calls Tryd.prog 86 #[.agg #[.int .i64 k, .int .i64 l, .slice A ss.length c]] w (Ret1 (.bool (rightB k l ss)) w) := by
  have H := Lib.hid h; clear h
  have hl := hs.1
  have HS := Lib.hid hs; clear hs
  have X0 := Lib.hid ((Ext.refl w).alloc (.cells #[.int .i64 k, .int .i64 l, .slice A ss.length c] 94))
  by_cases h1 : 0 ≤ k
  · by_cases h2 : k ≤ 2
    · by_cases h3 : 0 ≤ l
      · by_cases h4 : l ≤ 2147483647
        · by_cases h5 : ss.length ≤ 24
          · have h5' : (ss.length : Int) ≤ 24 := by omega
            rcases hb : longB ss with _ | _
            · have H6 := Lib.hid hb; clear hb
              by_cases h7 : sizeL ss ≤ 512
              all_goals
                go_enter Tryd.func86, Tryd.ntmps86
                go_wp2_with (first
                  | (go_at_call 120; refine (contains_any _ _ _ _ (H.out.ext X0.out) HS.out).mono ?_; rw [H6.out]; rintro e w1 ⟨rfl, rfl⟩)
                  | (go_at_call 88; refine (size_any _ _ _ _ (H.out.ext X0.out) HS.out).mono ?_; rintro e w1 ⟨rfl, hx⟩; have X1 := Lib.hid (X0.out.trans hx); clear hx))
                go_ret
                exact Ret1.bool (by simp [rightB, h1, h2, h3, h4, h5, H6.out]; omega) X1.out
            · have H6 := Lib.hid hb; clear hb
              go_enter Tryd.func86, Tryd.ntmps86
              go_wp2_with (go_at_call 120; refine (contains_any _ _ _ _ (H.out.ext X0.out) HS.out).mono ?_; rw [H6.out]; rintro e w1 ⟨rfl, rfl⟩)
              go_ret
              exact Ret1.bool (by simp [rightB, H6.out]) X0.out
          · have h5' : ¬ (ss.length : Int) ≤ 24 := by omega
            go_enter Tryd.func86, Tryd.ntmps86
            go_wp2
            go_ret
            exact Ret1.bool (by simp [rightB, h5]) X0.out
        · go_enter Tryd.func86, Tryd.ntmps86
          go_wp2
          go_ret
          exact Ret1.bool (by simp [rightB]; intros; omega) X0.out
      · go_enter Tryd.func86, Tryd.ntmps86
        go_wp2
        go_ret
        exact Ret1.bool (by simp [rightB]; intros; omega) X0.out
    · go_enter Tryd.func86, Tryd.ntmps86
      go_wp2
      go_ret
      exact Ret1.bool (by simp [rightB]; intros; omega) X0.out
  · go_enter Tryd.func86, Tryd.ntmps86
    go_wp2
    go_ret
    exact Ret1.bool (by simp [rightB]; intros; omega) X0.out
end Go.Proofs.YtfjpglohcppjeaaDoor

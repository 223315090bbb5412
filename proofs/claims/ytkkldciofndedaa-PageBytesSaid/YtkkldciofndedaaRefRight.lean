/- the reference's Right, item and Free. -/
import Derived.Test.YtkkldciofndedaaRefPlain
namespace Go.Proofs.Ytkkldciofndedaa
open Go.RowKit

set_option maxRecDepth 100000 in
set_option maxHeartbeats 2000000 in
theorem rright_any (k l : Int) (A : Option Addr) (n c : Nat) (ss : List ByteArray) (w : World) (hn : n = ss.length) (h : At w A (ss.map Value.string)) (hs : Small ss) (hc : n ≤ c) :
    Calls Try.prog 43 #[.agg #[.int .i64 k, .int .i64 l, .slice A n c]] w (Ret1 (.bool (rightB k l ss)) w) := by
  subst hn
  have H := Lib.hid h; clear h
  have hl := hs.1
  have HS := Lib.hid hs; clear hs
  have X0 := Lib.hid ((Ext.refl w).alloc (.cells #[.int .i64 k, .int .i64 l, .slice A ss.length c] 26))
  by_cases h1 : 0 ≤ k
  · by_cases h2 : k ≤ 2
    · by_cases h3 : 0 ≤ l
      · by_cases h4 : l ≤ 2147483647
        · by_cases h5 : ss.length ≤ 24
          · have h5' : (ss.length : Int) ≤ 24 := by omega
            obtain ⟨z, hz⟩ : ∃ z, z = sizeL ss := ⟨_, rfl⟩
            have Hz := Lib.hid hz
            clear hz
            by_cases h7 : 512 < z
            · have h7' : 512 < (z : Int) := by omega
              go_enter Try.func43, Try.ntmps43
              go_wp2_with (go_at_call 45; refine (rsize_any _ _ _ _ _ _ _ rfl (H.out.ext X0.out) HS.out hc).mono ?_; rw [← Hz.out]; rintro e w1 ⟨rfl, hx⟩; have X1 := Lib.hid (X0.out.trans hx); clear hx)
              go_ret
              exact Ret1.bool (by simp [rightB, ← Hz.out]; intros; omega) X1.out
            · have h7' : (z : Int) ≤ 512 := by omega
              go_enter Try.func43, Try.ntmps43
              go_wp2_with (go_at_call 45; refine (rsize_any _ _ _ _ _ _ _ rfl (H.out.ext X0.out) HS.out hc).mono ?_; rw [← Hz.out]; rintro e w1 ⟨rfl, hx⟩; have X1 := Lib.hid (X0.out.trans hx); have p2 : w1.cell? ⟨w.heap.size, 2, none⟩ = some (.slice A ss.length c) := hx.cell_new 2; clear hx)
              go_loop [3] (fun i => ∃ j : Nat, j ≤ ss.length ∧ i = .int .i64 j ∧ longB (ss.take j) = false) (fun i => ss.length - (intOf i).toNat)
              case atStart => exact ⟨0, Nat.zero_le _, rfl, rfl⟩
              case round =>
                obtain ⟨j, hj, rfl, ht⟩ := hrel
                have Ht := Lib.hid ht; clear ht
                rcases Nat.lt_or_ge j ss.length with hlt | hge
                · obtain ⟨ad, rfl, _, hcell⟩ := (H.out.ext X1.out).get (k := j) (by simpa using hlt)
                  rw [List.getElem_map] at hcell
                  have hsz : (ss[j]).size ≤ 1000000 := HS.out.2 _ (List.getElem_mem hlt)
                  obtain ⟨s, hs⟩ : ∃ s, s = ss[j] := ⟨_, rfl⟩
                  rw [← hs] at hcell hsz
                  have Hs := Lib.hid hs; clear hs
                  rcases Nat.lt_or_ge 400 s.size with h8 | h8
                  · go_wp2
                    go_ret
                    have hL := longB_of ss j hlt (by rw [← Hs.out]; exact h8)
                    exact Ret1.bool (by simp [rightB, hL]) X1.out
                  · have hn : longB (ss.take (j + 1)) = false := by rw [longB_take_succ ss j hlt, Ht.out, ← Hs.out]; simpa using h8
                    have Hn := Lib.hid hn; clear hn
                    go_wp2
                    go_round
                    case rel => exact ⟨j + 1, by omega, by go_num, Hn.out⟩
                    case measure => simp [intOf]; omega
                · obtain rfl : j = ss.length := by omega
                  rw [List.take_length] at Ht
                  go_wp2
                  go_ret
                  exact Ret1.bool (by simp [rightB, h1, h2, h3, h4, h5, Ht.out, ← Hz.out]; omega) X1.out
          · have h5' : ¬ (ss.length : Int) ≤ 24 := by omega
            go_enter Try.func43, Try.ntmps43
            go_wp2
            go_ret
            exact Ret1.bool (by simp [rightB, h5]) X0.out
        · go_enter Try.func43, Try.ntmps43
          go_wp2
          go_ret
          exact Ret1.bool (by simp [rightB]; intros; omega) X0.out
      · go_enter Try.func43, Try.ntmps43
        go_wp2
        go_ret
        exact Ret1.bool (by simp [rightB]; intros; omega) X0.out
    · go_enter Try.func43, Try.ntmps43
      go_wp2
      go_ret
      exact Ret1.bool (by simp [rightB]; intros; omega) X0.out
  · go_enter Try.func43, Try.ntmps43
    go_wp2
    go_ret
    exact Ret1.bool (by simp [rightB]; intros; omega) X0.out

def itemF (ss : List ByteArray) (i : Int) : ByteArray := if i < 0 then ByteArray.empty else ss.getD i.toNat ByteArray.empty
theorem Ret1.str {a b : ByteArray} {w w1 : World} (h : a = b) (hx : Ext w w1) : Ret1 (.string b) w (.returned (.string a)) w1 := ⟨by rw [h], hx⟩

set_option maxRecDepth 100000 in
set_option maxHeartbeats 1000000 in
theorem ritem_any (k l : Int) (A : Option Addr) (n c : Nat) (ss : List ByteArray) (i : Int) (w : World) (hn : n = ss.length) (h : At w A (ss.map Value.string)) (_hl : ss.length ≤ 100000) :
    Calls Try.prog 46 #[.agg #[.int .i64 k, .int .i64 l, .slice A n c], .int .i64 i] w (Ret1 (.string (itemF ss i)) w) := by
  subst hn
  have H := Lib.hid h; clear h
  have X0 := Lib.hid ((Ext.refl w).alloc (.cells #[.int .i64 k, .int .i64 l, .slice A ss.length c] 26))
  rcases Int.lt_or_le i 0 with h0 | h0
  · go_enter Try.func46, Try.ntmps46
    go_wp2
    go_ret
    exact Ret1.str (by rw [itemF, if_pos h0]; rfl) X0.out
  · obtain ⟨j, rfl⟩ := Int.eq_ofNat_of_zero_le h0
    rcases Nat.lt_or_ge j ss.length with hlt | hge
    · obtain ⟨ad, rfl, _, hcell⟩ := (H.out.ext X0.out).get (k := j) (by simpa using hlt)
      rw [List.getElem_map] at hcell
      have He := Lib.hid (show itemF ss j = ss[j] by rw [itemF, if_neg (by omega), Int.toNat_natCast]; simp [List.getD, hlt])
      obtain ⟨s, hs⟩ : ∃ s, s = ss[j] := ⟨_, rfl⟩
      rw [← hs] at hcell He
      clear hs
      go_enter Try.func46, Try.ntmps46
      go_wp2
      go_ret
      exact Ret1.str He.out.symm X0.out
    · have He := Lib.hid (show itemF ss j = ByteArray.empty by rw [itemF, if_neg (by omega), Int.toNat_natCast]; simp [List.getD, List.getElem?_eq_none hge])
      go_enter Try.func46, Try.ntmps46
      go_wp2
      go_ret
      exact Ret1.str (by rw [He.out]; rfl) X0.out
end Go.Proofs.Ytkkldciofndedaa

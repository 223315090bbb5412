/- the reference's Same, the law's at. -/
import Derived.Test.YtkkldciofndedaaRefPut
import Derived.Deep.QuietTactic
import Derived.BigQuiet
namespace Go.Proofs.Ytkkldciofndedaa
open Go.RowKit
set_option linter.unusedVariables false

theorem ba_inj {a b : ByteArray} (h : a.toList = b.toList) : a = b := by
  rw [ByteArray.toList_eq, ByteArray.toList_eq] at h
  cases a; cases b
  simp at h
  rw [h]
theorem str_ne {a b : ByteArray} (h : ¬ a = b) : (a.toList == b.toList) = false := by
  rw [beq_eq_false_iff_ne]
  exact fun e => h (ba_inj e)
theorem take_ne {ss ts : List ByteArray} {j : Nat} {s t : ByteArray} (h1 : j < ss.length) (h2 : j < ts.length) (hs : s = ss[j]) (ht : t = ts[j]) (hne : ¬ s = t) : ¬ ss = ts := by
  rintro rfl
  exact hne (hs.trans ht.symm)
def sameB (k l : Int) (ss : List ByteArray) (k' l' : Int) (ts : List ByteArray) : Bool := decide (k = k') && (decide (l = l') && decide (ss = ts))
theorem same_false1 {k l : Int} {ss : List ByteArray} {k' l' : Int} {ts : List ByteArray} (h : ¬ k = k') : sameB k l ss k' l' ts = false := by simp [sameB, h]
theorem same_false2 {k l : Int} {ss : List ByteArray} {k' l' : Int} {ts : List ByteArray} (h : ¬ l = l') : sameB k l ss k' l' ts = false := by simp [sameB, h]
theorem same_false3 {k l : Int} {ss : List ByteArray} {k' l' : Int} {ts : List ByteArray} (h : ¬ ss = ts) : sameB k l ss k' l' ts = false := by simp [sameB, h]

set_option maxRecDepth 100000 in
set_option maxHeartbeats 2000000 in
theorem same_any (k l : Int) (A : Option Addr) (n c : Nat) (ss : List ByteArray) (k' l' : Int) (A' : Option Addr) (n' c' : Nat) (ts : List ByteArray) (w : World) (hn : n = ss.length) (hn' : n' = ts.length)
    (h : At w A (ss.map Value.string)) (h' : At w A' (ts.map Value.string)) (hl : ss.length ≤ 100000) (hl' : ts.length ≤ 100000) :
    Calls Try.prog 19 #[.agg #[.int .i64 k, .int .i64 l, .slice A n c], .agg #[.int .i64 k', .int .i64 l', .slice A' n' c']] w (Ret1 (.bool (sameB k l ss k' l' ts)) w) := by
  subst hn hn'
  have H := Lib.hid h; clear h
  have H' := Lib.hid h'; clear h'
  have X0 := Lib.hid (((Ext.refl w).alloc (.cells #[.int .i64 k, .int .i64 l, .slice A ss.length c] 26)).alloc (.cells #[.int .i64 k', .int .i64 l', .slice A' ts.length c'] 26))
  by_cases h1 : k = k'
  · subst h1
    have e1 : (k != k) = false := by simp
    by_cases h2 : l = l'
    · subst h2
      have e2 : (l != l) = false := by simp
      by_cases h3 : ss.length = ts.length
      · have e3 : ((ss.length : Int) != (ts.length : Int)) = false := by simp [h3]
        have H3 := Lib.hid h3
        clear h3
        go_enter Try.func19, Try.ntmps19
        go_wp2
        go_loopw [5] (fun i wr => ∃ j : Nat, j ≤ ss.length ∧ i = .int .i64 j ∧ ss.take j = ts.take j ∧ Ext ((w.alloc (.cells #[.int .i64 k, .int .i64 l, .slice A ss.length c] 26)).alloc (.cells #[.int .i64 k, .int .i64 l, .slice A' ts.length c'] 26)) wr) (fun i _ => ss.length - (intOf i).toNat)
        case atStart => exact ⟨0, Nat.zero_le _, rfl, rfl, Ext.refl _⟩
        case round =>
          obtain ⟨j, hj, rfl, ht, hx⟩ := hrel
          have Ht := Lib.hid ht
          have XR := Lib.hid hx
          have p2 : wr.cell? ⟨w.heap.size, 2, none⟩ = some (.slice A ss.length c) := hx.two0.1 2
          have p2' : wr.cell? ⟨w.heap.size + 1, 2, none⟩ = some (.slice A' ts.length c') := hx.two.1 2
          clear ht hx
          rcases Nat.lt_or_ge j ss.length with hlt | hge
          · have hlt' : j < ts.length := by have := H3.out; omega
            obtain ⟨ad, rfl, _, hcell⟩ := (H.out.ext (X0.out.trans XR.out)).get (k := j) (by simpa using hlt)
            obtain ⟨ad', rfl, _, hcell'⟩ := (H'.out.ext (X0.out.trans XR.out)).get (k := j) (by simpa using hlt')
            rw [List.getElem_map] at hcell hcell'
            have Hs := Lib.hid (show ss.take (j + 1) = ss.take j ++ [ss[j]] from List.take_succ_eq_append_getElem hlt)
            have Hs' := Lib.hid (show ts.take (j + 1) = ts.take j ++ [ts[j]] from List.take_succ_eq_append_getElem hlt')
            obtain ⟨s, hs⟩ : ∃ s, s = ss[j] := ⟨_, rfl⟩
            obtain ⟨t, ht⟩ : ∃ t, t = ts[j] := ⟨_, rfl⟩
            rw [← hs] at hcell Hs
            rw [← ht] at hcell' Hs'
            have Hss := Lib.hid hs
            have Htt := Lib.hid ht
            clear hs ht
            have i1 : (0 : Int) ≤ (j : Int) := by omega
            have i2 : (j : Int) < (ss.length : Int) := by omega
            have i3 : (j : Int) < (ts.length : Int) := by omega
            by_cases hst : s = t
            · subst hst
              go_wp2
              go_quiet (fail)
              go_wp2
              go_roundw
              case rel => exact ⟨j + 1, by omega, by go_num, by rw [Hs.out, Hs'.out, Ht.out], XR.out.drewN _⟩
              case measure => simp [intOf]; omega
            · have hne := str_ne hst
              go_wp2
              go_quiet (fail)
              go_wp2
              go_ret
              exact Ret1.bool (same_false3 (take_ne hlt hlt' Hss.out Htt.out hst)).symm ((X0.out.trans XR.out).drewN _)
          · obtain rfl : j = ss.length := by omega
            go_wp2
            go_ret
            exact Ret1.bool (by have e := Ht.out; rw [List.take_length, H3.out, List.take_length] at e; simp [sameB, e]) (X0.out.trans XR.out)
      · have e3 : ((ss.length : Int) != (ts.length : Int)) = true := by simp; omega
        go_enter Try.func19, Try.ntmps19
        go_wp2
        go_ret
        exact Ret1.bool (same_false3 (fun h => h3 (by rw [h]))).symm X0.out
    · have e2 : (l != l') = true := by simp [h2]
      go_enter Try.func19, Try.ntmps19
      go_wp2
      go_ret
      exact Ret1.bool (same_false2 h2).symm X0.out
  · have e1 : (k != k') = true := by simp [h1]
    go_enter Try.func19, Try.ntmps19
    go_wp2
    go_ret
    exact Ret1.bool (same_false1 h1).symm X0.out

set_option maxRecDepth 100000 in
set_option maxHeartbeats 1000000 in
theorem at_any (k l : Int) (A : Option Addr) (n c : Nat) (ss : List ByteArray) (j : Nat) (w : World) (hn : n = ss.length) (h : At w A (ss.map Value.string)) (hl : ss.length ≤ 9223372036854775807) :
    Calls Try.prog 17 #[.agg #[.int .i64 k, .int .i64 l, .slice A n c], .int .i64 j] w (Ret1 (.string (itemF ss j)) w) := by
  subst hn
  have H := Lib.hid h; clear h
  have X0 := Lib.hid ((Ext.refl w).alloc (.cells #[.int .i64 k, .int .i64 l, .slice A ss.length c] 26))
  rcases Nat.lt_or_ge j ss.length with hlt | hge
  · obtain ⟨ad, rfl, _, hcell⟩ := (H.out.ext X0.out).get (k := j) (by simpa using hlt)
    rw [List.getElem_map] at hcell
    have He := Lib.hid (show itemF ss j = ss[j] by rw [item_get]; simp [List.getD, hlt])
    obtain ⟨s, hs⟩ : ∃ s, s = ss[j] := ⟨_, rfl⟩
    rw [← hs] at hcell He
    clear hs
    go_enter Try.func17, Try.ntmps17
    go_wp2
    go_ret
    exact Ret1.str He.out.symm X0.out
  · have He := Lib.hid (show itemF ss j = ByteArray.empty by rw [item_get]; simp [List.getD, List.getElem?_eq_none hge])
    go_enter Try.func17, Try.ntmps17
    go_wp2
    go_ret
    exact Ret1.str (by rw [He.out]; rfl) X0.out

set_option maxRecDepth 100000 in
theorem new_any (k : Int) (w : World) :
    Calls Try.prog 28 #[.int .i64 k] w fun e w' => e = .returned (.agg #[.int .i64 k, .int .i64 0, .slice none 0 0]) ∧ Ext w w' := by
  go_enter Try.func28, Try.ntmps28
  go_wp2
  exact bodyPost_ret (v := .agg #[.int .i64 k, .int .i64 0, .slice none 0 0]) (by simp [results, Try.results28, go_sem]) rfl ⟨rfl, (Ext.refl w).alloc _⟩
end Go.Proofs.Ytkkldciofndedaa

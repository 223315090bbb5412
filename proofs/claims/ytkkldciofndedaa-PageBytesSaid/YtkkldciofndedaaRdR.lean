/- The reference's Reader: Take, Num, Text. -/
import Derived.Test.YtkkldciofndedaaRd
import Derived.Test.YtkkldciofndedaaSum
namespace Go.Proofs.Ytkkldciofndedaa
open Go.RowKit
set_option linter.unusedVariables false

set_option maxRecDepth 100000 in
set_option maxHeartbeats 400000 in
theorem rosize_any (n : Int) (w : World) : Calls Try.prog 67 #[.int .i64 n] w fun e w' => e = .returned (.int .i64 (sizeF n)) ∧ w = w' := by
  go_enter Try.func67, Try.ntmps67
  go_wp2
  all_goals
    go_ret
    exact ⟨ret_int (by unfold sizeF; omega), rfl⟩

set_option maxRecDepth 100000 in
set_option maxHeartbeats 1000000 in
theorem rtake_ok (B : Nat) (s : ByteArray) (p n : Nat) (w : World) (h : Rd 103 w B s p false) (hn : p + n ≤ s.size) :
    Calls Try.prog 68 #[.pointer (some ⟨B, 0, none⟩), .int .i64 n] w (RdPost 103 (.string (s.extract p (p + n))) B s (p + n) false w) := by
  obtain ⟨hb, hp, hs⟩ := h
  have HB := Lib.hid hb
  have c0 : w.cell? ⟨B, 0, none⟩ = some (.string s) := hb.cell 0
  have c1 : w.cell? ⟨B, 1, none⟩ = some (.int .i64 p) := hb.cell 1
  have c2 : w.cell? ⟨B, 2, none⟩ = some (.bool false) := hb.cell 2
  have f1 := hb.frozen 1
  have hd1 : decide ((n : Int) < 0) = false := by simp
  have hd2 : decide ((s.size : Int) - (p : Int) < (n : Int)) = false := by simp; omega
  have e1 : (0 : Int) ≤ (p : Int) + (n : Int) := by omega
  have e2 : (p : Int) + (n : Int) ≤ (s.size : Int) := by omega
  have e3 : (p : Int) ≤ (p : Int) + (n : Int) := by omega
  clear hb
  go_enter Try.func68, Try.ntmps68
  go_wp2_with fail
  go_quiet (fail)
  go_wp2_with fail
  go_quiet (fail)
  go_wp2
  go_ret
  refine ⟨rfl, ⟨?_, hn, hs⟩, ?_⟩
  · rw [show ((p + n : Nat) : Int) = (p : Int) + (n : Int) by omega]
    exact ((HB.out.drewN _).set_ 1 _).drewN _
  · exact (((Upd.refl _ _).drewN _).set (.inl (by simp)) _).drewN _

set_option maxRecDepth 100000 in
set_option maxHeartbeats 1000000 in
theorem rtake_bad (B : Nat) (s : ByteArray) (p : Nat) (f : Bool) (n : Int) (w : World) (h : Rd 103 w B s p f) (hn : f = true ∨ n < 0 ∨ (s.size : Int) < p + n) :
    Calls Try.prog 68 #[.pointer (some ⟨B, 0, none⟩), .int .i64 n] w (RdPost 103 (.string ByteArray.empty) B s p true w) := by
  obtain ⟨hb, hp, hs⟩ := h
  have HB := Lib.hid hb
  have c0 : w.cell? ⟨B, 0, none⟩ = some (.string s) := hb.cell 0
  have c1 : w.cell? ⟨B, 1, none⟩ = some (.int .i64 p) := hb.cell 1
  have c2 : w.cell? ⟨B, 2, none⟩ = some (.bool f) := hb.cell 2
  have f2 := hb.frozen 2
  clear hb
  rcases f with _ | _
  · by_cases h0 : n < 0
    · have hd1 : decide (n < 0) = true := by simpa using h0
      clear hn
      go_enter Try.func68, Try.ntmps68
      go_wp2_with fail
      go_quiet (fail)
      go_wp2
      go_ret
      exact ⟨rfl, ⟨(HB.out.drewN _).set_ 2 _, hp, hs⟩, ((Upd.refl _ _).drewN _).set (.inl (by simp)) _⟩
    · have h1 : (s.size : Int) < p + n := by simpa [h0] using hn
      have hd1 : decide (n < 0) = false := by simpa using h0
      have hd2 : decide ((s.size : Int) - (p : Int) < n) = true := by simp; omega
      clear hn h1
      go_enter Try.func68, Try.ntmps68
      go_wp2_with fail
      go_quiet (fail)
      go_wp2
      go_ret
      exact ⟨rfl, ⟨(HB.out.drewN _).set_ 2 _, hp, hs⟩, ((Upd.refl _ _).drewN _).set (.inl (by simp)) _⟩
  · clear hn
    go_enter Try.func68, Try.ntmps68
    go_wp2_with fail
    go_quiet (fail)
    go_wp2
    go_ret
    exact ⟨rfl, ⟨(HB.out.drewN _).set_ 2 _, hp, hs⟩, ((Upd.refl _ _).drewN _).set (.inl (by simp)) _⟩

set_option maxRecDepth 100000 in
set_option maxHeartbeats 1000000 in
theorem rnum_ok (B : Nat) (s : ByteArray) (p k : Nat) (w : World) (h : Rd 103 w B s p false) (hk : k ≤ 4) (hn : p + k ≤ s.size) :
    Calls Try.prog 59 #[.pointer (some ⟨B, 0, none⟩), .int .i64 k] w (RdPost 103 (.int .i64 (numS s p k)) B s (p + k) false w) := by
  have H := Lib.hid h; clear h
  have hsk := Lib.hid (show sizeF k = k by unfold sizeF; omega)
  go_enter Try.func59, Try.ntmps59
  go_wp2_with fail
  refine (rosize_any _ _).mono ?_
  rw [hsk.out]
  rintro e w1 ⟨rfl, rfl⟩
  go_wp2_with fail
  refine (rtake_ok _ _ _ _ _ H.out hn).mono ?_
  rintro e w1 ⟨rfl, hr, hu⟩
  obtain ⟨t, ht⟩ : ∃ t, t = s.extract p (p + k) := ⟨_, rfl⟩
  rw [← ht]
  have htk : t.size = k := by rw [ht, ByteArray.size_extract]; have := H.out.2.1; omega
  have HT := Lib.hid (show numS s p k = numL t.data.toList by rw [numS, ← ht])
  have hb4 := numL_lt t.data.toList
  have hts : (t.size : Int) ≤ 4 := by omega
  have h4 : 256 ^ t.data.toList.length ≤ 4294967296 := by
    have e : t.data.toList.length = t.size := by simp
    rw [e]
    exact Nat.le_trans (Nat.pow_le_pow_right (by omega) (show t.size ≤ 4 by omega)) (by decide)
  have HR := Lib.hid hr
  have HU := Lib.hid hu
  have hfin : ((numL t.data.toList : Nat) : Int) ≤ 4294967296 := by omega
  clear hr hu ht htk hb4 h4
  go_wp2
  go_loop [6, 7] (fun x v => ∃ j : Nat, v = .int .i64 j ∧ j ≤ t.size ∧ x = .int .u64 (numL (t.data.toList.take j))) (fun _ v => t.size - (intOf v).toNat)
  case atStart => exact ⟨0, rfl, Nat.zero_le _, rfl⟩
  case round =>
    obtain ⟨j, rfl, hj, rfl⟩ := hrel
    rcases Nat.lt_or_ge j t.size with hlt | hge
    · have hb := numL_lt (t.data.toList.take j)
      have hlen : (t.data.toList.take j).length = j := by simp; omega
      have h256 : 256 ^ (t.data.toList.take j).length ≤ 16777216 := by
        rw [hlen]
        exact Nat.le_trans (Nat.pow_le_pow_right (by omega) (show j ≤ 3 by omega)) (by decide)
      have hsn : t.data.toList.take (j + 1) = t.data.toList.take j ++ [t[j]] := by rw [List.take_succ_eq_append_getElem (by simpa using hlt)]; rfl
      have HN := Lib.hid (show numL (t.data.toList.take (j + 1)) = numL (t.data.toList.take j) * 256 + t[j].toNat by rw [hsn, numL_snoc])
      obtain ⟨a, ha⟩ : ∃ a, a = numL (t.data.toList.take j) := ⟨_, rfl⟩
      rw [← ha] at hb HN ⊢
      have hc8 : t[j].toNat < 256 := UInt8.toNat_lt _
      have ha1 : (a : Int) ≤ 16777216 := by omega
      have i1 : (0 : Int) ≤ (j : Int) := by omega
      have i2 : (j : Int) < (t.size : Int) := by omega
      clear hsn hlen h256 hb ha
      go_wp2
      go_round
      case rel => exact ⟨j + 1, by go_num, by omega, by rw [HN.out]; go_num⟩
      case measure => simp [intOf]; omega
    · obtain rfl : j = t.size := by omega
      have e : t.data.toList.take t.size = t.data.toList := List.take_of_length_le (by simp)
      rw [e]
      obtain ⟨a, ha⟩ : ∃ a, a = numL t.data.toList := ⟨_, rfl⟩
      rw [← ha] at HT hfin ⊢
      clear e ha
      go_wp2
      go_ret
      exact ⟨by rw [HT.out]; rfl, HR.out, HU.out⟩

set_option maxRecDepth 100000 in
set_option maxHeartbeats 1000000 in
theorem rnum_bad (B : Nat) (s : ByteArray) (p k : Nat) (f : Bool) (w : World) (h : Rd 103 w B s p f) (hk : k ≤ 4) (hn : f = true ∨ s.size < p + k) :
    Calls Try.prog 59 #[.pointer (some ⟨B, 0, none⟩), .int .i64 k] w (RdPost 103 (.int .i64 0) B s p true w) := by
  have H := Lib.hid h; clear h
  have hsk := Lib.hid (show sizeF k = k by unfold sizeF; omega)
  have HN := Lib.hid (show f = true ∨ ((k : Nat) : Int) < 0 ∨ (s.size : Int) < p + (k : Nat) by
    rcases hn with h | h
    · exact .inl h
    · exact .inr (.inr (by omega)))
  clear hn
  go_enter Try.func59, Try.ntmps59
  go_wp2_with fail
  refine (rosize_any _ _).mono ?_
  rw [hsk.out]
  rintro e w1 ⟨rfl, rfl⟩
  go_wp2_with fail
  refine (rtake_bad _ _ _ _ _ _ H.out HN.out).mono ?_
  rintro e w1 ⟨rfl, hr, hu⟩
  have HR := Lib.hid hr
  have HU := Lib.hid hu
  have hz : (ByteArray.empty).size = 0 := rfl
  clear hr hu
  go_wp2
  go_loop [6, 7] (fun x v => x = .int .u64 0 ∧ v = .int .i64 0) (fun _ _ => 0)
  case atStart => exact ⟨rfl, rfl⟩
  case round =>
    obtain ⟨rfl, rfl⟩ := hrel
    go_wp2
    go_ret
    exact ⟨rfl, HR.out, HU.out⟩

set_option maxRecDepth 100000 in
set_option maxHeartbeats 1000000 in
theorem rtext_ok (B : Nat) (s : ByteArray) (p : Nat) (w : World) (h : Rd 103 w B s p false) (h2 : p + 2 ≤ s.size) (hn : p + 2 + numS s p 2 ≤ s.size) :
    Calls Try.prog 60 #[.pointer (some ⟨B, 0, none⟩)] w (RdPost 103 (.string (textS s p)) B s (p + 2 + numS s p 2) false w) := by
  have H := Lib.hid h
  obtain ⟨c0, c1, c2, _, _⟩ := h.cells
  clear h
  go_enter Try.func60, Try.ntmps60
  go_wp2_with fail
  refine (rnum_ok _ _ _ 2 _ H.out (by omega) h2).mono ?_
  rintro e w1 ⟨rfl, hr, hu⟩
  have HR1 := Lib.hid hr
  have HU1 := Lib.hid hu
  clear hr hu c0 c1 c2
  go_wp2_with fail
  refine (rtake_ok _ _ _ _ _ HR1.out hn).mono ?_
  rintro e w2 ⟨rfl, hr, hu⟩
  have HR2 := Lib.hid hr
  have HU2 := Lib.hid (HU1.out.trans hu)
  obtain ⟨c0, c1, c2, _, _⟩ := hr.cells
  clear hr hu
  have HT := Lib.hid (show textS s p = s.extract (p + 2) (p + 2 + numS s p 2) from rfl)
  obtain ⟨x, hx⟩ : ∃ x, x = s.extract (p + 2) (p + 2 + numS s p 2) := ⟨_, rfl⟩
  rw [← hx] at HT ⊢
  clear hx
  go_wp2
  go_ret
  exact ⟨by rw [HT.out]; rfl, HR2.out, HU2.out⟩

set_option maxRecDepth 100000 in
set_option maxHeartbeats 1000000 in
theorem rtext_bad (B : Nat) (s : ByteArray) (p : Nat) (f : Bool) (w : World) (h : Rd 103 w B s p f) (hn : f = true ∨ s.size < p + 2 ∨ s.size < p + 2 + numS s p 2) :
    Calls Try.prog 60 #[.pointer (some ⟨B, 0, none⟩)] w (RdPost 103 (.string ByteArray.empty) B s p true w) := by
  have H := Lib.hid h
  obtain ⟨c0, c1, c2, _, _⟩ := h.cells
  have hps := h.2
  clear h
  by_cases h1 : f = true ∨ s.size < p + 2
  · have HN := Lib.hid h1
    clear hn h1
    go_enter Try.func60, Try.ntmps60
    go_wp2_with fail
    refine (rnum_bad _ _ _ 2 _ _ H.out (by omega) HN.out).mono ?_
    rintro e w1 ⟨rfl, hr, hu⟩
    have HR1 := Lib.hid hr
    have HU1 := Lib.hid hu
    clear hr hu c0 c1 c2
    go_wp2_with fail
    refine (rtake_bad _ _ _ _ _ _ HR1.out (.inl rfl)).mono ?_
    rintro e w2 ⟨rfl, hr, hu⟩
    have HR2 := Lib.hid hr
    have HU2 := Lib.hid (HU1.out.trans hu)
    obtain ⟨c0, c1, c2, z1, _⟩ := hr.cells
    clear hr hu
    go_wp2
    go_ret
    exact ⟨rfl, ⟨HR2.out.1.set_ 1 _, hps⟩, HU2.out.set (.inl (by simp)) _⟩
  · have hf : f = false := by
      cases f with
      | true => exact absurd (.inl rfl) h1
      | false => rfl
    subst hf
    have h2 : p + 2 ≤ s.size := by omega
    have h3 : s.size < p + 2 + numS s p 2 := by
      rcases hn with h | h | h
      · cases h
      · omega
      · exact h
    clear hn h1
    go_enter Try.func60, Try.ntmps60
    go_wp2_with fail
    refine (rnum_ok _ _ _ 2 _ H.out (by omega) h2).mono ?_
    rintro e w1 ⟨rfl, hr, hu⟩
    have HR1 := Lib.hid hr
    have HU1 := Lib.hid hu
    clear hr hu c0 c1 c2
    go_wp2_with fail
    refine (rtake_bad _ _ _ _ _ _ HR1.out (.inr (.inr (by omega)))).mono ?_
    rintro e w2 ⟨rfl, hr, hu⟩
    have HR2 := Lib.hid hr
    have HU2 := Lib.hid (HU1.out.trans hu)
    obtain ⟨c0, c1, c2, z1, _⟩ := hr.cells
    clear hr hu
    go_wp2
    go_ret
    exact ⟨rfl, ⟨HR2.out.1.set_ 1 _, hps⟩, HU2.out.set (.inl (by simp)) _⟩
end Go.Proofs.Ytkkldciofndedaa

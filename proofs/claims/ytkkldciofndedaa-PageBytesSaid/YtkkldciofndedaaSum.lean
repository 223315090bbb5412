/- octet.Sum and the reference's Sum: Adler-32. -/
import Derived.Test.YtkkldciofndedaaOct
namespace Go.Proofs.Ytkkldciofndedaa
open Go.RowKit
set_option linter.unusedVariables false

def adl (l : List UInt8) : Nat × Nat := l.foldl (fun ab c => ((ab.1 + c.toNat) % 65521, (ab.2 + (ab.1 + c.toNat) % 65521) % 65521)) (1, 0)
def sumF (s : ByteArray) : Nat := (adl s.data.toList).2 * 65536 + (adl s.data.toList).1
theorem adl_lt (l : List UInt8) : (adl l).1 < 65521 ∧ (adl l).2 < 65521 := by
  unfold adl
  have : ∀ (l : List UInt8) (p : Nat × Nat), p.1 < 65521 ∧ p.2 < 65521 → (l.foldl (fun ab c => ((ab.1 + c.toNat) % 65521, (ab.2 + (ab.1 + c.toNat) % 65521) % 65521)) p).1 < 65521 ∧ (l.foldl (fun ab c => ((ab.1 + c.toNat) % 65521, (ab.2 + (ab.1 + c.toNat) % 65521) % 65521)) p).2 < 65521 := by
    intro l
    induction l with
    | nil => exact fun p h => h
    | cons c l ih => exact fun p h => ih _ ⟨Nat.mod_lt _ (by omega), Nat.mod_lt _ (by omega)⟩
  exact this l (1, 0) ⟨by omega, by omega⟩
theorem adl_snoc (s : ByteArray) (k : Nat) (h : k < s.size) : adl (s.data.toList.take (k + 1)) = (((adl (s.data.toList.take k)).1 + s[k].toNat) % 65521, ((adl (s.data.toList.take k)).2 + ((adl (s.data.toList.take k)).1 + s[k].toNat) % 65521) % 65521) := by
  rw [List.take_succ_eq_append_getElem (by simpa using h), adl, List.foldl_append]
  rfl

set_option maxRecDepth 100000 in
set_option maxHeartbeats 400000 in
theorem osum1_any (c a b : Nat) (A B : Nat) (w : World) (hc : c < 256) (ha : a < 65521) (hb : b < 65521) (hA : Blk w A 64 #[.int .u32 a]) (hB : Blk w B 64 #[.int .u32 b]) (hne : A ≠ B) :
    Calls Try.prog 54 #[.int .u8 c, .pointer (some ⟨A, 0, none⟩), .pointer (some ⟨B, 0, none⟩)] w fun e w' => e = .returned (.tuple #[]) ∧
      Blk w' A 64 #[.int .u32 ((a + c) % 65521 : Nat)] ∧ Blk w' B 64 #[.int .u32 ((b + (a + c) % 65521) % 65521 : Nat)] ∧ Upd [A, B] w w' := by
  have HA := Lib.hid hA; have HB := Lib.hid hB
  have cA : w.cell? ⟨A, 0, none⟩ = some (.int .u32 a) := hA.cell 0
  have cB : w.cell? ⟨B, 0, none⟩ = some (.int .u32 b) := hB.cell 0
  have fA := hA.frozen 0; have fB := hB.frozen 0
  have lA := hA.lt; have lB := hB.lt
  clear hA hB
  go_enter Try.func54, Try.ntmps54
  have e1 : ((a : Int) + (c : Int)) % 65521 = (((a + c) % 65521 : Nat) : Int) := by omega
  have e2 : ((b : Int) + ((a : Int) + (c : Int))) % 65521 = (((b + (a + c) % 65521) % 65521 : Nat) : Int) := by omega
  have E1 := Lib.hid e1; have E2 := Lib.hid e2
  clear e1 e2
  go_wp2
  go_end0
  rw [E1.out, E2.out]
  exact ⟨rfl, ((HA.out.set_ 0 _).far hne _), ((HB.out.far (fun e => hne e.symm) _).set_ 0 _), ((Upd.refl _ _).set (.inl (by simp)) _).set (.inl (by simp)) _⟩

set_option maxRecDepth 100000 in
set_option maxHeartbeats 1000000 in
theorem osum_any (s : ByteArray) (w : World) (hs : s.size ≤ 9223372036854775807) :
    Calls Try.prog 32 #[.string s] w (Ret1 (.int .u32 (sumF s)) w) := by
  go_enter Try.func32, Try.ntmps32
  go_wp2
  go_loopw [10] (fun v wr => ∃ k : Nat, v = .int .i64 k ∧ k ≤ s.size ∧ Blk wr w.heap.size 64 #[.int .u32 (adl (s.data.toList.take k)).1] ∧ Blk wr (w.heap.size + 1) 64 #[.int .u32 (adl (s.data.toList.take k)).2] ∧ Ext w wr) (fun v _ => s.size - (intOf v).toNat)
  case atStart => exact ⟨0, rfl, Nat.zero_le _, (Blk.new' rfl).alloc _, Blk.new' (by simp), ((Ext.refl w).alloc _).alloc _⟩
  case round =>
    obtain ⟨k, rfl, hk, hA, hB, hx⟩ := hrel
    have HA := Lib.hid hA; have HB := Lib.hid hB; have XR := Lib.hid hx
    have hlt := adl_lt (s.data.toList.take k)
    clear hA hB hx
    rcases Nat.lt_or_ge k s.size with hk1 | hk1
    · have HS := Lib.hid (adl_snoc s k hk1)
      obtain ⟨a, ha⟩ : ∃ a, a = (adl (s.data.toList.take k)).1 := ⟨_, rfl⟩
      obtain ⟨b, hb⟩ : ∃ b, b = (adl (s.data.toList.take k)).2 := ⟨_, rfl⟩
      rw [← ha, ← hb] at HS hlt
      rw [← ha] at HA
      rw [← hb] at HB
      have hcb : s[k].toNat < 256 := UInt8.toNat_lt _
      clear ha hb
      have hk2 : (k : Int) < (s.size : Int) := by omega
      have hk3 : (0 : Int) ≤ (k : Int) := by omega
      go_wp2_with fail
      refine (osum1_any _ a b _ _ _ hcb hlt.1 hlt.2 HA.out HB.out (by omega)).mono ?_
      rintro e w1 ⟨rfl, hA, hB, hu⟩
      have HA1 := Lib.hid hA; have HB1 := Lib.hid hB; have HU := Lib.hid hu
      clear hA hB hu hlt
      go_wp2
      go_roundw
      case rel => exact ⟨k + 1, by go_num, by omega, by rw [HS.out]; exact HA1.out, by rw [HS.out]; exact HB1.out, XR.out.upd HU.out (by simp)⟩
      case measure => simp [intOf]; omega
    · obtain rfl : k = s.size := by omega
      have e : s.data.toList.take s.size = s.data.toList := List.take_of_length_le (by simp)
      rw [e] at HA HB hlt
      obtain ⟨a, ha⟩ : ∃ a, a = (adl s.data.toList).1 := ⟨_, rfl⟩
      obtain ⟨b, hb⟩ : ∃ b, b = (adl s.data.toList).2 := ⟨_, rfl⟩
      rw [← ha, ← hb] at hlt
      rw [← ha] at HA
      rw [← hb] at HB
      obtain ⟨hlt1, hlt2⟩ := hlt
      have HF := Lib.hid (show sumF s = b * 65536 + a by rw [sumF, ← ha, ← hb])
      have cA : wr.cell? ⟨w.heap.size, 0, none⟩ = some (.int .u32 a) := HA.out.cell 0
      have cB : wr.cell? ⟨w.heap.size + 1, 0, none⟩ = some (.int .u32 b) := HB.out.cell 0
      clear e ha hb
      go_wp2
      go_ret
      refine ⟨?_, XR.out⟩
      have e1 : ((b : Int) * 65536) = ((b * 65536 : Nat) : Int) := by omega
      rw [HF.out, e1, u32_or_nat _ _ (by omega) (by omega)]
      have e2 : b * 65536 ||| a = b * 65536 + a := by
        have := Nat.two_pow_add_eq_or_of_lt (i := 16) (b := a) (by omega) b
        rw [Nat.mul_comm b 65536]
        exact this.symm
      rw [e2]
      rfl

set_option maxRecDepth 100000 in
set_option maxHeartbeats 1000000 in
theorem rsum_any (s : ByteArray) (w : World) (hs : s.size ≤ 9223372036854775807) :
    Calls Try.prog 58 #[.string s] w (Ret1 (.int .u32 (sumF s)) w) := by
  go_enter Try.func58, Try.ntmps58
  go_wp2
  go_loop [3, 4, 5] (fun x y v => ∃ k : Nat, v = .int .i64 k ∧ k ≤ s.size ∧ x = .int .i64 (adl (s.data.toList.take k)).1 ∧ y = .int .i64 (adl (s.data.toList.take k)).2) (fun _ _ v => s.size - (intOf v).toNat)
  case atStart => exact ⟨0, rfl, Nat.zero_le _, rfl, rfl⟩
  case round =>
    obtain ⟨k, rfl, hk, rfl, rfl⟩ := hrel
    have hlt := adl_lt (s.data.toList.take k)
    rcases Nat.lt_or_ge k s.size with hk1 | hk1
    · have HS := Lib.hid (adl_snoc s k hk1)
      obtain ⟨a, ha⟩ : ∃ a, a = (adl (s.data.toList.take k)).1 := ⟨_, rfl⟩
      obtain ⟨b, hb⟩ : ∃ b, b = (adl (s.data.toList.take k)).2 := ⟨_, rfl⟩
      rw [← ha, ← hb] at HS hlt ⊢
      obtain ⟨hlt1, hlt2⟩ := hlt
      have hcb : s[k].toNat < 256 := UInt8.toNat_lt _
      clear ha hb
      obtain ⟨c, hc⟩ : ∃ c : UInt8, c = s[k] := ⟨_, rfl⟩
      have HC := Lib.hid hc
      have hk2 : (k : Int) < (s.size : Int) := by omega
      have hk3 : (0 : Int) ≤ (k : Int) := by omega
      clear hc
      go_wp2
      go_round
      case rel => exact ⟨k + 1, by go_num, by omega, by rw [HS.out]; congr 1, by rw [HS.out]; congr 1⟩
      case measure => simp [intOf]; omega
    · obtain rfl : k = s.size := by omega
      have e : s.data.toList.take s.size = s.data.toList := List.take_of_length_le (by simp)
      rw [e] at hlt ⊢
      obtain ⟨a, ha⟩ : ∃ a, a = (adl s.data.toList).1 := ⟨_, rfl⟩
      obtain ⟨b, hb⟩ : ∃ b, b = (adl s.data.toList).2 := ⟨_, rfl⟩
      rw [← ha, ← hb] at hlt ⊢
      obtain ⟨hlt1, hlt2⟩ := hlt
      have HF := Lib.hid (show sumF s = b * 65536 + a by rw [sumF, ← ha, ← hb])
      clear e ha hb
      go_wp2
      go_ret
      exact Ret1.int (by rw [HF.out]; omega) (Ext.refl _)
end Go.Proofs.Ytkkldciofndedaa

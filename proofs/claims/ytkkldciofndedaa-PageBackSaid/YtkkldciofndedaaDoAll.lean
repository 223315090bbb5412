/- Put and Do, the program's and the reference's, under one name each: what they answer is the same. -/
import Derived.Test.YtkkldciofndedaaRefRoom
namespace Go.Proofs.Ytkkldciofndedaa
open Go.RowKit
set_option linter.unusedVariables false

/-- page.Put and the reference's Put, from every world, hand over the page K L I and the error E -/
structure PutBoth (k l : Int) (ss : List ByteArray) (slot : Int) (s : ByteArray) (K L : Int) (I : List ByteArray) (E : Int) : Prop where
  own : ∀ (A : Option Addr) (n c : Nat) (w : World), n = ss.length → At w A (ss.map Value.string) → Calls Try.prog 18 #[.agg #[.int .i64 k, .int .i64 l, .slice A n c], .int .i64 slot, .string s] w (PgPost K L I E w)
  ref : ∀ (A : Option Addr) (n c : Nat) (w : World), n = ss.length → n ≤ c → At w A (ss.map Value.string) → Calls Try.prog 23 #[.agg #[.int .i64 k, .int .i64 l, .slice A n c], .int .i64 slot, .string s] w (GotPost K L I E w)
  len : I.length ≤ 24
structure DoBoth (k l : Int) (ss : List ByteArray) (pg slot : Int) (s : ByteArray) (lsn : Int) (K L : Int) (I : List ByteArray) (E : Int) : Prop where
  own : ∀ (A : Option Addr) (n c : Nat) (w : World), n = ss.length → At w A (ss.map Value.string) → Calls Try.prog 21 #[.agg #[.int .i64 k, .int .i64 l, .slice A n c], .agg #[.int .i64 pg, .int .i64 slot, .string s], .int .i64 lsn] w (PgPost K L I E w)
  ref : ∀ (A : Option Addr) (n c : Nat) (w : World), n = ss.length → n ≤ c → At w A (ss.map Value.string) → Calls Try.prog 24 #[.agg #[.int .i64 k, .int .i64 l, .slice A n c], .agg #[.int .i64 pg, .int .i64 slot, .string s], .int .i64 lsn] w (GotPost K L I E w)
  len : I.length ≤ 24
theorem putItems_len (k l : Int) (ss : List ByteArray) (slot : Int) (s : ByteArray) : (putItems k l ss slot s).length ≤ 24 := by
  unfold putItems
  split
  · rename_i h
    have hr : rightB k l ss = true := by
      unfold putErr at h
      rcases hb : rightB k l ss with _ | _
      · rw [hb] at h; simp at h
      · rfl
    exact (right_parts (put_right hr h)).2.2.1.1
  · simp
theorem put_both (k l : Int) (ss : List ByteArray) (slot : Int) (s : ByteArray) (hs : Small ss) (hss : s.size ≤ 9223372036854775807) : ∃ K L I E, PutBoth k l ss slot s K L I E :=
  ⟨_, _, _, _, fun A n c w hn h => by rw [← put_eq]; exact put_any _ _ _ _ _ _ _ _ _ hn h hs hss, fun A n c w hn hc h => by rw [← rput_eq]; exact rput_any _ _ _ _ _ _ _ _ _ hn h hs hc hss, putItems_len k l ss slot s⟩
theorem do_both (k l : Int) (ss : List ByteArray) (pg slot : Int) (s : ByteArray) (lsn : Int) (hs : Small ss) (hss : s.size ≤ 9223372036854775807) : ∃ K L I E, DoBoth k l ss pg slot s lsn K L I E := by
  rcases hr : rightB k l ss with _ | _
  · exact ⟨_, _, _, _, fun A n c w hn h => do_not _ _ _ _ _ _ _ _ _ _ _ hn h hs hr, fun A n c w hn hc h => rdo_not _ _ _ _ _ _ _ _ _ _ _ hn hc h hs hr, Nat.zero_le _⟩
  · rcases Int.lt_or_le lsn 0 with h1 | h1
    · exact ⟨_, _, _, _, fun A n c w hn h => do_lsn_low _ _ _ _ _ _ _ _ _ _ _ hn h hs hr h1, fun A n c w hn hc h => rdo_lsn_low _ _ _ _ _ _ _ _ _ _ _ hn hc h hs hr h1, Nat.zero_le _⟩
    · rcases Int.lt_or_le 2147483647 lsn with h2 | h2
      · exact ⟨_, _, _, _, fun A n c w hn h => do_lsn_high _ _ _ _ _ _ _ _ _ _ _ hn h hs hr h2, fun A n c w hn hc h => rdo_lsn_high _ _ _ _ _ _ _ _ _ _ _ hn hc h hs hr h2, Nat.zero_le _⟩
      · by_cases h3 : slot = -1
        · subst h3
          by_cases h4 : s.size = 1
          · rcases Nat.lt_or_ge 2 (s[0]'(by omega)).toNat with h5 | h5
            · exact ⟨_, _, _, _, fun A n c w hn h => do_kind_bad _ _ _ _ _ _ _ _ _ _ hn h hs hr ⟨h1, h2⟩ h4 h5, fun A n c w hn hc h => rdo_kind_bad _ _ _ _ _ _ _ _ _ _ hn hc h hs hr ⟨h1, h2⟩ h4 h5, Nat.zero_le _⟩
            · exact ⟨((s[0]'(by omega)).toNat : Nat), lsn, [], 0, fun A n c w hn h => do_kind_ok _ _ _ _ _ _ _ _ _ _ hn h hs hr ⟨h1, h2⟩ h4 h5, fun A n c w hn hc h => rdo_kind_ok _ _ _ _ _ _ _ _ _ _ hn hc h hs hr ⟨h1, h2⟩ h4 h5, Nat.zero_le _⟩
          · exact ⟨_, _, _, _, fun A n c w hn h => do_kind_len _ _ _ _ _ _ _ _ _ _ hn h hs hr ⟨h1, h2⟩ h4, fun A n c w hn hc h => rdo_kind_len _ _ _ _ _ _ _ _ _ _ hn hc h hs hr ⟨h1, h2⟩ h4, Nat.zero_le _⟩
        · exact ⟨_, _, _, _, fun A n c w hn h => do_right _ _ _ _ _ _ _ _ _ _ _ hn h hr hss ⟨h1, h2⟩ h3, fun A n c w hn hc h => rdo_right _ _ _ _ _ _ _ _ _ _ _ hn hc h hs hr ⟨h1, h2⟩ h3 hss, putItems_len k l ss slot s⟩
end Go.Proofs.Ytkkldciofndedaa

/- strings.Builder.WriteByte over the one entry. -/
import Derived.Test.YtfjpglohcppjeaaDoorSbw
namespace Go.Proofs.YtfjpglohcppjeaaDoor
open Go.RowKit
set_option linter.unusedVariables false

set_option maxHeartbeats 2000000 in
set_option maxRecDepth 100000 in
theorem sbc_any (b : Nat) (r : Option Nat) (xs : List Value) (k : Int) (w : World) (h : SbAt w b r xs) (hlen : xs.length + 1 ≤ 1000000) :
    Calls Tryd.prog 108 #[.pointer (some ⟨b, 0, none⟩), .int .u8 k] w fun e w' => e = .returned .nilIface ∧ SbPost b r (xs ++ [.int .u8 k]) w w' := by
  obtain ⟨i0, hi, hz0, hz1, hz2⟩ := info_parts Tryd.infoU8
  have hnb := h.ne
  obtain ⟨p, v, hbk0, hp, hown0, hr⟩ := h
  subst hr
  go_enter Tryd.func108, Tryd.ntmps108
  go_wp2_with fail
  refine (sbcheck_any b p v w hbk0 hp).mono ?_
  rintro e w1 ⟨rfl, hbk, hb1⟩
  have hown1 : w1.ownsRow 0 5 1 v xs.length xs := eO_loc 5 1 v xs.length xs w w1 (fun k hk => by
    have h5 : v.ownBlock = some k := by simpa [eO] using hk
    exact hb1.block k (own0_block hown0 k h5) (by simp; intro e; exact hnb (by rw [h5, e]))) hown0
  have c0 : w1.cell? ⟨b, 0, none⟩ = some (.pointer (some ⟨b, 0, none⟩)) := hbk.cell 0
  have c1 : w1.cell? ⟨b, 1, none⟩ = some v := hbk.cell 1
  have hX : Ext w1 (w1.alloc (.cells #[.int .u8 k] 5)) := (Ext.refl w1).alloc _
  have hown := own_ext hown1 hX
  have hbk' := hbk.ext hX
  go_wp2_with (at_builtin; refine wpl_append _ rfl _ _ 42 rfl 0 5 i0 _ 1 Tryd.underlying42 hi hz0 hz1 hz2 rfl _ _ _ rfl hown _ 1 1 [.int .u8 k] rfl rfl ?c1 (by simp [Value.oneCell']) ?c3 ?c4 (Nat.zero_le _) ?_)
  case c1 => exact At.one_new _ _ _
  case c3 => unfold maxLen; omega
  case c4 => omega
  intro v' w2 hown' hgrow hat
  have hb2 : Blk w2 b 143 #[.pointer (some ⟨b, 0, none⟩), v] := hbk'.grown hgrow (own_ne hown hbk' (by decide))
  have d0 : w2.cell? ⟨b, 0, none⟩ = some (.pointer (some ⟨b, 0, none⟩)) := hb2.cell 0
  have d1 : w2.cell? ⟨b, 1, none⟩ = some v := hb2.cell 1
  have f1 : w2.frozen? ⟨b, 1, none⟩ = false := hb2.frozen 1
  obtain ⟨ao, n', cap, rfl⟩ : ∃ ao n' cap, v' = .slice ao n' cap := by
    rcases hown'.2 with ⟨hv, _⟩ | ⟨g, cap, cur, hv, _⟩
    · exact ⟨_, _, _, hv⟩
    · exact ⟨_, _, _, hv⟩
  go_wp2
  go_ret
  refine ⟨rfl, _, ⟨_, _, hb2.set_ 1 _, .inr rfl, own_set (by simpa using hown') (own_ne hown' hb2 (by decide)) 1 _, rfl⟩, ?_, fun k hk => ?_⟩
  · exact (((hb1.mono (fun k _ hk => by simp at hk; simp [hk])).alloc _).grown hgrow (fun k hk => .inl (by simp [hk]))).set (p := ⟨b, 1, none⟩) (.inl (by simp)) _
  · rcases hat with h | h
    · exact .inl (h.symm.trans hk)
    · right
      have h6 := h.symm.trans hk
      injection h6 with h6
      have := hb1.size
      have := hX.size
      omega
end Go.Proofs.YtfjpglohcppjeaaDoor

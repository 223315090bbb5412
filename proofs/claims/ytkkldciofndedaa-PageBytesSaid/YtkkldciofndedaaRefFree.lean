/- the reference's Free and with. -/
import Derived.Test.YtkkldciofndedaaRefRight
namespace Go.Proofs.Ytkkldciofndedaa
open Go.RowKit

theorem item_get (ss : List ByteArray) (i : Nat) : itemF ss i = ss.getD i ByteArray.empty := by
  rw [itemF, if_neg (by omega), Int.toNat_natCast]
theorem item_ge (ss : List ByteArray) (i : Nat) (h : ss.length ≤ i) : (itemF ss i).toList.isEmpty = true := by
  rw [item_get]; simp [List.getD, List.getElem?_eq_none h]

set_option maxRecDepth 100000 in
set_option maxHeartbeats 1000000 in
theorem rfree_any (k l : Int) (A : Option Addr) (n c : Nat) (ss : List ByteArray) (fr : Int) (w : World) (hn : n = ss.length) (h : At w A (ss.map Value.string)) (hs : Small ss) (hc : n ≤ c) :
    Calls Try.prog 25 #[.agg #[.int .i64 k, .int .i64 l, .slice A n c], .int .i64 fr] w (Ret1 (.int .i64 (freeF k l ss fr)) w) := by
  subst hn
  have H := Lib.hid h; clear h
  have hl := hs.1
  have HS := Lib.hid hs; clear hs
  have X0 := Lib.hid ((Ext.refl w).alloc (.cells #[.int .i64 k, .int .i64 l, .slice A ss.length c] 26))
  rcases hr : rightB k l ss with _ | _
  · have HR := Lib.hid hr; clear hr
    go_enter Try.func25, Try.ntmps25
    go_wp2_with (go_at_call 43; refine (rright_any _ _ _ _ _ _ _ rfl (H.out.ext X0.out) HS.out hc).mono ?_; rw [HR.out]; rintro e w1 ⟨rfl, hx⟩; have X1 := Lib.hid (X0.out.trans hx); clear hx)
    go_ret
    exact Ret1.int (by rw [freeF, HR.out]; rfl) X1.out
  · have HR := Lib.hid hr; clear hr
    obtain ⟨K, hK⟩ : ∃ K, K = (max fr 0).toNat := ⟨_, rfl⟩
    have HF := Lib.hid (show freeF k l ss fr = frL ss (24 - K) K by rw [freeF, HR.out, if_pos rfl, hK])
    have HK := Lib.hid hK
    clear hK
    rcases Int.lt_or_le fr 0 with hfr | hfr
    all_goals
      go_enter Try.func25, Try.ntmps25
      go_wp2_with (go_at_call 43; refine (rright_any _ _ _ _ _ _ _ rfl (H.out.ext X0.out) HS.out hc).mono ?_; rw [HR.out]; rintro e w1 ⟨rfl, hx⟩; have X1 := Lib.hid hx; clear hx)
      go_loopw [5] (fun i wr => ∃ k' : Nat, i = .int .i64 k' ∧ freeF k l ss fr = frL ss (24 - k') k' ∧ Ext (w.alloc (.cells #[.int .i64 k, .int .i64 l, .slice A ss.length c] 26)) wr) (fun i _ => 24 - (intOf i).toNat)
      case atStart => exact ⟨K, by rw [HK.out]; go_num, HF.out, X1.out⟩
      case round =>
        obtain ⟨k', rfl, hk, hx⟩ := hrel
        have Hk := Lib.hid hk
        have p0 : wr.cell? ⟨w.heap.size, 0, none⟩ = some (.int .i64 k) := hx.cell_new 0
        have p1 : wr.cell? ⟨w.heap.size, 1, none⟩ = some (.int .i64 l) := hx.cell_new 1
        have p2 : wr.cell? ⟨w.heap.size, 2, none⟩ = some (.slice A ss.length c) := hx.cell_new 2
        have XR := Lib.hid hx
        clear hk hx
        rcases Nat.lt_or_ge k' 24 with h24 | h24
        · obtain ⟨n, hn⟩ : ∃ n, 24 - k' = n + 1 := ⟨23 - k', by omega⟩
          have Hn := Lib.hid (show freeF k l ss fr = frL ss (n + 1) k' by rw [Hk.out, hn])
          have HN := Lib.hid (show 24 - (k' + 1) = n by omega)
          have Hge := Lib.hid (item_ge ss k')
          have Hget := Lib.hid (item_get ss k')
          clear hn Hk
          obtain ⟨s, hs⟩ : ∃ s, s = itemF ss k' := ⟨_, rfl⟩
          rw [← hs] at Hge Hget
          have Hs := Lib.hid hs
          clear hs
          rcases he : s.toList.isEmpty with _ | _
          · have He := Lib.hid he
            go_wp2_with (go_at_call 46; refine (ritem_any _ _ _ _ _ _ _ _ rfl (H.out.ext (X0.out.trans XR.out)) hl).mono ?_; rw [← Hs.out]; rintro e w2 ⟨rfl, hx⟩; have X2 := Lib.hid (XR.out.trans hx); clear hx)
            go_roundw
            case rel => exact ⟨k' + 1, by go_num, by rw [Hn.out, frL_succ, if_neg (fun h => by have := Hge.out h; rw [He.out] at this; cases this), ← Hget.out, He.out, HN.out]; rfl, X2.out⟩
            case measure => simp [intOf]; omega
          · have He := Lib.hid he
            go_wp2_with (go_at_call 46; refine (ritem_any _ _ _ _ _ _ _ _ rfl (H.out.ext (X0.out.trans XR.out)) hl).mono ?_; rw [← Hs.out]; rintro e w2 ⟨rfl, hx⟩; have X2 := Lib.hid (X0.out.trans (XR.out.trans hx)); clear hx)
            go_ret
            exact Ret1.int (by rw [Hn.out, frL_succ, ← Hget.out, He.out]; simp) X2.out
        · go_wp2
          go_ret
          exact Ret1.int (by rw [Hk.out, show 24 - k' = 0 by omega]; rfl) (X0.out.trans XR.out)
end Go.Proofs.Ytkkldciofndedaa

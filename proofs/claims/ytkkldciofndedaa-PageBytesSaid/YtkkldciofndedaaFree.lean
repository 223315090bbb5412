/- page.Free and page.Room. -/
import Derived.Test.YtkkldciofndedaaRight
namespace Go.Proofs.Ytkkldciofndedaa
open Go.RowKit

/-- the first empty slot among the n slots from i on -/
def frL (ss : List ByteArray) : Nat → Nat → Int
  | 0, _ => -1
  | n + 1, i => if ss.length ≤ i then i else if (ss.getD i ByteArray.empty).toList.isEmpty then i else frL ss n (i + 1)
theorem frL_succ (ss : List ByteArray) (n i : Nat) : frL ss (n + 1) i = if ss.length ≤ i then (i : Int) else if (ss.getD i ByteArray.empty).toList.isEmpty then (i : Int) else frL ss n (i + 1) := rfl
def freeF (k l : Int) (ss : List ByteArray) (from_ : Int) : Int := if rightB k l ss then frL ss (24 - (max from_ 0).toNat) (max from_ 0).toNat else -1

set_option maxRecDepth 100000 in
set_option maxHeartbeats 1000000 in
theorem free_any (k l : Int) (A : Option Addr) (c : Nat) (ss : List ByteArray) (fr : Int) (w : World) (h : At w A (ss.map Value.string)) (hs : Small ss) :
    Calls Try.prog 16 #[.agg #[.int .i64 k, .int .i64 l, .slice A ss.length c], .int .i64 fr] w (Ret1 (.int .i64 (freeF k l ss fr)) w) := by
  have H := Lib.hid h; clear h
  have hl := hs.1
  have HS := Lib.hid hs; clear hs
  have X0 := Lib.hid ((Ext.refl w).alloc (.cells #[.int .i64 k, .int .i64 l, .slice A ss.length c] 26))
  rcases hr : rightB k l ss with _ | _
  · have HR := Lib.hid hr; clear hr
    go_enter Try.func16, Try.ntmps16
    go_wp2_with (go_at_call 42; refine (right_any _ _ _ _ _ _ (H.out.ext X0.out) HS.out).mono ?_; rw [HR.out]; rintro e w1 ⟨rfl, hx⟩; have X1 := Lib.hid (X0.out.trans hx); clear hx)
    go_ret
    exact Ret1.int (by rw [freeF, HR.out]; rfl) X1.out
  · have HR := Lib.hid hr; clear hr
    obtain ⟨K, hK⟩ : ∃ K, K = (max fr 0).toNat := ⟨_, rfl⟩
    have HF := Lib.hid (show freeF k l ss fr = frL ss (24 - K) K by rw [freeF, HR.out, if_pos rfl, hK])
    have HK := Lib.hid hK
    clear hK
    rcases Int.lt_or_le fr 0 with hfr | hfr
    all_goals
      go_enter Try.func16, Try.ntmps16
      go_wp2_with (go_at_call 42; refine (right_any _ _ _ _ _ _ (H.out.ext X0.out) HS.out).mono ?_; rw [HR.out]; rintro e w1 ⟨rfl, hx⟩; have X1 := Lib.hid (X0.out.trans hx); have hc2 : w1.cell? ⟨w.heap.size, 2, none⟩ = some (.slice A ss.length c) := hx.cell_new 2; clear hx)
      go_loop [5] (fun i => ∃ k' : Nat, i = .int .i64 k' ∧ freeF k l ss fr = frL ss (24 - k') k') (fun i => 24 - (intOf i).toNat)
      case atStart => exact ⟨K, by rw [HK.out]; go_num, HF.out⟩
      case round =>
        obtain ⟨k', rfl, hk⟩ := hrel
        have Hk := Lib.hid hk
        clear hk
        rcases Nat.lt_or_ge k' 24 with h24 | h24
        · obtain ⟨n, hn⟩ : ∃ n, 24 - k' = n + 1 := ⟨23 - k', by omega⟩
          have Hn := Lib.hid (show freeF k l ss fr = frL ss (n + 1) k' by rw [Hk.out, hn])
          have HN := Lib.hid (show 24 - (k' + 1) = n by omega)
          clear hn Hk
          rcases Nat.lt_or_ge k' ss.length with hlt | hge
          · obtain ⟨ad, rfl, hblk, hc⟩ := (H.out.ext X1.out).get (k := k') (by simpa using hlt)
            rw [List.getElem_map] at hc
            have Hg := Lib.hid (show ss[k'] = ss.getD k' ByteArray.empty by simp [List.getD, hlt])
            obtain ⟨s, hs⟩ : ∃ s, s = ss[k'] := ⟨_, rfl⟩
            rw [← hs] at hc Hg
            clear hs
            rcases he : s.toList.isEmpty with _ | _
            · go_wp2
              go_round
              case rel => exact ⟨k' + 1, by go_num, by rw [Hn.out, frL_succ, if_neg (by omega), ← Hg.out, he, HN.out]; rfl⟩
              case measure => simp [intOf]; omega
            · go_wp2
              go_ret
              exact Ret1.int (by rw [Hn.out, frL_succ, if_neg (by omega), ← Hg.out, he]; rfl) X1.out
          · go_wp2
            go_ret
            exact Ret1.int (by rw [Hn.out, frL_succ, if_pos (by omega)]) X1.out
        · go_wp2
          go_ret
          exact Ret1.int (by rw [Hk.out, show 24 - k' = 0 by omega]; rfl) X1.out

def roomF (k l : Int) (ss : List ByteArray) : Int :=
  if freeF k l ss 0 < 0 then 0 else if ((plainL ss).length : Int) ≤ freeF k l ss 0 then max 0 (min (512 - (sizeL ss : Int) - 2) 400) else max 0 (min (512 - (sizeL ss : Int)) 400)

theorem sizeL_le {ss : List ByteArray} (h : Small ss) : sizeL ss ≤ 14 + 100000 * 1000002 := by
  have := (Small.plain h).take (plainL ss).length
  rw [List.take_length] at this
  unfold sizeL
  omega

set_option maxRecDepth 100000 in
set_option maxHeartbeats 1000000 in
theorem room_any (k l : Int) (A : Option Addr) (c : Nat) (ss : List ByteArray) (w : World) (h : At w A (ss.map Value.string)) (hs : Small ss) :
    Calls Try.prog 15 #[.agg #[.int .i64 k, .int .i64 l, .slice A ss.length c]] w (Ret1 (.int .i64 (roomF k l ss)) w) := by
  have H := Lib.hid h; clear h
  have hl := hs.1
  have hpl := (Small.plain hs).1
  have hsz := sizeL_le hs
  have HS := Lib.hid hs; clear hs
  have X0 := Lib.hid ((Ext.refl w).alloc (.cells #[.int .i64 k, .int .i64 l, .slice A ss.length c] 26))
  obtain ⟨f, hf⟩ : ∃ f, f = freeF k l ss 0 := ⟨_, rfl⟩
  have HF := Lib.hid hf
  clear hf
  obtain ⟨z, hz⟩ : ∃ z, z = sizeL ss := ⟨_, rfl⟩
  rw [← hz] at hsz
  have HZ := Lib.hid hz
  clear hz
  have HR := Lib.hid (show roomF k l ss = if f < 0 then 0 else if ((plainL ss).length : Int) ≤ f then max 0 (min (512 - (z : Int) - 2) 400) else max 0 (min (512 - (z : Int)) 400) by rw [roomF, ← HF.out, ← HZ.out])
  go_enter Try.func15, Try.ntmps15
  go_wp2_with (first
    | (go_at_call 16; refine (free_any _ _ _ _ _ _ _ (H.out.ext X0.out) HS.out).mono ?_; rw [← HF.out]; rintro e w1 ⟨rfl, hx⟩; have X1 := Lib.hid (X0.out.trans hx); have hc2 : w1.cell? ⟨w.heap.size, 2, none⟩ = some (.slice A ss.length c) := hx.cell_new 2; have hsz1 := hx.lt_new; clear hx)
    | (go_at_call 40; refine (size_any _ _ _ _ (H.out.ext X1.out) HS.out).mono ?_; rw [← HZ.out]; rintro e w2 ⟨rfl, hx⟩; have X2 := Lib.hid (X1.out.trans hx); have hc3 : w2.cell? ⟨w.heap.size, 2, none⟩ = some (.slice A ss.length c) := (hx.cell (p := ⟨w.heap.size, 2, none⟩) (by omega)).trans hc2; clear hx)
    | (go_at_call 41; refine (plain_any _ _ _ _ (H.out.ext X2.out) HS.out.1).mono ?_; rintro e w3 ⟨rfl, _, hx⟩; have X3 := Lib.hid (X2.out.trans hx); clear hx))
  all_goals go_ret
  all_goals first
    | (refine Ret1.int ?_ X1.out; rw [HR.out]; split <;> omega)
    | (refine Ret1.int ?_ X3.out; rw [HR.out]; split <;> (try split) <;> omega)
end Go.Proofs.Ytkkldciofndedaa

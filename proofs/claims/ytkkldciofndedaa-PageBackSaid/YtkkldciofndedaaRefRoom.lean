/- the reference's Room: it tries every length. -/
import Derived.Test.YtkkldciofndedaaRoomPlain
import Derived.Test.YtkkldciofndedaaRaw
namespace Go.Proofs.Ytkkldciofndedaa
open Go.RowKit
set_option linter.unusedVariables false

theorem sizeL_plain (ss : List ByteArray) : sizeL (plainL ss) = sizeL ss := by rw [sizeL, plain_plain, sizeL]
def dF (ss : List ByteArray) (K : Nat) : Nat := if (plainL ss).length ≤ K then 2 else 0
/-- what Room's trial weighs -/
theorem room_ref {k l : Int} {ss : List ByteArray} (hr : rightB k l ss = true) :
    (freeF k l ss 0 = -1 ∧ roomF k l ss = 0) ∨ ∃ K : Nat, freeF k l ss 0 = K ∧ K < 24 ∧ (∀ s : ByteArray, 0 < s.size → sizeL (withL ss K s) = sizeL ss + s.size + dF ss K) ∧
      roomF k l ss = max 0 (min (512 - (sizeL ss : Int) - (dF ss K : Int)) 400) := by
  have hf : freeF k l ss 0 = frL ss 24 0 := by rw [freeF, hr, if_pos rfl]; rfl
  rcases frL_spec ss 24 0 with ⟨h1, h2⟩ | ⟨K, h1, _, h3, h4, h5⟩
  · left
    exact ⟨by rw [hf, h1], by rw [roomF, hf, h1]; rfl⟩
  · right
    have hK : K ≤ (plainL ss).length := by
      rcases Nat.lt_or_ge (plainL ss).length K with h | h
      · exfalso
        have hp := plainL_len ss
        have hn := h5 (plainL ss).length (by omega) h
        have he : emp (itemF ss (plainL ss).length) = true := by
          rcases Nat.lt_or_ge (plainL ss).length ss.length with g | g
          · exact trimN_emp ss ss.length _ (by omega) g
          · exact item_ge ss _ g
        rw [he] at hn; cases hn
      · exact h
    refine ⟨K, by rw [hf, h1], by omega, fun s hs => ?_, ?_⟩
    · rw [sizeL_with hK h4, if_neg (by omega), dF]; omega
    · rw [roomF, hf, h1, if_neg (by omega), dF]
      by_cases g : (plainL ss).length ≤ K
      · rw [if_pos (by omega), if_pos g]; rfl
      · rw [if_neg (by omega), if_neg g]; simp

theorem small_plain_with {ss : List ByteArray} (h : ss.length ≤ 24 ∧ ∀ s ∈ ss, s.size ≤ 400) (K : Nat) (hK : K < 24) (s : ByteArray) (hs : s.size ≤ 400) : Small (plainL (withL ss K s)) := Small.plain (small_with h K hK s hs)
set_option maxRecDepth 100000 in
set_option maxHeartbeats 2000000 in
theorem rroom_any (k l : Int) (A : Option Addr) (n c : Nat) (ss : List ByteArray) (w : World) (hn : n = ss.length) (h : At w A (ss.map Value.string)) (hs : Small ss) (hc : n ≤ c) :
    Calls Try.prog 26 #[.agg #[.int .i64 k, .int .i64 l, .slice A n c]] w (Ret1 (.int .i64 (roomF k l ss)) w) := by
  subst hn
  have H := Lib.hid h; clear h
  have hcz := hc
  have HS := Lib.hid hs; clear hs
  have X0 := Lib.hid ((Ext.refl w).alloc (.cells #[.int .i64 k, .int .i64 l, .slice A ss.length c] 26))
  rcases hr : rightB k l ss with _ | _
  · have hf : freeF k l ss 0 = -1 := by rw [freeF, hr]; rfl
    have HZ := Lib.hid (show roomF k l ss = 0 by rw [roomF, hf]; rfl)
    have HF := Lib.hid hf
    clear hf hr
    go_enter Try.func26, Try.ntmps26
    go_wp2_with fail
    refine (rfree_any _ _ _ _ _ _ _ _ rfl (H.out.ext X0.out) HS.out hc).mono ?_
    rw [HF.out]
    rintro e w1 ⟨rfl, hx⟩
    have X1 := Lib.hid (X0.out.trans hx)
    clear hx
    go_wp2
    go_ret
    exact Ret1.int HZ.out.symm X1.out
  · rcases room_ref hr with ⟨hf, hz⟩ | ⟨K, hf, hK, hw, hz⟩
    · have HZ := Lib.hid hz
      have HF := Lib.hid hf
      clear hf hr hz
      go_enter Try.func26, Try.ntmps26
      go_wp2_with fail
      refine (rfree_any _ _ _ _ _ _ _ _ rfl (H.out.ext X0.out) HS.out hc).mono ?_
      rw [HF.out]
      rintro e w1 ⟨rfl, hx⟩
      have X1 := Lib.hid (X0.out.trans hx)
      clear hx
      go_wp2
      go_ret
      exact Ret1.int HZ.out.symm X1.out
    · have HZ := Lib.hid hz
      have HF := Lib.hid hf
      have HW := Lib.hid hw
      have HR := Lib.hid hr
      clear hf hr hz hw
      obtain ⟨z, hz⟩ : ∃ z, z = sizeL ss + dF ss K := ⟨_, rfl⟩
      have HD := Lib.hid hz
      clear hz
      go_enter Try.func26, Try.ntmps26
      go_wp2_with fail
      refine (rfree_any _ _ _ _ _ _ _ _ rfl (H.out.ext X0.out) HS.out hc).mono ?_
      rw [HF.out]
      rintro e w1 ⟨rfl, hx⟩
      have X1 := Lib.hid (X0.out.trans hx)
      have B0 := Lib.hid ((Blk.new w 26 #[.int .i64 k, .int .i64 l, .slice A ss.length c]).ext hx)
      clear hx
      go_wp2
      go_loop [4] (fun v => ∃ s : ByteArray, v = .string s ∧ s.size ≤ 400) (fun v => match v with | .string s => 400 - s.size | _ => 0)
      case atStart => exact ⟨_, rfl, by decide⟩
      case round =>
        obtain ⟨s, rfl, hs⟩ := hrel
        rcases Nat.lt_or_ge s.size 400 with hlt | hge
        · have hlt' : (s.size : Int) < 400 := by omega
          go_wp2
          go_round
          case rel => exact ⟨_, rfl, by rw [ByteArray.size_append]; show s.size + 1 ≤ 400; omega⟩
          case measure =>
            show 400 - (s ++ ⟨#[120]⟩ : ByteArray).size < 400 - s.size
            rw [ByteArray.size_append]
            have e : (⟨#[120]⟩ : ByteArray).size = 1 := rfl
            omega
        · have hge' : ¬ (s.size : Int) < 400 := by omega
          have hse : s.size = 400 := by omega
          have HSe := Lib.hid hse
          clear hse hge
          go_wp2
          go_loopw [5] (fun v wr => ∃ j : Nat, v = .int .i64 j ∧ j ≤ 400 ∧ (∀ m : Nat, j < m → m ≤ 400 → 512 < z + m) ∧ Ext w1 wr) (fun v _ => (intOf v).toNat)
          case atStart => exact ⟨400, rfl, by omega, fun m h1 h2 => by omega, Ext.refl _⟩
          case round =>
            obtain ⟨j, rfl, hj, hm, hx⟩ := hrel
            have HM := Lib.hid hm
            have XR := Lib.hid hx
            clear hm hx
            rcases Nat.eq_zero_or_pos j with h0 | h0
            · subst h0
              go_wp2
              go_ret
              exact Ret1.int (by
                have h1 := HM.out 1 (by omega) (by omega)
                have h2 := HD.out
                rw [HZ.out]; omega) (X1.out.trans XR.out)
            · have h0' : (0 : Int) < (j : Int) := by omega
              have hj' : (j : Int) ≤ 400 := by omega
              obtain ⟨x, hx⟩ : ∃ x, x = s.extract 0 j := ⟨_, rfl⟩
              have hxs : x.size = j := by rw [hx, ByteArray.size_extract]; have := HSe.out; omega
              have hzx := HW.out x (by omega)
              rw [hxs] at hzx
              have hzz := HD.out
              obtain ⟨q, hq⟩ : ∃ q, q = sizeL (plainL (withL ss K x)) := ⟨_, rfl⟩
              have hqz : q = z + j := by rw [hq, sizeL_plain, hzx]; omega
              have Hx := Lib.hid hx
              have Hq := Lib.hid hq
              have Hxs := Lib.hid hxs
              have hjs : (j : Int) ≤ (s.size : Int) := by have := HSe.out; omega
              have HSW := Lib.hid (small_plain_with (ss := ss) (right_parts HR.out).2.2.1 K hK x (by omega))
              clear hx hq hxs hzx hzz
              by_cases hq5 : q ≤ 512
              · have hq5' : decide ((q : Int) ≤ 512) = true := by simp; omega
                go_wp2_with fail
                refine wp_region_E (by kernel_rfl) [0, 0, 0, 0, 12, 31, 63, 127] (fun ix v W => match ix with | 0 => v = .agg #[.int .i64 k, .int .i64 l, .slice A ss.length c] | 1 => v = .int .i64 K | 2 => v = .string s | 3 => v = .int .i64 j | 4 => v = .string x | 5 => ∃ (A24 : Option Addr) (c24 : Nat), v = .agg #[.int .i64 k, .int .i64 l, .slice A24 ((plainL (withL ss K x)).length) c24] ∧ W.ownsRow 0 9 1 (.slice A24 (plainL (withL ss K x)).length c24) (plainL (withL ss K x)).length ((plainL (withL ss K x)).map Value.string) | 6 => v = .int .i64 q | 7 => v = .bool true | _ => True) (by kernel_rfl) (by kernel_rfl) ?_ ?_ ?_
                · intro ix v W W' h hx
                  match ix, h with
                  | 0, h => exact h
                  | 1, h => exact h
                  | 2, h => exact h
                  | 3, h => exact h
                  | 4, h => exact h
                  | 5, h => exact let ⟨A24, c24, he, ho24⟩ := h; ⟨A24, c24, he, own_ext ho24 hx⟩
                  | 6, h => exact h
                  | 7, h => exact h
                  | _ + 8, _ => trivial
                · refine ⟨⟨⟨⟨⟨⟨⟨⟨trivial, ?_⟩, ?_⟩, ?_⟩, ?_⟩, ?_⟩, ?_⟩, ?_⟩, ?_⟩
                  · intro ρ W hS hx hout hpre
                    refine GSay.none rfl ?_
                    have f1 : ρ (.tmp 1) = .pointer (some ⟨w.heap.size, 0, none⟩) := hout 1 (by kernel_rfl)
                    exact DoesU.value (v := .agg #[.int .i64 k, .int .i64 l, .slice A ss.length c]) (w' := W) (by simp [go_sem, f1, (show W.cell? ⟨w.heap.size, 0, none⟩ = some (.int .i64 k) from ((B0.out.ext (XR.out.trans hx))).cell 0), (show W.cell? ⟨w.heap.size, 1, none⟩ = some (.int .i64 l) from ((B0.out.ext (XR.out.trans hx))).cell 1), (show W.cell? ⟨w.heap.size, 2, none⟩ = some (.slice A ss.length c) from ((B0.out.ext (XR.out.trans hx))).cell 2)]) ⟨rfl, Ext.refl _⟩
                  · intro ρ W hS hx hout hpre
                    refine GSay.none rfl ?_
                    have f3 : ρ (.tmp 3) = .int .i64 K := hout 3 (by kernel_rfl)
                    exact DoesU.value (v := .int .i64 K) (w' := W) (by simp [go_sem, f3]) ⟨rfl, Ext.refl _⟩
                  · intro ρ W hS hx hout hpre
                    refine GSay.none rfl ?_
                    have f4 : ρ (.tmp 4) = .string s := hout 4 (by kernel_rfl)
                    exact DoesU.value (v := .string s) (w' := W) (by simp [go_sem, f4]) ⟨rfl, Ext.refl _⟩
                  · intro ρ W hS hx hout hpre
                    refine GSay.none rfl ?_
                    have f5 : ρ (.tmp 5) = .int .i64 j := hout 5 (by kernel_rfl)
                    exact DoesU.value (v := .int .i64 j) (w' := W) (by simp [go_sem, f5]) ⟨rfl, Ext.refl _⟩
                  · intro ρ W hS hx hout hpre
                    refine GSay.none rfl ?_
                    have f21 : ρ (.tmp 21) = .string s := hpre 2 21 (by kernel_rfl)
                    have f22 : ρ (.tmp 22) = .int .i64 j := hpre 3 22 (by kernel_rfl)
                    exact DoesU.value (v := .string x) (w' := W) (by simp [go_sem, f21, f22, hjs, Hx.out]) ⟨rfl, Ext.refl _⟩
                  · intro ρ W hS hx hout hpre
                    refine GSay.none rfl ?_
                    have f19 : ρ (.tmp 19) = .agg #[.int .i64 k, .int .i64 l, .slice A ss.length c] := hpre 0 19 (by kernel_rfl)
                    have f20 : ρ (.tmp 20) = .int .i64 K := hpre 1 20 (by kernel_rfl)
                    have f23 : ρ (.tmp 23) = .string x := hpre 4 23 (by kernel_rfl)
                    refine DoesU.call (f := 44) (args := #[.agg #[.int .i64 k, .int .i64 l, .slice A ss.length c], .int .i64 K, .string x]) (w' := W) (by simp [go_sem, hS.func, f19, f20, f23]) ?_
                    refine (rwith_any _ _ _ _ _ _ K x _ rfl (H.out.ext (X1.out.trans (XR.out.trans hx))) HS.out hcz hK).mono ?_
                    rintro e w6 ⟨A24, c24, rfl, ho24, hx6⟩
                    exact ⟨_, rfl, ⟨A24, c24, rfl, own_mono ho24 (Nat.zero_le _)⟩, hx6⟩
                  · intro ρ W hS hx hout hpre
                    refine GSay.none rfl ?_
                    obtain ⟨A24, c24, f24, ho24⟩ := hpre 5 24 (by kernel_rfl)
                    refine DoesU.call (f := 45) (args := #[.agg #[.int .i64 k, .int .i64 l, .slice A24 ((plainL (withL ss K x)).length) c24]]) (w' := W) (by simp [go_sem, hS.func, f24]) ?_
                    refine (rsize_any _ _ _ _ _ _ _ rfl (At.of_own ho24) HSW.out (own_cap ho24)).mono ?_
                    rw [← Hq.out]
                    rintro e w6 ⟨rfl, hx6⟩
                    exact ⟨_, rfl, rfl, hx6⟩
                  · intro ρ W hS hx hout hpre
                    refine GSay.none rfl ?_
                    have f25 : ρ (.tmp 25) = .int .i64 q := hpre 6 25 (by kernel_rfl)
                    exact DoesU.value (v := .bool true) (w' := W) (by simp [go_sem, hS.const, f25]; omega) ⟨rfl, Ext.refl _⟩
                intro vs W hl hD hx
                replace hl := hl.trans (show (idxU _).length = 8 by kernel_rfl)
                rcases vs with _ | ⟨v19, vs⟩; · simp at hl
                rcases vs with _ | ⟨v20, vs⟩; · simp at hl
                rcases vs with _ | ⟨v21, vs⟩; · simp at hl
                rcases vs with _ | ⟨v22, vs⟩; · simp at hl
                rcases vs with _ | ⟨v23, vs⟩; · simp at hl
                rcases vs with _ | ⟨v24, vs⟩; · simp at hl
                rcases vs with _ | ⟨v25, vs⟩; · simp at hl
                rcases vs with _ | ⟨v26, vs⟩; · simp at hl
                obtain rfl : vs = [] := List.eq_nil_of_length_eq_zero (by simpa using hl)
                clear hl
                obtain rfl : v19 = .agg #[.int .i64 k, .int .i64 l, .slice A ss.length c] := hD 0 0 v19 (by kernel_rfl) rfl
                obtain rfl : v20 = .int .i64 K := hD 1 1 v20 (by kernel_rfl) rfl
                obtain rfl : v21 = .string s := hD 2 2 v21 (by kernel_rfl) rfl
                obtain rfl : v22 = .int .i64 j := hD 3 3 v22 (by kernel_rfl) rfl
                obtain rfl : v23 = .string x := hD 4 4 v23 (by kernel_rfl) rfl
                obtain ⟨A24, c24, rfl, ho24⟩ := hD 5 5 v24 (by kernel_rfl) rfl
                obtain rfl : v25 = .int .i64 q := hD 6 6 v25 (by kernel_rfl) rfl
                obtain rfl : v26 = .bool true := hD 7 7 v26 (by kernel_rfl) rfl
                clear hD
                rw [show dstsU _ = [19, 20, 21, 22, 23, 24, 25, 26] by kernel_rfl]
                simp only [putAll, List.setIfInBounds_toArray, List.set_cons_succ, List.set_cons_zero]
                have XW := Lib.hid (XR.out.trans hx)
                clear hx ho24
                go_wp2
                go_ret
                exact Ret1.int (by
                  have h2 := HD.out
                  have h3 : ∀ m : Nat, m = j + 1 → m ≤ 400 → 512 < z + m := fun m h1 h2 => HM.out m (by omega) h2
                  have h4 := h3 (j + 1) rfl
                  rw [HZ.out]; omega) (X1.out.trans XW.out)
              · have hq5' : decide ((q : Int) ≤ 512) = false := by simp; omega
                go_wp2_with fail
                refine wp_region_E (by kernel_rfl) [0, 0, 0, 0, 12, 31, 63, 127] (fun ix v W => match ix with | 0 => v = .agg #[.int .i64 k, .int .i64 l, .slice A ss.length c] | 1 => v = .int .i64 K | 2 => v = .string s | 3 => v = .int .i64 j | 4 => v = .string x | 5 => ∃ (A24 : Option Addr) (c24 : Nat), v = .agg #[.int .i64 k, .int .i64 l, .slice A24 ((plainL (withL ss K x)).length) c24] ∧ W.ownsRow 0 9 1 (.slice A24 (plainL (withL ss K x)).length c24) (plainL (withL ss K x)).length ((plainL (withL ss K x)).map Value.string) | 6 => v = .int .i64 q | 7 => v = .bool false | _ => True) (by kernel_rfl) (by kernel_rfl) ?_ ?_ ?_
                · intro ix v W W' h hx
                  match ix, h with
                  | 0, h => exact h
                  | 1, h => exact h
                  | 2, h => exact h
                  | 3, h => exact h
                  | 4, h => exact h
                  | 5, h => exact let ⟨A24, c24, he, ho24⟩ := h; ⟨A24, c24, he, own_ext ho24 hx⟩
                  | 6, h => exact h
                  | 7, h => exact h
                  | _ + 8, _ => trivial
                · refine ⟨⟨⟨⟨⟨⟨⟨⟨trivial, ?_⟩, ?_⟩, ?_⟩, ?_⟩, ?_⟩, ?_⟩, ?_⟩, ?_⟩
                  · intro ρ W hS hx hout hpre
                    refine GSay.none rfl ?_
                    have f1 : ρ (.tmp 1) = .pointer (some ⟨w.heap.size, 0, none⟩) := hout 1 (by kernel_rfl)
                    exact DoesU.value (v := .agg #[.int .i64 k, .int .i64 l, .slice A ss.length c]) (w' := W) (by simp [go_sem, f1, (show W.cell? ⟨w.heap.size, 0, none⟩ = some (.int .i64 k) from ((B0.out.ext (XR.out.trans hx))).cell 0), (show W.cell? ⟨w.heap.size, 1, none⟩ = some (.int .i64 l) from ((B0.out.ext (XR.out.trans hx))).cell 1), (show W.cell? ⟨w.heap.size, 2, none⟩ = some (.slice A ss.length c) from ((B0.out.ext (XR.out.trans hx))).cell 2)]) ⟨rfl, Ext.refl _⟩
                  · intro ρ W hS hx hout hpre
                    refine GSay.none rfl ?_
                    have f3 : ρ (.tmp 3) = .int .i64 K := hout 3 (by kernel_rfl)
                    exact DoesU.value (v := .int .i64 K) (w' := W) (by simp [go_sem, f3]) ⟨rfl, Ext.refl _⟩
                  · intro ρ W hS hx hout hpre
                    refine GSay.none rfl ?_
                    have f4 : ρ (.tmp 4) = .string s := hout 4 (by kernel_rfl)
                    exact DoesU.value (v := .string s) (w' := W) (by simp [go_sem, f4]) ⟨rfl, Ext.refl _⟩
                  · intro ρ W hS hx hout hpre
                    refine GSay.none rfl ?_
                    have f5 : ρ (.tmp 5) = .int .i64 j := hout 5 (by kernel_rfl)
                    exact DoesU.value (v := .int .i64 j) (w' := W) (by simp [go_sem, f5]) ⟨rfl, Ext.refl _⟩
                  · intro ρ W hS hx hout hpre
                    refine GSay.none rfl ?_
                    have f21 : ρ (.tmp 21) = .string s := hpre 2 21 (by kernel_rfl)
                    have f22 : ρ (.tmp 22) = .int .i64 j := hpre 3 22 (by kernel_rfl)
                    exact DoesU.value (v := .string x) (w' := W) (by simp [go_sem, f21, f22, hjs, Hx.out]) ⟨rfl, Ext.refl _⟩
                  · intro ρ W hS hx hout hpre
                    refine GSay.none rfl ?_
                    have f19 : ρ (.tmp 19) = .agg #[.int .i64 k, .int .i64 l, .slice A ss.length c] := hpre 0 19 (by kernel_rfl)
                    have f20 : ρ (.tmp 20) = .int .i64 K := hpre 1 20 (by kernel_rfl)
                    have f23 : ρ (.tmp 23) = .string x := hpre 4 23 (by kernel_rfl)
                    refine DoesU.call (f := 44) (args := #[.agg #[.int .i64 k, .int .i64 l, .slice A ss.length c], .int .i64 K, .string x]) (w' := W) (by simp [go_sem, hS.func, f19, f20, f23]) ?_
                    refine (rwith_any _ _ _ _ _ _ K x _ rfl (H.out.ext (X1.out.trans (XR.out.trans hx))) HS.out hcz hK).mono ?_
                    rintro e w6 ⟨A24, c24, rfl, ho24, hx6⟩
                    exact ⟨_, rfl, ⟨A24, c24, rfl, own_mono ho24 (Nat.zero_le _)⟩, hx6⟩
                  · intro ρ W hS hx hout hpre
                    refine GSay.none rfl ?_
                    obtain ⟨A24, c24, f24, ho24⟩ := hpre 5 24 (by kernel_rfl)
                    refine DoesU.call (f := 45) (args := #[.agg #[.int .i64 k, .int .i64 l, .slice A24 ((plainL (withL ss K x)).length) c24]]) (w' := W) (by simp [go_sem, hS.func, f24]) ?_
                    refine (rsize_any _ _ _ _ _ _ _ rfl (At.of_own ho24) HSW.out (own_cap ho24)).mono ?_
                    rw [← Hq.out]
                    rintro e w6 ⟨rfl, hx6⟩
                    exact ⟨_, rfl, rfl, hx6⟩
                  · intro ρ W hS hx hout hpre
                    refine GSay.none rfl ?_
                    have f25 : ρ (.tmp 25) = .int .i64 q := hpre 6 25 (by kernel_rfl)
                    exact DoesU.value (v := .bool false) (w' := W) (by simp [go_sem, hS.const, f25]; omega) ⟨rfl, Ext.refl _⟩
                intro vs W hl hD hx
                replace hl := hl.trans (show (idxU _).length = 8 by kernel_rfl)
                rcases vs with _ | ⟨v19, vs⟩; · simp at hl
                rcases vs with _ | ⟨v20, vs⟩; · simp at hl
                rcases vs with _ | ⟨v21, vs⟩; · simp at hl
                rcases vs with _ | ⟨v22, vs⟩; · simp at hl
                rcases vs with _ | ⟨v23, vs⟩; · simp at hl
                rcases vs with _ | ⟨v24, vs⟩; · simp at hl
                rcases vs with _ | ⟨v25, vs⟩; · simp at hl
                rcases vs with _ | ⟨v26, vs⟩; · simp at hl
                obtain rfl : vs = [] := List.eq_nil_of_length_eq_zero (by simpa using hl)
                clear hl
                obtain rfl : v19 = .agg #[.int .i64 k, .int .i64 l, .slice A ss.length c] := hD 0 0 v19 (by kernel_rfl) rfl
                obtain rfl : v20 = .int .i64 K := hD 1 1 v20 (by kernel_rfl) rfl
                obtain rfl : v21 = .string s := hD 2 2 v21 (by kernel_rfl) rfl
                obtain rfl : v22 = .int .i64 j := hD 3 3 v22 (by kernel_rfl) rfl
                obtain rfl : v23 = .string x := hD 4 4 v23 (by kernel_rfl) rfl
                obtain ⟨A24, c24, rfl, ho24⟩ := hD 5 5 v24 (by kernel_rfl) rfl
                obtain rfl : v25 = .int .i64 q := hD 6 6 v25 (by kernel_rfl) rfl
                obtain rfl : v26 = .bool false := hD 7 7 v26 (by kernel_rfl) rfl
                clear hD
                rw [show dstsU _ = [19, 20, 21, 22, 23, 24, 25, 26] by kernel_rfl]
                simp only [putAll, List.setIfInBounds_toArray, List.set_cons_succ, List.set_cons_zero]
                have XW := Lib.hid (XR.out.trans hx)
                clear hx ho24
                have hsub : (j : Int) - 1 = ((j - 1 : Nat) : Int) := by omega
                have HSub := Lib.hid hsub
                clear hsub
                go_wp2
                go_roundw
                case rel => exact ⟨j - 1, by rw [HSub.out], by omega, fun m h1 h2 => by
                  rcases Nat.lt_or_ge j m with h3 | h3
                  · exact HM.out m h3 h2
                  · have : m = j := by omega
                    omega, XW.out⟩
                case measure => simp [intOf]; omega
end Go.Proofs.Ytkkldciofndedaa

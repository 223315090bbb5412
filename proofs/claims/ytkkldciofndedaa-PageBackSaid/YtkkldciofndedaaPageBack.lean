/- the walk of PageBack. -/
import Derived.Test.YtkkldciofndedaaRead
import Derived.Test.YtkkldciofndedaaPageUnlike
import Derived.Test.YtkkldciofndedaaVo
namespace Go.Proofs.Ytkkldciofndedaa
open Go.RowKit
set_option linter.unusedVariables false

theorem lit_own {n k : Nat} (h : Value.ownBlock (.slice (some ⟨n, 0, none⟩) 0 0) = some k) : n = k := Option.some.inj h
/-- an empty item at the end: right as long as a slot is left, and the same bytes -/
theorem right_more {k l : Int} {ss : List ByteArray} (hr : rightB k l ss = true) (hl : ss.length < 24) : rightB k l (ss ++ [ByteArray.empty]) = true := by
  obtain ⟨hk, hl', ⟨h24, h400⟩, h512⟩ := right_parts hr
  have hz : sizeL (ss ++ [ByteArray.empty]) = sizeL ss := by rw [sizeL, plain_trail, sizeL]
  have hlg : longB (ss ++ [ByteArray.empty]) = false := by
    rcases h : longB (ss ++ [ByteArray.empty]) with _ | _
    · rfl
    · rw [longB, List.any_eq_true] at h
      obtain ⟨x, hx, h⟩ := h
      rcases List.mem_append.1 hx with hx | hx
      · have := h400 x hx
        simp at h; omega
      · rw [List.mem_singleton.1 hx] at h
        cases h
  have hln : ss.length + 1 ≤ 24 := hl
  simp [rightB, hk, hl', hlg, hz, h512, hln]

theorem small_snoc {ss : List ByteArray} (h : Small ss) (h2 : ss.length ≤ 99999 := by omega) : Small (ss ++ [ByteArray.empty]) := ⟨by rw [List.length_append]; show ss.length + 1 ≤ 100000; omega, fun s hs => by
  rcases List.mem_append.1 hs with hs | hs
  · exact h.2 s hs
  · rw [List.mem_singleton.1 hs]; exact Nat.zero_le _⟩
set_option maxRecDepth 100000 in
set_option maxHeartbeats 8000000 in
theorem pageback_any (kA lA : Int) (A : Option Addr) (c : Nat) (sa : List ByteArray) (w : World)
    (ha : At w A (sa.map Value.string)) (hla : sa.length ≤ 9223372036854775807) :
    Calls Try.prog 11 #[.agg #[.int .i64 kA, .int .i64 lA, .slice A sa.length c]] w (Ret1 (.bool true) w) := by
  obtain ⟨i0, hi0, hz0, hz1, hz2⟩ := info_parts Try.infoStr
  have HA := Lib.hid ha; clear ha
  obtain ⟨k1, hk1⟩ : ∃ z, z = kindF kA := ⟨_, rfl⟩
  obtain ⟨l1, hl1⟩ : ∃ z, z = lsnF lA := ⟨_, rfl⟩
  obtain ⟨I1, hI1⟩ : ∃ z, z = mkL kA lA sa := ⟨_, rfl⟩
  have hr1 : rightB k1 l1 I1 = true := by rw [hk1, hl1, hI1]; exact mkL_right kA lA sa
  have hp1 : plainL I1 = I1 := by rw [hI1]; exact mkL_plain kA lA sa
  have HM1 := Lib.hid (show ∀ (w : World), At w A (sa.map Value.string) → Calls Try.prog 14 #[.agg #[.int .i64 kA, .int .i64 lA, .slice A sa.length c]] w (PgOne k1 l1 I1 w) by
    rw [hk1, hl1, hI1]; exact fun w h => lmade_any kA lA A _ c sa w rfl h hla)
  clear hk1 hl1 hI1
  have hl1 : I1.length ≤ 24 := (right_parts hr1).2.2.1.1
  have hT : 6 + sizeT (plainL I1) ≤ 504 := by have := (right_parts hr1).2.2.2; rw [sizeL] at this; omega
  have hsz := bytesF_size k1 l1 (plainL I1) hT
  have hrx := readX_bytes hr1
  have hms := right_more hr1
  have hpt : plainL (I1 ++ [ByteArray.empty]) = plainL I1 := plain_trail
  have HR1 := Lib.hid hr1
  obtain ⟨S1, hS1⟩ : ∃ z, z = bytesF k1 l1 (plainL I1) := ⟨_, rfl⟩
  have BY1 := Lib.hid (show ∀ (A : Option Addr) (c : Nat) (w : World), At w A (I1.map Value.string) → Calls Try.prog 27 #[.agg #[.int .i64 k1, .int .i64 l1, .slice A I1.length c]] w (Ret1 (.tuple #[.string S1, .int .i64 0]) w) by
    rw [hS1]; exact fun A c w h => bytes_right k1 l1 A _ c I1 w rfl h HR1.out)
  have RE1 := Lib.hid (show ∀ (w : World), Calls Try.prog 37 #[.string S1] w (PgPost k1 l1 I1 0 w) by
    intro w
    have h := read_any S1 w (by rw [hS1, hsz]; decide)
    rw [hS1, hrx, hp1] at h
    rw [hS1, hp1]
    exact h)
  rw [← hS1] at hsz
  have HMS := Lib.hid hms
  have HPT := Lib.hid hpt
  have HS1 := Lib.hid hS1
  have HP1 := Lib.hid hp1
  clear hms hpt hS1 hr1 hrx hT hp1
  have hone : sameB k1 l1 I1 k1 l1 I1 = true := by simp [sameB]
  obtain ⟨T2, E2, hB2, hfit⟩ : ∃ (T2 : ByteArray) (E2 : Int), (∀ (A : Option Addr) (c : Nat) (W : World), At W A (I1.map Value.string ++ [.string ⟨#[]⟩]) → Calls Try.prog 27 #[.agg #[.int .i64 k1, .int .i64 l1, .slice A (I1.length + 1) c]] W (Ret1 (.tuple #[.string T2, .int .i64 E2]) W)) ∧
      (I1.length < 24 → T2 = S1 ∧ E2 = 0) := by
    have he : I1.map Value.string ++ [.string ⟨#[]⟩] = (I1 ++ [ByteArray.empty]).map Value.string := by rw [List.map_append]; rfl
    have hl : I1.length + 1 = (I1 ++ [ByteArray.empty]).length := by simp
    rcases hr2 : rightB k1 l1 (I1 ++ [ByteArray.empty]) with _ | _
    · refine ⟨ByteArray.empty, 22, fun A c W h => ?_, fun hlt => ?_⟩
      · rw [he] at h
        rw [hl]
        exact bytes_not k1 l1 A _ c _ W rfl h (small_snoc (right_small HR1.out)) hr2
      · rw [HMS.out hlt] at hr2; cases hr2
    · refine ⟨S1, 0, fun A c W h => ?_, fun _ => ⟨rfl, rfl⟩⟩
      rw [he] at h
      rw [hl, HS1.out, ← HPT.out]
      exact bytes_right k1 l1 A _ c _ W rfl h hr2
  rcases Nat.lt_or_ge I1.length 24 with hlt | hge
  · rw [(hfit hlt).1, (hfit hlt).2] at hB2
    have HB2 := Lib.hid hB2
    clear hfit hB2
    go_enter Try.func11, Try.ntmps11
    have hst0 := St.start w
    refine wp_seq ?_
    refine wp_region_V (by kernel_rfl) [0, 0] [[], []] [[0], []] [[], []] (fun ix σ β X => match ix with | 0 => σ 1 = .pointer (some ⟨(pb (β 1)), 0, none⟩) ∧ X 0 = eB (pb (β 1)) 24 #[.int .i64 kA, .int .i64 lA, .slice A sa.length c] | 1 => σ 2 = .bool false | _ => True) [0] (by kernel_rfl) (by kernel_rfl) (by kernel_rfl) (by kernel_rfl) ?_ hst0 ?_ ?_
    · intro ix σ σ' β β' X X' hs hb hx h
      match ix, hs, hb, hx, h with
      | 0, hs, hb, hx, h => rw [← hs 1 (by kernel_rfl), ← hb 1 (by kernel_rfl), ← hx 0 (by kernel_rfl)]; exact h
      | 1, hs, hb, hx, h => rw [← hs 2 (by kernel_rfl)]; exact h
      | _ + 2, _, _, _, _ => trivial
    · refine ⟨⟨trivial, ?_⟩, ?_⟩
      · refine sv_any rfl rfl fun ρ β W X cx => ?_
        have fF0 : ρ (.tmp 0) = .agg #[.int .i64 kA, .int .i64 lA, .slice A sa.length c] := cx.out 0 (by kernel_rfl)
        exact dv_box (cs := #[.int .i64 kA, .int .i64 lA, .slice A sa.length c]) rfl fF0 rfl rfl rfl (fun σ β' X' hs hb hv hx => ⟨hv, hx⟩)
      · refine sv rfl rfl rfl rfl rfl (fun β => .bool false) (fun _ _ _ h => h) (fun _ _ _ => rfl) fun ρ β W X cx => ?_
        exact run_assign' rfl (cx.sees.const _)
    intro σ β X W1 hD hX hst1q fr hfr
    obtain ⟨B1_1, hu_B1_1⟩ : ∃ z, pb (β 1) = z := ⟨_, rfl⟩
    have dD1 : σ 1 = .pointer (some ⟨B1_1, 0, none⟩) := by rw [← hu_B1_1]; exact (hD 0 (Nat.le_of_ble_eq_true rfl)).1
    have dD2 : σ 2 = .bool false := (hD 1 (Nat.le_of_ble_eq_true rfl))
    have xX0 : X 0 = eB B1_1 24 #[.int .i64 kA, .int .i64 lA, .slice A sa.length c] := by rw [← hu_B1_1]; exact (hD 0 (Nat.le_of_ble_eq_true rfl)).2
    have hst1 : St w [] [eB B1_1 24 #[.int .i64 kA, .int .i64 lA, .slice A sa.length c]] W1 := by
      have h := hst1q
      simp only [List.map_cons, List.map_nil, xX0] at h
      exact h
    have hfr2 : fr = #[.agg #[.int .i64 kA, .int .i64 lA, .slice A sa.length c], .pointer (some ⟨B1_1, 0, none⟩), .bool false, undef, undef, undef, undef, undef, undef, undef, undef, undef, undef, undef, undef, undef, undef, undef, undef, undef, undef, undef, undef, undef, undef, undef, undef, undef, undef, undef, undef, undef, undef, undef, undef, undef, undef, undef, undef, undef, undef, undef, undef, undef, undef, undef, undef, undef, undef, undef, undef, undef, undef, undef, undef, undef, undef, undef, undef, undef, undef, undef, undef, undef, undef, undef, undef, undef, undef, undef, undef, undef, undef, undef, undef] := hfr.trans (by rw [show dstsU _ = [1, 2] by kernel_rfl]; simp only [List.map_cons, List.map_nil, putAll, List.setIfInBounds_toArray, List.set_cons_succ, List.set_cons_zero, dD1, dD2])
    clear hfr hX hD hst1q dD1 dD2 xX0 hu_B1_1
    subst hfr2
    clear σ β X
    refine then_normal ?_
    refine wp_seq ?_
    refine wp_region_V (by kernel_rfl) [0, 1] [[], []] [[], []] [[], []] (fun ix σ β X => match ix with | 0 => σ 13 = .bool true | 1 => σ 3 = .bool true | _ => True) [0] (by kernel_rfl) (by kernel_rfl) (by kernel_rfl) (by kernel_rfl) ?_ hst1 ?_ ?_
    · intro ix σ σ' β β' X X' hs hb hx h
      match ix, hs, hb, hx, h with
      | 0, hs, hb, hx, h => rw [← hs 13 (by kernel_rfl)]; exact h
      | 1, hs, hb, hx, h => rw [← hs 3 (by kernel_rfl)]; exact h
      | _ + 2, _, _, _, _ => trivial
    · refine ⟨⟨trivial, ?_⟩, ?_⟩
      · refine sv_any rfl rfl fun ρ β W X cx => ?_
        refine DoesU.call (run_callF (args := #[]) rfl cx.sees rfl (by kernel_rfl) (by simp only [List.map_toArray, List.map_cons, List.map_nil])) ?_
        refine (sanity_any _).mono ?_
        rintro e W1 ⟨rfl, hx⟩
        refine ⟨_, rfl, post_call [] rfl rfl hx (by simp) List.Pairwise.nil (fun σ β' X' hs hb hv hN => ?_)⟩
        have hv1 := (hv 13 rfl).1; have hv2 := (hv 13 rfl).2
        exact hv1.trans rfl
      · refine sv rfl rfl rfl rfl rfl (fun β => .bool true) (fun _ _ _ h => h) (fun _ _ _ => rfl) fun ρ β W X cx => ?_
        have fF13 : ρ (.tmp 13) = .bool true := (cx.anc 0 (by kernel_rfl))
        exact run_assign' rfl fF13
    intro σ β X W2 hD hX hst2q fr hfr
    have dD13 : σ 13 = .bool true := (hD 0 (Nat.le_of_ble_eq_true rfl))
    have dD3 : σ 3 = .bool true := (hD 1 (Nat.le_of_ble_eq_true rfl))
    have xX0 : X 0 = eB B1_1 24 #[.int .i64 kA, .int .i64 lA, .slice A sa.length c] := hX 0 _ rfl
    have hst2 : St w [] [eB B1_1 24 #[.int .i64 kA, .int .i64 lA, .slice A sa.length c]] W2 := by
      have h := hst2q
      simp only [List.map_cons, List.map_nil, xX0] at h
      exact h
    have hfr2 : fr = #[.agg #[.int .i64 kA, .int .i64 lA, .slice A sa.length c], .pointer (some ⟨B1_1, 0, none⟩), .bool false, .bool true, undef, undef, undef, undef, undef, undef, undef, undef, undef, .bool true, undef, undef, undef, undef, undef, undef, undef, undef, undef, undef, undef, undef, undef, undef, undef, undef, undef, undef, undef, undef, undef, undef, undef, undef, undef, undef, undef, undef, undef, undef, undef, undef, undef, undef, undef, undef, undef, undef, undef, undef, undef, undef, undef, undef, undef, undef, undef, undef, undef, undef, undef, undef, undef, undef, undef, undef, undef, undef, undef, undef, undef] := hfr.trans (by rw [show dstsU _ = [13, 3] by kernel_rfl]; simp only [List.map_cons, List.map_nil, putAll, List.setIfInBounds_toArray, List.set_cons_succ, List.set_cons_zero, dD13, dD3])
    clear hfr hX hD hst2q dD13 dD3 xX0
    subst hfr2
    clear σ β X
    refine then_normal ?_
    refine wp_seq ?_
    refine wp_region_V (by kernel_rfl) [0, 1, 0, 7] [[0], [], [], [2]] [[], [1], [2], [3]] [[], [], [], [2]] (fun ix σ β X => match ix with | 0 => σ 14 = .agg #[.int .i64 kA, .int .i64 lA, .slice A sa.length c] | 1 => σ 15 = .agg #[.int .i64 k1, .int .i64 l1, .slice (sA (tg (β 15) 2)) I1.length (sC (tg (β 15) 2))] ∧ X 1 = eO 9 1 (.slice (sA (tg (β 15) 2)) I1.length (sC (tg (β 15) 2))) I1.length (I1.map Value.string) | 2 => σ 4 = .pointer (some ⟨(pb (β 4)), 0, none⟩) ∧ X 2 = eB (pb (β 4)) 26 #[.int .i64 0, .int .i64 0, .slice none 0 0] | 3 => X 3 = eB (pb (β 4)) 26 #[.int .i64 k1, .int .i64 l1, .slice (sA (tg (β 15) 2)) I1.length (sC (tg (β 15) 2))] | _ => True) [0, 1, 3] (by kernel_rfl) (by kernel_rfl) (by kernel_rfl) (by kernel_rfl) ?_ hst2 ?_ ?_
    · intro ix σ σ' β β' X X' hs hb hx h
      match ix, hs, hb, hx, h with
      | 0, hs, hb, hx, h => rw [← hs 14 (by kernel_rfl)]; exact h
      | 1, hs, hb, hx, h => rw [← hs 15 (by kernel_rfl), ← hb 15 (by kernel_rfl), ← hx 1 (by kernel_rfl)]; exact h
      | 2, hs, hb, hx, h => rw [← hs 4 (by kernel_rfl), ← hb 4 (by kernel_rfl), ← hx 2 (by kernel_rfl)]; exact h
      | 3, hs, hb, hx, h => rw [← hb 4 (by kernel_rfl), ← hb 15 (by kernel_rfl), ← hx 3 (by kernel_rfl)]; exact h
      | _ + 4, _, _, _, _ => trivial
    · refine ⟨⟨⟨⟨trivial, ?_⟩, ?_⟩, ?_⟩, ?_⟩
      · refine sv rfl rfl rfl rfl rfl (fun β => .agg #[.int .i64 kA, .int .i64 lA, .slice A sa.length c]) (fun _ _ _ h => h) (fun _ _ _ => rfl) fun ρ β W X cx => ?_
        have fF1 : ρ (.tmp 1) = .pointer (some ⟨B1_1, 0, none⟩) := cx.out 1 (by kernel_rfl)
        have xX0 : X 0 = eB B1_1 24 #[.int .i64 kA, .int .i64 lA, .slice A sa.length c] := cx.init 0 _ rfl
        have kK0 : Blk W B1_1 24 #[.int .i64 kA, .int .i64 lA, .slice A sa.length c] := by have h := (cx.ok 0 rfl).holds; rw [xX0] at h; exact h
        exact run_loadB (n := 3) rfl (by kernel_rfl) (by kernel_rfl) fF1 kK0 (Nat.le_of_ble_eq_true rfl) rfl
      · refine sv_any rfl rfl fun ρ β W X cx => ?_
        have fF14 : ρ (.tmp 14) = .agg #[.int .i64 kA, .int .i64 lA, .slice A sa.length c] := (cx.anc 0 (by kernel_rfl))
        refine DoesU.call (run_callF (args := #[.agg #[.int .i64 kA, .int .i64 lA, .slice A sa.length c]]) rfl cx.sees rfl (by kernel_rfl) (by simp only [List.map_toArray, List.map_cons, List.map_nil, fF14])) ?_
        refine (HM1.out _ (HA.out.ext cx.upd.to_ext)).mono ?_
        rintro e W1 ⟨A4, c4, rfl, ho, hx⟩
        refine ⟨_, rfl, post_call [eO 9 1 (.slice A4 I1.length c4) I1.length (I1.map Value.string)] rfl rfl hx (one_new (eO_new ho)) (List.pairwise_singleton _ _) (fun σ β' X' hs hb hv hN => ?_)⟩
        have hv1 := (hv 15 rfl).1; have hv2 := (hv 15 rfl).2
        exact ⟨hv1.trans (by rw [hv2]; rfl), (by rw [hv2]; exact (List.cons.inj hN).1)⟩
      · refine sv_any rfl rfl fun ρ β W X cx => ?_
        exact dv_alloc (cs := #[.int .i64 0, .int .i64 0, .slice none 0 0]) rfl (by kernel_rfl) rfl rfl (fun σ β' X' hs hb hv hx => ⟨hv, hx⟩)
      · refine sv_any rfl rfl fun ρ β W X cx => ?_
        have fF4 : ρ (.tmp 4) = .pointer (some ⟨(pb (β 4)), 0, none⟩) := (cx.anc 2 (by kernel_rfl)).1
        have fF15 : ρ (.tmp 15) = .agg #[.int .i64 k1, .int .i64 l1, .slice (sA (tg (β 15) 2)) I1.length (sC (tg (β 15) 2))] := (cx.anc 1 (by kernel_rfl)).1
        have xX2 : X 2 = eB (pb (β 4)) 26 #[.int .i64 0, .int .i64 0, .slice none 0 0] := (cx.anc 2 (by kernel_rfl)).2
        exact dv_store (n := 3) rfl fF4 fF15 (by kernel_rfl) rfl rfl cx xX2 rfl (Nat.le_of_ble_eq_true rfl) rfl rfl rfl rfl (fun σ β' X' hs hb hx => by rw [hb 4, hb 15]; exact hx)
    intro σ β X W3 hD hX hst3q fr hfr
    obtain ⟨A15_3, hu_A15_3⟩ : ∃ z, sA (tg (β 15) 2) = z := ⟨_, rfl⟩
    obtain ⟨c15_3, hu_c15_3⟩ : ∃ z, sC (tg (β 15) 2) = z := ⟨_, rfl⟩
    obtain ⟨B4_3, hu_B4_3⟩ : ∃ z, pb (β 4) = z := ⟨_, rfl⟩
    have dD14 : σ 14 = .agg #[.int .i64 kA, .int .i64 lA, .slice A sa.length c] := (hD 0 (Nat.le_of_ble_eq_true rfl))
    have dD15 : σ 15 = .agg #[.int .i64 k1, .int .i64 l1, .slice A15_3 I1.length c15_3] := by rw [← hu_A15_3, ← hu_c15_3]; exact (hD 1 (Nat.le_of_ble_eq_true rfl)).1
    have dD4 : σ 4 = .pointer (some ⟨B4_3, 0, none⟩) := by rw [← hu_B4_3]; exact (hD 2 (Nat.le_of_ble_eq_true rfl)).1
    have xX0 : X 0 = eB B1_1 24 #[.int .i64 kA, .int .i64 lA, .slice A sa.length c] := hX 0 _ rfl
    have xX1 : X 1 = eO 9 1 (.slice A15_3 I1.length c15_3) I1.length (I1.map Value.string) := by rw [← hu_A15_3, ← hu_c15_3]; exact (hD 1 (Nat.le_of_ble_eq_true rfl)).2
    have xX3 : X 3 = eB B4_3 26 #[.int .i64 k1, .int .i64 l1, .slice A15_3 I1.length c15_3] := by rw [← hu_A15_3, ← hu_c15_3, ← hu_B4_3]; exact (hD 3 (Nat.le_of_ble_eq_true rfl))
    have hst3 : St w [] [eB B1_1 24 #[.int .i64 kA, .int .i64 lA, .slice A sa.length c], eO 9 1 (.slice A15_3 I1.length c15_3) I1.length (I1.map Value.string), eB B4_3 26 #[.int .i64 k1, .int .i64 l1, .slice A15_3 I1.length c15_3]] W3 := by
      have h := hst3q
      simp only [List.map_cons, List.map_nil, xX0, xX1, xX3] at h
      exact h
    have hfr2 : fr = #[.agg #[.int .i64 kA, .int .i64 lA, .slice A sa.length c], .pointer (some ⟨B1_1, 0, none⟩), .bool false, .bool true, .pointer (some ⟨B4_3, 0, none⟩), undef, undef, undef, undef, undef, undef, undef, undef, .bool true, .agg #[.int .i64 kA, .int .i64 lA, .slice A sa.length c], .agg #[.int .i64 k1, .int .i64 l1, .slice A15_3 I1.length c15_3], undef, undef, undef, undef, undef, undef, undef, undef, undef, undef, undef, undef, undef, undef, undef, undef, undef, undef, undef, undef, undef, undef, undef, undef, undef, undef, undef, undef, undef, undef, undef, undef, undef, undef, undef, undef, undef, undef, undef, undef, undef, undef, undef, undef, undef, undef, undef, undef, undef, undef, undef, undef, undef, undef, undef, undef, undef, undef, undef] := hfr.trans (by rw [show dstsU _ = [14, 15, 4] by kernel_rfl]; simp only [List.map_cons, List.map_nil, putAll, List.setIfInBounds_toArray, List.set_cons_succ, List.set_cons_zero, dD14, dD15, dD4])
    clear hfr hX hD hst3q dD14 dD15 dD4 xX0 xX1 xX3 hu_A15_3 hu_c15_3 hu_B4_3
    subst hfr2
    clear σ β X
    refine then_normal ?_
    refine wp_seq ?_
    refine wp_region_V (by kernel_rfl) [0, 1, 3, 7, 7, 15, 63] [[2], [1], [], [], [], [], []] [[], [], [], [], [], [], []] [[], [], [], [], [], [], []] (fun ix σ β X => match ix with | 0 => σ 17 = .agg #[.int .i64 k1, .int .i64 l1, .slice A15_3 I1.length c15_3] | 1 => σ 18 = .tuple #[.string S1, .int .i64 0] | 2 => σ 16 = .tuple #[.string S1, .int .i64 0] | 3 => σ 19 = .string S1 | 4 => σ 20 = .int .i64 0 | 5 => σ 5 = .string S1 | 6 => σ 6 = .int .i64 0 | _ => True) [0, 1, 2] (by kernel_rfl) (by kernel_rfl) (by kernel_rfl) (by kernel_rfl) ?_ hst3 ?_ ?_
    · intro ix σ σ' β β' X X' hs hb hx h
      match ix, hs, hb, hx, h with
      | 0, hs, hb, hx, h => rw [← hs 17 (by kernel_rfl)]; exact h
      | 1, hs, hb, hx, h => rw [← hs 18 (by kernel_rfl)]; exact h
      | 2, hs, hb, hx, h => rw [← hs 16 (by kernel_rfl)]; exact h
      | 3, hs, hb, hx, h => rw [← hs 19 (by kernel_rfl)]; exact h
      | 4, hs, hb, hx, h => rw [← hs 20 (by kernel_rfl)]; exact h
      | 5, hs, hb, hx, h => rw [← hs 5 (by kernel_rfl)]; exact h
      | 6, hs, hb, hx, h => rw [← hs 6 (by kernel_rfl)]; exact h
      | _ + 7, _, _, _, _ => trivial
    · refine ⟨⟨⟨⟨⟨⟨⟨trivial, ?_⟩, ?_⟩, ?_⟩, ?_⟩, ?_⟩, ?_⟩, ?_⟩
      · refine sv rfl rfl rfl rfl rfl (fun β => .agg #[.int .i64 k1, .int .i64 l1, .slice A15_3 I1.length c15_3]) (fun _ _ _ h => h) (fun _ _ _ => rfl) fun ρ β W X cx => ?_
        have fF4 : ρ (.tmp 4) = .pointer (some ⟨B4_3, 0, none⟩) := cx.out 4 (by kernel_rfl)
        have xX2 : X 2 = eB B4_3 26 #[.int .i64 k1, .int .i64 l1, .slice A15_3 I1.length c15_3] := cx.init 2 _ rfl
        have kK2 : Blk W B4_3 26 #[.int .i64 k1, .int .i64 l1, .slice A15_3 I1.length c15_3] := by have h := (cx.ok 2 rfl).holds; rw [xX2] at h; exact h
        exact run_loadB (n := 3) rfl (by kernel_rfl) (by kernel_rfl) fF4 kK2 (Nat.le_of_ble_eq_true rfl) rfl
      · refine sv_any rfl rfl fun ρ β W X cx => ?_
        have fF17 : ρ (.tmp 17) = .agg #[.int .i64 k1, .int .i64 l1, .slice A15_3 I1.length c15_3] := (cx.anc 0 (by kernel_rfl))
        have xX1 : X 1 = eO 9 1 (.slice A15_3 I1.length c15_3) I1.length (I1.map Value.string) := cx.init 1 _ rfl
        have kK1 : W.ownsRow 0 9 1 (.slice A15_3 I1.length c15_3) I1.length (I1.map Value.string) := by have h := (cx.ok 1 rfl).holds; rw [xX1] at h; exact h
        refine DoesU.call (run_callF (args := #[.agg #[.int .i64 k1, .int .i64 l1, .slice A15_3 I1.length c15_3]]) rfl cx.sees rfl (by kernel_rfl) (by simp only [List.map_toArray, List.map_cons, List.map_nil, fF17])) ?_
        refine (BY1.out _ _ _ (At.of_own kK1)).mono ?_
        rintro e W1 ⟨rfl, hx⟩
        refine ⟨_, rfl, post_call [] rfl rfl hx (by simp) List.Pairwise.nil (fun σ β' X' hs hb hv hN => ?_)⟩
        have hv1 := (hv 18 rfl).1; have hv2 := (hv 18 rfl).2
        exact hv1.trans rfl
      · refine sv rfl rfl rfl rfl rfl (fun β => .tuple #[.string S1, .int .i64 0]) (fun _ _ _ h => h) (fun _ _ _ => rfl) fun ρ β W X cx => ?_
        have fF18 : ρ (.tmp 18) = .tuple #[.string S1, .int .i64 0] := (cx.anc 1 (by kernel_rfl))
        exact run_move' rfl fF18
      · refine sv rfl rfl rfl rfl rfl (fun β => .string S1) (fun _ _ _ h => h) (fun _ _ _ => rfl) fun ρ β W X cx => ?_
        have fF16 : ρ (.tmp 16) = .tuple #[.string S1, .int .i64 0] := (cx.anc 2 (by kernel_rfl))
        exact run_extract' rfl fF16 rfl
      · refine sv rfl rfl rfl rfl rfl (fun β => .int .i64 0) (fun _ _ _ h => h) (fun _ _ _ => rfl) fun ρ β W X cx => ?_
        have fF16 : ρ (.tmp 16) = .tuple #[.string S1, .int .i64 0] := (cx.anc 2 (by kernel_rfl))
        exact run_extract' rfl fF16 rfl
      · refine sv rfl rfl rfl rfl rfl (fun β => .string S1) (fun _ _ _ h => h) (fun _ _ _ => rfl) fun ρ β W X cx => ?_
        have fF19 : ρ (.tmp 19) = .string S1 := (cx.anc 3 (by kernel_rfl))
        exact run_assign' rfl fF19
      · refine sv rfl rfl rfl rfl rfl (fun β => .int .i64 0) (fun _ _ _ h => h) (fun _ _ _ => rfl) fun ρ β W X cx => ?_
        have fF20 : ρ (.tmp 20) = .int .i64 0 := (cx.anc 4 (by kernel_rfl))
        exact run_assign' rfl fF20
    intro σ β X W4 hD hX hst4q fr hfr
    have dD17 : σ 17 = .agg #[.int .i64 k1, .int .i64 l1, .slice A15_3 I1.length c15_3] := (hD 0 (Nat.le_of_ble_eq_true rfl))
    have dD18 : σ 18 = .tuple #[.string S1, .int .i64 0] := (hD 1 (Nat.le_of_ble_eq_true rfl))
    have dD16 : σ 16 = .tuple #[.string S1, .int .i64 0] := (hD 2 (Nat.le_of_ble_eq_true rfl))
    have dD19 : σ 19 = .string S1 := (hD 3 (Nat.le_of_ble_eq_true rfl))
    have dD20 : σ 20 = .int .i64 0 := (hD 4 (Nat.le_of_ble_eq_true rfl))
    have dD5 : σ 5 = .string S1 := (hD 5 (Nat.le_of_ble_eq_true rfl))
    have dD6 : σ 6 = .int .i64 0 := (hD 6 (Nat.le_of_ble_eq_true rfl))
    have xX0 : X 0 = eB B1_1 24 #[.int .i64 kA, .int .i64 lA, .slice A sa.length c] := hX 0 _ rfl
    have xX1 : X 1 = eO 9 1 (.slice A15_3 I1.length c15_3) I1.length (I1.map Value.string) := hX 1 _ rfl
    have xX2 : X 2 = eB B4_3 26 #[.int .i64 k1, .int .i64 l1, .slice A15_3 I1.length c15_3] := hX 2 _ rfl
    have hst4 : St w [] [eB B1_1 24 #[.int .i64 kA, .int .i64 lA, .slice A sa.length c], eO 9 1 (.slice A15_3 I1.length c15_3) I1.length (I1.map Value.string), eB B4_3 26 #[.int .i64 k1, .int .i64 l1, .slice A15_3 I1.length c15_3]] W4 := by
      have h := hst4q
      simp only [List.map_cons, List.map_nil, xX0, xX1, xX2] at h
      exact h
    have hfr2 : fr = #[.agg #[.int .i64 kA, .int .i64 lA, .slice A sa.length c], .pointer (some ⟨B1_1, 0, none⟩), .bool false, .bool true, .pointer (some ⟨B4_3, 0, none⟩), .string S1, .int .i64 0, undef, undef, undef, undef, undef, undef, .bool true, .agg #[.int .i64 kA, .int .i64 lA, .slice A sa.length c], .agg #[.int .i64 k1, .int .i64 l1, .slice A15_3 I1.length c15_3], .tuple #[.string S1, .int .i64 0], .agg #[.int .i64 k1, .int .i64 l1, .slice A15_3 I1.length c15_3], .tuple #[.string S1, .int .i64 0], .string S1, .int .i64 0, undef, undef, undef, undef, undef, undef, undef, undef, undef, undef, undef, undef, undef, undef, undef, undef, undef, undef, undef, undef, undef, undef, undef, undef, undef, undef, undef, undef, undef, undef, undef, undef, undef, undef, undef, undef, undef, undef, undef, undef, undef, undef, undef, undef, undef, undef, undef, undef, undef, undef, undef, undef, undef, undef] := hfr.trans (by rw [show dstsU _ = [17, 18, 16, 19, 20, 5, 6] by kernel_rfl]; simp only [List.map_cons, List.map_nil, putAll, List.setIfInBounds_toArray, List.set_cons_succ, List.set_cons_zero, dD17, dD18, dD16, dD19, dD20, dD5, dD6])
    clear hfr hX hD hst4q dD17 dD18 dD16 dD19 dD20 dD5 dD6 xX0 xX1 xX2
    subst hfr2
    clear σ β X
    refine then_normal ?_
    refine wp_seq ?_
    refine wp_region_V (by kernel_rfl) [0, 1, 3, 7, 7, 0, 47, 127] [[], [], [], [], [], [], [4], []] [[], [3], [], [], [], [4], [5], []] [[], [], [], [], [], [], [4], []] (fun ix σ β X => match ix with | 0 => σ 22 = .string S1 | 1 => σ 23 = .tuple #[.agg #[.int .i64 k1, .int .i64 l1, .slice (sA (tg (tg (β 23) 0) 2)) I1.length (sC (tg (tg (β 23) 0) 2))], .int .i64 0] ∧ X 3 = eO 9 1 (.slice (sA (tg (tg (β 23) 0) 2)) I1.length (sC (tg (tg (β 23) 0) 2))) I1.length (I1.map Value.string) | 2 => σ 21 = .tuple #[.agg #[.int .i64 k1, .int .i64 l1, .slice (sA (tg (tg (β 23) 0) 2)) I1.length (sC (tg (tg (β 23) 0) 2))], .int .i64 0] | 3 => σ 24 = .agg #[.int .i64 k1, .int .i64 l1, .slice (sA (tg (tg (β 23) 0) 2)) I1.length (sC (tg (tg (β 23) 0) 2))] | 4 => σ 25 = .int .i64 0 | 5 => σ 7 = .pointer (some ⟨(pb (β 7)), 0, none⟩) ∧ X 4 = eB (pb (β 7)) 26 #[.int .i64 0, .int .i64 0, .slice none 0 0] | 6 => X 5 = eB (pb (β 7)) 26 #[.int .i64 k1, .int .i64 l1, .slice (sA (tg (tg (β 23) 0) 2)) I1.length (sC (tg (tg (β 23) 0) 2))] | 7 => σ 8 = .int .i64 0 | _ => True) [0, 1, 2, 3, 5] (by kernel_rfl) (by kernel_rfl) (by kernel_rfl) (by kernel_rfl) ?_ hst4 ?_ ?_
    · intro ix σ σ' β β' X X' hs hb hx h
      match ix, hs, hb, hx, h with
      | 0, hs, hb, hx, h => rw [← hs 22 (by kernel_rfl)]; exact h
      | 1, hs, hb, hx, h => rw [← hs 23 (by kernel_rfl), ← hb 23 (by kernel_rfl), ← hx 3 (by kernel_rfl)]; exact h
      | 2, hs, hb, hx, h => rw [← hs 21 (by kernel_rfl), ← hb 23 (by kernel_rfl)]; exact h
      | 3, hs, hb, hx, h => rw [← hs 24 (by kernel_rfl), ← hb 23 (by kernel_rfl)]; exact h
      | 4, hs, hb, hx, h => rw [← hs 25 (by kernel_rfl)]; exact h
      | 5, hs, hb, hx, h => rw [← hs 7 (by kernel_rfl), ← hb 7 (by kernel_rfl), ← hx 4 (by kernel_rfl)]; exact h
      | 6, hs, hb, hx, h => rw [← hb 7 (by kernel_rfl), ← hb 23 (by kernel_rfl), ← hx 5 (by kernel_rfl)]; exact h
      | 7, hs, hb, hx, h => rw [← hs 8 (by kernel_rfl)]; exact h
      | _ + 8, _, _, _, _ => trivial
    · refine ⟨⟨⟨⟨⟨⟨⟨⟨trivial, ?_⟩, ?_⟩, ?_⟩, ?_⟩, ?_⟩, ?_⟩, ?_⟩, ?_⟩
      · refine sv rfl rfl rfl rfl rfl (fun β => .string S1) (fun _ _ _ h => h) (fun _ _ _ => rfl) fun ρ β W X cx => ?_
        have fF5 : ρ (.tmp 5) = .string S1 := cx.out 5 (by kernel_rfl)
        exact run_move' rfl fF5
      · refine sv_any rfl rfl fun ρ β W X cx => ?_
        have fF22 : ρ (.tmp 22) = .string S1 := (cx.anc 0 (by kernel_rfl))
        refine DoesU.call (run_callF (args := #[.string S1]) rfl cx.sees rfl (by kernel_rfl) (by simp only [List.map_toArray, List.map_cons, List.map_nil, fF22])) ?_
        refine (RE1.out _).mono ?_
        rintro e W1 ⟨A4, c4, rfl, ho, hx⟩
        refine ⟨_, rfl, post_call [eO 9 1 (.slice A4 I1.length c4) I1.length (I1.map Value.string)] rfl rfl hx (one_new (eO_new ho)) (List.pairwise_singleton _ _) (fun σ β' X' hs hb hv hN => ?_)⟩
        have hv1 := (hv 23 rfl).1; have hv2 := (hv 23 rfl).2
        exact ⟨hv1.trans (by rw [hv2]; rfl), (by rw [hv2]; exact (List.cons.inj hN).1)⟩
      · refine sv rfl rfl rfl rfl rfl (fun β => .tuple #[.agg #[.int .i64 k1, .int .i64 l1, .slice (sA (tg (tg (β 23) 0) 2)) I1.length (sC (tg (tg (β 23) 0) 2))], .int .i64 0]) (fun _ _ _ h => h) (fun β β' h => by rw [h 23 (by decide)]) fun ρ β W X cx => ?_
        have fF23 : ρ (.tmp 23) = .tuple #[.agg #[.int .i64 k1, .int .i64 l1, .slice (sA (tg (tg (β 23) 0) 2)) I1.length (sC (tg (tg (β 23) 0) 2))], .int .i64 0] := (cx.anc 1 (by kernel_rfl)).1
        exact run_move' rfl fF23
      · refine sv rfl rfl rfl rfl rfl (fun β => .agg #[.int .i64 k1, .int .i64 l1, .slice (sA (tg (tg (β 23) 0) 2)) I1.length (sC (tg (tg (β 23) 0) 2))]) (fun _ _ _ h => h) (fun β β' h => by rw [h 23 (by decide)]) fun ρ β W X cx => ?_
        have fF21 : ρ (.tmp 21) = .tuple #[.agg #[.int .i64 k1, .int .i64 l1, .slice (sA (tg (tg (β 23) 0) 2)) I1.length (sC (tg (tg (β 23) 0) 2))], .int .i64 0] := (cx.anc 2 (by kernel_rfl))
        exact run_extract' rfl fF21 rfl
      · refine sv rfl rfl rfl rfl rfl (fun β => .int .i64 0) (fun _ _ _ h => h) (fun _ _ _ => rfl) fun ρ β W X cx => ?_
        have fF21 : ρ (.tmp 21) = .tuple #[.agg #[.int .i64 k1, .int .i64 l1, .slice (sA (tg (tg (β 23) 0) 2)) I1.length (sC (tg (tg (β 23) 0) 2))], .int .i64 0] := (cx.anc 2 (by kernel_rfl))
        exact run_extract' rfl fF21 rfl
      · refine sv_any rfl rfl fun ρ β W X cx => ?_
        exact dv_alloc (cs := #[.int .i64 0, .int .i64 0, .slice none 0 0]) rfl (by kernel_rfl) rfl rfl (fun σ β' X' hs hb hv hx => ⟨hv, hx⟩)
      · refine sv_any rfl rfl fun ρ β W X cx => ?_
        have fF7 : ρ (.tmp 7) = .pointer (some ⟨(pb (β 7)), 0, none⟩) := (cx.anc 5 (by kernel_rfl)).1
        have fF24 : ρ (.tmp 24) = .agg #[.int .i64 k1, .int .i64 l1, .slice (sA (tg (tg (β 23) 0) 2)) I1.length (sC (tg (tg (β 23) 0) 2))] := (cx.anc 3 (by kernel_rfl))
        have xX4 : X 4 = eB (pb (β 7)) 26 #[.int .i64 0, .int .i64 0, .slice none 0 0] := (cx.anc 5 (by kernel_rfl)).2
        exact dv_store (n := 3) rfl fF7 fF24 (by kernel_rfl) rfl rfl cx xX4 rfl (Nat.le_of_ble_eq_true rfl) rfl rfl rfl rfl (fun σ β' X' hs hb hx => by rw [hb 7, hb 23]; exact hx)
      · refine sv rfl rfl rfl rfl rfl (fun β => .int .i64 0) (fun _ _ _ h => h) (fun _ _ _ => rfl) fun ρ β W X cx => ?_
        have fF25 : ρ (.tmp 25) = .int .i64 0 := (cx.anc 4 (by kernel_rfl))
        exact run_assign' rfl fF25
    intro σ β X W5 hD hX hst5q fr hfr
    obtain ⟨A23_5, hu_A23_5⟩ : ∃ z, sA (tg (tg (β 23) 0) 2) = z := ⟨_, rfl⟩
    obtain ⟨c23_5, hu_c23_5⟩ : ∃ z, sC (tg (tg (β 23) 0) 2) = z := ⟨_, rfl⟩
    obtain ⟨B7_5, hu_B7_5⟩ : ∃ z, pb (β 7) = z := ⟨_, rfl⟩
    have dD22 : σ 22 = .string S1 := (hD 0 (Nat.le_of_ble_eq_true rfl))
    have dD23 : σ 23 = .tuple #[.agg #[.int .i64 k1, .int .i64 l1, .slice A23_5 I1.length c23_5], .int .i64 0] := by rw [← hu_A23_5, ← hu_c23_5]; exact (hD 1 (Nat.le_of_ble_eq_true rfl)).1
    have dD21 : σ 21 = .tuple #[.agg #[.int .i64 k1, .int .i64 l1, .slice A23_5 I1.length c23_5], .int .i64 0] := by rw [← hu_A23_5, ← hu_c23_5]; exact (hD 2 (Nat.le_of_ble_eq_true rfl))
    have dD24 : σ 24 = .agg #[.int .i64 k1, .int .i64 l1, .slice A23_5 I1.length c23_5] := by rw [← hu_A23_5, ← hu_c23_5]; exact (hD 3 (Nat.le_of_ble_eq_true rfl))
    have dD25 : σ 25 = .int .i64 0 := (hD 4 (Nat.le_of_ble_eq_true rfl))
    have dD7 : σ 7 = .pointer (some ⟨B7_5, 0, none⟩) := by rw [← hu_B7_5]; exact (hD 5 (Nat.le_of_ble_eq_true rfl)).1
    have dD8 : σ 8 = .int .i64 0 := (hD 7 (Nat.le_of_ble_eq_true rfl))
    have xX0 : X 0 = eB B1_1 24 #[.int .i64 kA, .int .i64 lA, .slice A sa.length c] := hX 0 _ rfl
    have xX1 : X 1 = eO 9 1 (.slice A15_3 I1.length c15_3) I1.length (I1.map Value.string) := hX 1 _ rfl
    have xX2 : X 2 = eB B4_3 26 #[.int .i64 k1, .int .i64 l1, .slice A15_3 I1.length c15_3] := hX 2 _ rfl
    have xX3 : X 3 = eO 9 1 (.slice A23_5 I1.length c23_5) I1.length (I1.map Value.string) := by rw [← hu_A23_5, ← hu_c23_5]; exact (hD 1 (Nat.le_of_ble_eq_true rfl)).2
    have xX5 : X 5 = eB B7_5 26 #[.int .i64 k1, .int .i64 l1, .slice A23_5 I1.length c23_5] := by rw [← hu_A23_5, ← hu_c23_5, ← hu_B7_5]; exact (hD 6 (Nat.le_of_ble_eq_true rfl))
    have hst5 : St w [] [eB B1_1 24 #[.int .i64 kA, .int .i64 lA, .slice A sa.length c], eO 9 1 (.slice A15_3 I1.length c15_3) I1.length (I1.map Value.string), eB B4_3 26 #[.int .i64 k1, .int .i64 l1, .slice A15_3 I1.length c15_3], eO 9 1 (.slice A23_5 I1.length c23_5) I1.length (I1.map Value.string), eB B7_5 26 #[.int .i64 k1, .int .i64 l1, .slice A23_5 I1.length c23_5]] W5 := by
      have h := hst5q
      simp only [List.map_cons, List.map_nil, xX0, xX1, xX2, xX3, xX5] at h
      exact h
    have hfr2 : fr = #[.agg #[.int .i64 kA, .int .i64 lA, .slice A sa.length c], .pointer (some ⟨B1_1, 0, none⟩), .bool false, .bool true, .pointer (some ⟨B4_3, 0, none⟩), .string S1, .int .i64 0, .pointer (some ⟨B7_5, 0, none⟩), .int .i64 0, undef, undef, undef, undef, .bool true, .agg #[.int .i64 kA, .int .i64 lA, .slice A sa.length c], .agg #[.int .i64 k1, .int .i64 l1, .slice A15_3 I1.length c15_3], .tuple #[.string S1, .int .i64 0], .agg #[.int .i64 k1, .int .i64 l1, .slice A15_3 I1.length c15_3], .tuple #[.string S1, .int .i64 0], .string S1, .int .i64 0, .tuple #[.agg #[.int .i64 k1, .int .i64 l1, .slice A23_5 I1.length c23_5], .int .i64 0], .string S1, .tuple #[.agg #[.int .i64 k1, .int .i64 l1, .slice A23_5 I1.length c23_5], .int .i64 0], .agg #[.int .i64 k1, .int .i64 l1, .slice A23_5 I1.length c23_5], .int .i64 0, undef, undef, undef, undef, undef, undef, undef, undef, undef, undef, undef, undef, undef, undef, undef, undef, undef, undef, undef, undef, undef, undef, undef, undef, undef, undef, undef, undef, undef, undef, undef, undef, undef, undef, undef, undef, undef, undef, undef, undef, undef, undef, undef, undef, undef, undef, undef, undef, undef] := hfr.trans (by rw [show dstsU _ = [22, 23, 21, 24, 25, 7, 8] by kernel_rfl]; simp only [List.map_cons, List.map_nil, putAll, List.setIfInBounds_toArray, List.set_cons_succ, List.set_cons_zero, dD22, dD23, dD21, dD24, dD25, dD7, dD8])
    clear hfr hX hD hst5q dD22 dD23 dD21 dD24 dD25 dD7 dD8 xX0 xX1 xX2 xX3 xX5 hu_A23_5 hu_c23_5 hu_B7_5
    subst hfr2
    clear σ β X
    refine then_normal ?_
    refine wp_seq ?_
    refine wp_region_V (by kernel_rfl) [0, 0, 3] [[2], [], [5]] [[], [5], [6]] [[], [], [5]] (fun ix σ β X => match ix with | 0 => σ 26 = .agg #[.int .i64 k1, .int .i64 l1, .slice A15_3 I1.length c15_3] | 1 => σ 9 = .pointer (some ⟨(pb (β 9)), 0, none⟩) ∧ X 5 = eB (pb (β 9)) 26 #[.int .i64 0, .int .i64 0, .slice none 0 0] | 2 => X 6 = eB (pb (β 9)) 26 #[.int .i64 k1, .int .i64 l1, .slice A15_3 I1.length c15_3] | _ => True) [0, 1, 2, 3, 4, 6] (by kernel_rfl) (by kernel_rfl) (by kernel_rfl) (by kernel_rfl) ?_ hst5 ?_ ?_
    · intro ix σ σ' β β' X X' hs hb hx h
      match ix, hs, hb, hx, h with
      | 0, hs, hb, hx, h => rw [← hs 26 (by kernel_rfl)]; exact h
      | 1, hs, hb, hx, h => rw [← hs 9 (by kernel_rfl), ← hb 9 (by kernel_rfl), ← hx 5 (by kernel_rfl)]; exact h
      | 2, hs, hb, hx, h => rw [← hb 9 (by kernel_rfl), ← hx 6 (by kernel_rfl)]; exact h
      | _ + 3, _, _, _, _ => trivial
    · refine ⟨⟨⟨trivial, ?_⟩, ?_⟩, ?_⟩
      · refine sv rfl rfl rfl rfl rfl (fun β => .agg #[.int .i64 k1, .int .i64 l1, .slice A15_3 I1.length c15_3]) (fun _ _ _ h => h) (fun _ _ _ => rfl) fun ρ β W X cx => ?_
        have fF4 : ρ (.tmp 4) = .pointer (some ⟨B4_3, 0, none⟩) := cx.out 4 (by kernel_rfl)
        have xX2 : X 2 = eB B4_3 26 #[.int .i64 k1, .int .i64 l1, .slice A15_3 I1.length c15_3] := cx.init 2 _ rfl
        have kK2 : Blk W B4_3 26 #[.int .i64 k1, .int .i64 l1, .slice A15_3 I1.length c15_3] := by have h := (cx.ok 2 rfl).holds; rw [xX2] at h; exact h
        exact run_loadB (n := 3) rfl (by kernel_rfl) (by kernel_rfl) fF4 kK2 (Nat.le_of_ble_eq_true rfl) rfl
      · refine sv_any rfl rfl fun ρ β W X cx => ?_
        exact dv_alloc (cs := #[.int .i64 0, .int .i64 0, .slice none 0 0]) rfl (by kernel_rfl) rfl rfl (fun σ β' X' hs hb hv hx => ⟨hv, hx⟩)
      · refine sv_any rfl rfl fun ρ β W X cx => ?_
        have fF9 : ρ (.tmp 9) = .pointer (some ⟨(pb (β 9)), 0, none⟩) := (cx.anc 1 (by kernel_rfl)).1
        have fF26 : ρ (.tmp 26) = .agg #[.int .i64 k1, .int .i64 l1, .slice A15_3 I1.length c15_3] := (cx.anc 0 (by kernel_rfl))
        have xX5 : X 5 = eB (pb (β 9)) 26 #[.int .i64 0, .int .i64 0, .slice none 0 0] := (cx.anc 1 (by kernel_rfl)).2
        exact dv_store (n := 3) rfl fF9 fF26 (by kernel_rfl) rfl rfl cx xX5 rfl (Nat.le_of_ble_eq_true rfl) rfl rfl rfl rfl (fun σ β' X' hs hb hx => by rw [hb 9]; exact hx)
    intro σ β X W6 hD hX hst6q fr hfr
    obtain ⟨B9_6, hu_B9_6⟩ : ∃ z, pb (β 9) = z := ⟨_, rfl⟩
    have dD26 : σ 26 = .agg #[.int .i64 k1, .int .i64 l1, .slice A15_3 I1.length c15_3] := (hD 0 (Nat.le_of_ble_eq_true rfl))
    have dD9 : σ 9 = .pointer (some ⟨B9_6, 0, none⟩) := by rw [← hu_B9_6]; exact (hD 1 (Nat.le_of_ble_eq_true rfl)).1
    have xX0 : X 0 = eB B1_1 24 #[.int .i64 kA, .int .i64 lA, .slice A sa.length c] := hX 0 _ rfl
    have xX1 : X 1 = eO 9 1 (.slice A15_3 I1.length c15_3) I1.length (I1.map Value.string) := hX 1 _ rfl
    have xX2 : X 2 = eB B4_3 26 #[.int .i64 k1, .int .i64 l1, .slice A15_3 I1.length c15_3] := hX 2 _ rfl
    have xX3 : X 3 = eO 9 1 (.slice A23_5 I1.length c23_5) I1.length (I1.map Value.string) := hX 3 _ rfl
    have xX4 : X 4 = eB B7_5 26 #[.int .i64 k1, .int .i64 l1, .slice A23_5 I1.length c23_5] := hX 4 _ rfl
    have xX6 : X 6 = eB B9_6 26 #[.int .i64 k1, .int .i64 l1, .slice A15_3 I1.length c15_3] := by rw [← hu_B9_6]; exact (hD 2 (Nat.le_of_ble_eq_true rfl))
    have hst6 : St w [] [eB B1_1 24 #[.int .i64 kA, .int .i64 lA, .slice A sa.length c], eO 9 1 (.slice A15_3 I1.length c15_3) I1.length (I1.map Value.string), eB B4_3 26 #[.int .i64 k1, .int .i64 l1, .slice A15_3 I1.length c15_3], eO 9 1 (.slice A23_5 I1.length c23_5) I1.length (I1.map Value.string), eB B7_5 26 #[.int .i64 k1, .int .i64 l1, .slice A23_5 I1.length c23_5], eB B9_6 26 #[.int .i64 k1, .int .i64 l1, .slice A15_3 I1.length c15_3]] W6 := by
      have h := hst6q
      simp only [List.map_cons, List.map_nil, xX0, xX1, xX2, xX3, xX4, xX6] at h
      exact h
    have hfr2 : fr = #[.agg #[.int .i64 kA, .int .i64 lA, .slice A sa.length c], .pointer (some ⟨B1_1, 0, none⟩), .bool false, .bool true, .pointer (some ⟨B4_3, 0, none⟩), .string S1, .int .i64 0, .pointer (some ⟨B7_5, 0, none⟩), .int .i64 0, .pointer (some ⟨B9_6, 0, none⟩), undef, undef, undef, .bool true, .agg #[.int .i64 kA, .int .i64 lA, .slice A sa.length c], .agg #[.int .i64 k1, .int .i64 l1, .slice A15_3 I1.length c15_3], .tuple #[.string S1, .int .i64 0], .agg #[.int .i64 k1, .int .i64 l1, .slice A15_3 I1.length c15_3], .tuple #[.string S1, .int .i64 0], .string S1, .int .i64 0, .tuple #[.agg #[.int .i64 k1, .int .i64 l1, .slice A23_5 I1.length c23_5], .int .i64 0], .string S1, .tuple #[.agg #[.int .i64 k1, .int .i64 l1, .slice A23_5 I1.length c23_5], .int .i64 0], .agg #[.int .i64 k1, .int .i64 l1, .slice A23_5 I1.length c23_5], .int .i64 0, .agg #[.int .i64 k1, .int .i64 l1, .slice A15_3 I1.length c15_3], undef, undef, undef, undef, undef, undef, undef, undef, undef, undef, undef, undef, undef, undef, undef, undef, undef, undef, undef, undef, undef, undef, undef, undef, undef, undef, undef, undef, undef, undef, undef, undef, undef, undef, undef, undef, undef, undef, undef, undef, undef, undef, undef, undef, undef, undef, undef, undef] := hfr.trans (by rw [show dstsU _ = [26, 9] by kernel_rfl]; simp only [List.map_cons, List.map_nil, putAll, List.setIfInBounds_toArray, List.set_cons_succ, List.set_cons_zero, dD26, dD9])
    clear hfr hX hD hst6q dD26 dD9 xX0 xX1 xX2 xX3 xX4 xX6 hu_B9_6
    subst hfr2
    clear σ β X
    refine then_normal ?_
    refine wp_seq ?_
    refine wp_region_V (by kernel_rfl) [0, 0, 2, 7, 0, 31, 63, 127] [[], [], [2], [1, 6], [], [8, 7], [], [5]] [[6], [], [], [7], [8], [9], [], [10]] [[], [], [], [6], [], [7], [], [5]] (fun ix σ β X => match ix with | 0 => σ 27 = .slice (sA (β 27)) 0 0 ∧ X 6 = eO 9 1 (.slice (sA (β 27)) 0 0) 0 ([]) | 1 => σ 28 = .pointer (some ⟨B4_3, 2, none⟩) | 2 => σ 29 = .slice A15_3 I1.length c15_3 | 3 => σ 30 = .slice (sA (β 30)) I1.length (sC (β 30)) ∧ X 7 = eO 9 1 (.slice (sA (β 30)) I1.length (sC (β 30))) I1.length (I1.map Value.string) | 4 => σ 31 = .slice (sA (β 31)) 1 1 ∧ X 8 = eO 9 1 (.slice (sA (β 31)) 1 1) 1 ([.string ⟨#[]⟩]) | 5 => σ 32 = .slice (sA (β 32)) (I1.length + 1) (sC (β 32)) ∧ X 9 = eO 9 1 (.slice (sA (β 32)) (I1.length + 1) (sC (β 32))) (I1.length + 1) ((I1.map Value.string) ++ [.string ⟨#[]⟩]) | 6 => σ 33 = .pointer (some ⟨B9_6, 2, none⟩) | 7 => X 10 = eB B9_6 26 #[.int .i64 k1, .int .i64 l1, .slice (sA (β 32)) (I1.length + 1) (sC (β 32))] | _ => True) [0, 1, 2, 3, 4, 8, 9, 10] (by kernel_rfl) (by kernel_rfl) (by kernel_rfl) (by kernel_rfl) ?_ hst6 ?_ ?_
    · intro ix σ σ' β β' X X' hs hb hx h
      match ix, hs, hb, hx, h with
      | 0, hs, hb, hx, h => rw [← hs 27 (by kernel_rfl), ← hb 27 (by kernel_rfl), ← hx 6 (by kernel_rfl)]; exact h
      | 1, hs, hb, hx, h => rw [← hs 28 (by kernel_rfl)]; exact h
      | 2, hs, hb, hx, h => rw [← hs 29 (by kernel_rfl)]; exact h
      | 3, hs, hb, hx, h => rw [← hs 30 (by kernel_rfl), ← hb 30 (by kernel_rfl), ← hx 7 (by kernel_rfl)]; exact h
      | 4, hs, hb, hx, h => rw [← hs 31 (by kernel_rfl), ← hb 31 (by kernel_rfl), ← hx 8 (by kernel_rfl)]; exact h
      | 5, hs, hb, hx, h => rw [← hs 32 (by kernel_rfl), ← hb 32 (by kernel_rfl), ← hx 9 (by kernel_rfl)]; exact h
      | 6, hs, hb, hx, h => rw [← hs 33 (by kernel_rfl)]; exact h
      | 7, hs, hb, hx, h => rw [← hb 32 (by kernel_rfl), ← hx 10 (by kernel_rfl)]; exact h
      | _ + 8, _, _, _, _ => trivial
    · refine ⟨⟨⟨⟨⟨⟨⟨⟨trivial, ?_⟩, ?_⟩, ?_⟩, ?_⟩, ?_⟩, ?_⟩, ?_⟩, ?_⟩
      · refine sv_any rfl rfl fun ρ β W X cx => ?_
        exact dv_lit (e := 9) (xs := []) rfl (by simp [go_sem, cx.sees.const]) rfl (by decide) rfl rfl (fun σ β' X' hs hb hv hx => ⟨hv, hx⟩)
      · refine sv rfl rfl rfl rfl rfl (fun β => .pointer (some ⟨B4_3, 2, none⟩)) (fun _ _ _ h => h) (fun _ _ _ => rfl) fun ρ β W X cx => ?_
        have fF4 : ρ (.tmp 4) = .pointer (some ⟨B4_3, 0, none⟩) := cx.out 4 (by kernel_rfl)
        exact run_fieldAddr' (k := 2) (n := 2) rfl (by kernel_rfl) fF4 rfl
      · refine sv rfl rfl rfl rfl rfl (fun β => .slice A15_3 I1.length c15_3) (fun _ _ _ h => h) (fun _ _ _ => rfl) fun ρ β W X cx => ?_
        have fF28 : ρ (.tmp 28) = .pointer (some ⟨B4_3, 2, none⟩) := (cx.anc 1 (by kernel_rfl))
        have xX2 : X 2 = eB B4_3 26 #[.int .i64 k1, .int .i64 l1, .slice A15_3 I1.length c15_3] := cx.init 2 _ rfl
        have kK2 : Blk W B4_3 26 #[.int .i64 k1, .int .i64 l1, .slice A15_3 I1.length c15_3] := by have h := (cx.ok 2 rfl).holds; rw [xX2] at h; exact h
        exact run_load1 rfl (by kernel_rfl) fF28 (show W.cell? ⟨B4_3, 2, none⟩ = some (.slice A15_3 I1.length c15_3) from kK2.cell 2)
      · refine sv_any rfl rfl fun ρ β W X cx => ?_
        have xX1 : X 1 = eO 9 1 (.slice A15_3 I1.length c15_3) I1.length (I1.map Value.string) := cx.init 1 _ rfl
        have kK1 : W.ownsRow 0 9 1 (.slice A15_3 I1.length c15_3) I1.length (I1.map Value.string) := by have h := (cx.ok 1 rfl).holds; rw [xX1] at h; exact h
        have fF27 : ρ (.tmp 27) = .slice (sA (β 27)) 0 0 := (cx.anc 0 (by kernel_rfl)).1
        have fF29 : ρ (.tmp 29) = .slice A15_3 I1.length c15_3 := (cx.anc 2 (by kernel_rfl))
        have xX6 : X 6 = eO 9 1 (.slice (sA (β 27)) 0 0) 0 ([]) := (cx.anc 0 (by kernel_rfl)).2
        obtain ⟨i0, hi0, hz0, hz1, hz2⟩ := info_parts Try.infoStr
        refine dv_append (n := 0) (m := I1.length) (nm := I1.length) (xs := []) (news := I1.map Value.string) (xs' := I1.map Value.string) rfl (ty := 22) rfl (by kernel_rfl) hi0 hz0 hz1 hz2 rfl fF27 cx xX6 rfl fF29 (by simp) (At.of_own kK1) (str_one _) (by simp only [maxLen]; omega) (by omega) rfl rfl rfl (by omega) (rfl) (fun σ β' X' hs hb hv hx => ?_)
        exact ⟨hv, hx⟩
      · refine sv_any rfl rfl fun ρ β W X cx => ?_
        exact dv_lit (e := 9) (xs := [.string ⟨#[]⟩]) rfl (by simp [go_sem, cx.sees.const]) rfl (by decide) rfl rfl (fun σ β' X' hs hb hv hx => ⟨hv, hx⟩)
      · refine sv_any rfl rfl fun ρ β W X cx => ?_
        have xX8 : X 8 = eO 9 1 (.slice (sA (β 31)) 1 1) 1 ([.string ⟨#[]⟩]) := (cx.anc 4 (by kernel_rfl)).2
        have kK8 : W.ownsRow 0 9 1 (.slice (sA (β 31)) 1 1) 1 ([.string ⟨#[]⟩]) := by have h := (cx.ok 8 rfl).holds; rw [xX8] at h; exact h
        have fF30 : ρ (.tmp 30) = .slice (sA (β 30)) I1.length (sC (β 30)) := (cx.anc 3 (by kernel_rfl)).1
        have fF31 : ρ (.tmp 31) = .slice (sA (β 31)) 1 1 := (cx.anc 4 (by kernel_rfl)).1
        have xX7 : X 7 = eO 9 1 (.slice (sA (β 30)) I1.length (sC (β 30))) I1.length (I1.map Value.string) := (cx.anc 3 (by kernel_rfl)).2
        obtain ⟨i0, hi0, hz0, hz1, hz2⟩ := info_parts Try.infoStr
        refine dv_append (n := I1.length) (m := 1) (nm := I1.length + 1) (xs := I1.map Value.string) (news := [.string ⟨#[]⟩]) (xs' := (I1.map Value.string) ++ [.string ⟨#[]⟩]) rfl (ty := 22) rfl (by kernel_rfl) hi0 hz0 hz1 hz2 rfl fF30 cx xX7 rfl fF31 (by simp) (At.of_own kK8) (by simp [Value.oneCell']) (by simp only [maxLen]; omega) (by omega) rfl rfl rfl (by omega) (by simp) (fun σ β' X' hs hb hv hx => ?_)
        exact ⟨hv, hx⟩
      · refine sv rfl rfl rfl rfl rfl (fun β => .pointer (some ⟨B9_6, 2, none⟩)) (fun _ _ _ h => h) (fun _ _ _ => rfl) fun ρ β W X cx => ?_
        have fF9 : ρ (.tmp 9) = .pointer (some ⟨B9_6, 0, none⟩) := cx.out 9 (by kernel_rfl)
        exact run_fieldAddr' (k := 2) (n := 2) rfl (by kernel_rfl) fF9 rfl
      · refine sv_any rfl rfl fun ρ β W X cx => ?_
        have fF33 : ρ (.tmp 33) = .pointer (some ⟨B9_6, 2, none⟩) := (cx.anc 6 (by kernel_rfl))
        have fF32 : ρ (.tmp 32) = .slice (sA (β 32)) (I1.length + 1) (sC (β 32)) := (cx.anc 5 (by kernel_rfl)).1
        have xX5 : X 5 = eB B9_6 26 #[.int .i64 k1, .int .i64 l1, .slice A15_3 I1.length c15_3] := cx.init 5 _ rfl
        exact dv_store (n := 1) rfl fF33 fF32 (by kernel_rfl) rfl rfl cx xX5 rfl (Nat.le_of_ble_eq_true rfl) rfl rfl rfl rfl (fun σ β' X' hs hb hx => by rw [hb 32]; exact hx)
    intro σ β X W7 hD hX hst7q fr hfr
    obtain ⟨A27_7, hu_A27_7⟩ : ∃ z, sA (β 27) = z := ⟨_, rfl⟩
    obtain ⟨A30_7, hu_A30_7⟩ : ∃ z, sA (β 30) = z := ⟨_, rfl⟩
    obtain ⟨c30_7, hu_c30_7⟩ : ∃ z, sC (β 30) = z := ⟨_, rfl⟩
    obtain ⟨A31_7, hu_A31_7⟩ : ∃ z, sA (β 31) = z := ⟨_, rfl⟩
    obtain ⟨A32_7, hu_A32_7⟩ : ∃ z, sA (β 32) = z := ⟨_, rfl⟩
    obtain ⟨c32_7, hu_c32_7⟩ : ∃ z, sC (β 32) = z := ⟨_, rfl⟩
    have dD27 : σ 27 = .slice A27_7 0 0 := by rw [← hu_A27_7]; exact (hD 0 (Nat.le_of_ble_eq_true rfl)).1
    have dD28 : σ 28 = .pointer (some ⟨B4_3, 2, none⟩) := (hD 1 (Nat.le_of_ble_eq_true rfl))
    have dD29 : σ 29 = .slice A15_3 I1.length c15_3 := (hD 2 (Nat.le_of_ble_eq_true rfl))
    have dD30 : σ 30 = .slice A30_7 I1.length c30_7 := by rw [← hu_A30_7, ← hu_c30_7]; exact (hD 3 (Nat.le_of_ble_eq_true rfl)).1
    have dD31 : σ 31 = .slice A31_7 1 1 := by rw [← hu_A31_7]; exact (hD 4 (Nat.le_of_ble_eq_true rfl)).1
    have dD32 : σ 32 = .slice A32_7 (I1.length + 1) c32_7 := by rw [← hu_A32_7, ← hu_c32_7]; exact (hD 5 (Nat.le_of_ble_eq_true rfl)).1
    have dD33 : σ 33 = .pointer (some ⟨B9_6, 2, none⟩) := (hD 6 (Nat.le_of_ble_eq_true rfl))
    have xX0 : X 0 = eB B1_1 24 #[.int .i64 kA, .int .i64 lA, .slice A sa.length c] := hX 0 _ rfl
    have xX1 : X 1 = eO 9 1 (.slice A15_3 I1.length c15_3) I1.length (I1.map Value.string) := hX 1 _ rfl
    have xX2 : X 2 = eB B4_3 26 #[.int .i64 k1, .int .i64 l1, .slice A15_3 I1.length c15_3] := hX 2 _ rfl
    have xX3 : X 3 = eO 9 1 (.slice A23_5 I1.length c23_5) I1.length (I1.map Value.string) := hX 3 _ rfl
    have xX4 : X 4 = eB B7_5 26 #[.int .i64 k1, .int .i64 l1, .slice A23_5 I1.length c23_5] := hX 4 _ rfl
    have xX8 : X 8 = eO 9 1 (.slice A31_7 1 1) 1 ([.string ⟨#[]⟩]) := by rw [← hu_A31_7]; exact (hD 4 (Nat.le_of_ble_eq_true rfl)).2
    have xX9 : X 9 = eO 9 1 (.slice A32_7 (I1.length + 1) c32_7) (I1.length + 1) ((I1.map Value.string) ++ [.string ⟨#[]⟩]) := by rw [← hu_A32_7, ← hu_c32_7]; exact (hD 5 (Nat.le_of_ble_eq_true rfl)).2
    have xX10 : X 10 = eB B9_6 26 #[.int .i64 k1, .int .i64 l1, .slice A32_7 (I1.length + 1) c32_7] := by rw [← hu_A32_7, ← hu_c32_7]; exact (hD 7 (Nat.le_of_ble_eq_true rfl))
    have hst7 : St w [] [eB B1_1 24 #[.int .i64 kA, .int .i64 lA, .slice A sa.length c], eO 9 1 (.slice A15_3 I1.length c15_3) I1.length (I1.map Value.string), eB B4_3 26 #[.int .i64 k1, .int .i64 l1, .slice A15_3 I1.length c15_3], eO 9 1 (.slice A23_5 I1.length c23_5) I1.length (I1.map Value.string), eB B7_5 26 #[.int .i64 k1, .int .i64 l1, .slice A23_5 I1.length c23_5], eO 9 1 (.slice A31_7 1 1) 1 ([.string ⟨#[]⟩]), eO 9 1 (.slice A32_7 (I1.length + 1) c32_7) (I1.length + 1) ((I1.map Value.string) ++ [.string ⟨#[]⟩]), eB B9_6 26 #[.int .i64 k1, .int .i64 l1, .slice A32_7 (I1.length + 1) c32_7]] W7 := by
      have h := hst7q
      simp only [List.map_cons, List.map_nil, xX0, xX1, xX2, xX3, xX4, xX8, xX9, xX10] at h
      exact h
    have hfr2 : fr = #[.agg #[.int .i64 kA, .int .i64 lA, .slice A sa.length c], .pointer (some ⟨B1_1, 0, none⟩), .bool false, .bool true, .pointer (some ⟨B4_3, 0, none⟩), .string S1, .int .i64 0, .pointer (some ⟨B7_5, 0, none⟩), .int .i64 0, .pointer (some ⟨B9_6, 0, none⟩), undef, undef, undef, .bool true, .agg #[.int .i64 kA, .int .i64 lA, .slice A sa.length c], .agg #[.int .i64 k1, .int .i64 l1, .slice A15_3 I1.length c15_3], .tuple #[.string S1, .int .i64 0], .agg #[.int .i64 k1, .int .i64 l1, .slice A15_3 I1.length c15_3], .tuple #[.string S1, .int .i64 0], .string S1, .int .i64 0, .tuple #[.agg #[.int .i64 k1, .int .i64 l1, .slice A23_5 I1.length c23_5], .int .i64 0], .string S1, .tuple #[.agg #[.int .i64 k1, .int .i64 l1, .slice A23_5 I1.length c23_5], .int .i64 0], .agg #[.int .i64 k1, .int .i64 l1, .slice A23_5 I1.length c23_5], .int .i64 0, .agg #[.int .i64 k1, .int .i64 l1, .slice A15_3 I1.length c15_3], .slice A27_7 0 0, .pointer (some ⟨B4_3, 2, none⟩), .slice A15_3 I1.length c15_3, .slice A30_7 I1.length c30_7, .slice A31_7 1 1, .slice A32_7 (I1.length + 1) c32_7, .pointer (some ⟨B9_6, 2, none⟩), undef, undef, undef, undef, undef, undef, undef, undef, undef, undef, undef, undef, undef, undef, undef, undef, undef, undef, undef, undef, undef, undef, undef, undef, undef, undef, undef, undef, undef, undef, undef, undef, undef, undef, undef, undef, undef, undef, undef, undef, undef] := hfr.trans (by rw [show dstsU _ = [27, 28, 29, 30, 31, 32, 33] by kernel_rfl]; simp only [List.map_cons, List.map_nil, putAll, List.setIfInBounds_toArray, List.set_cons_succ, List.set_cons_zero, dD27, dD28, dD29, dD30, dD31, dD32, dD33])
    clear hfr hX hD hst7q dD27 dD28 dD29 dD30 dD31 dD32 dD33 xX0 xX1 xX2 xX3 xX4 xX8 xX9 xX10 hu_A27_7 hu_A30_7 hu_c30_7 hu_A31_7 hu_A32_7 hu_c32_7
    subst hfr2
    clear σ β X
    refine then_normal ?_
    refine wp_seq ?_
    refine wp_region_V (by kernel_rfl) [0, 1, 3, 7, 7, 15, 63] [[7], [6], [], [], [], [], []] [[], [], [], [], [], [], []] [[], [], [], [], [], [], []] (fun ix σ β X => match ix with | 0 => σ 35 = .agg #[.int .i64 k1, .int .i64 l1, .slice A32_7 (I1.length + 1) c32_7] | 1 => σ 36 = .tuple #[.string S1, .int .i64 0] | 2 => σ 34 = .tuple #[.string S1, .int .i64 0] | 3 => σ 37 = .string S1 | 4 => σ 38 = .int .i64 0 | 5 => σ 10 = .string S1 | 6 => σ 11 = .int .i64 0 | _ => True) [0, 1, 2, 3, 4, 5, 6, 7] (by kernel_rfl) (by kernel_rfl) (by kernel_rfl) (by kernel_rfl) ?_ hst7 ?_ ?_
    · intro ix σ σ' β β' X X' hs hb hx h
      match ix, hs, hb, hx, h with
      | 0, hs, hb, hx, h => rw [← hs 35 (by kernel_rfl)]; exact h
      | 1, hs, hb, hx, h => rw [← hs 36 (by kernel_rfl)]; exact h
      | 2, hs, hb, hx, h => rw [← hs 34 (by kernel_rfl)]; exact h
      | 3, hs, hb, hx, h => rw [← hs 37 (by kernel_rfl)]; exact h
      | 4, hs, hb, hx, h => rw [← hs 38 (by kernel_rfl)]; exact h
      | 5, hs, hb, hx, h => rw [← hs 10 (by kernel_rfl)]; exact h
      | 6, hs, hb, hx, h => rw [← hs 11 (by kernel_rfl)]; exact h
      | _ + 7, _, _, _, _ => trivial
    · refine ⟨⟨⟨⟨⟨⟨⟨trivial, ?_⟩, ?_⟩, ?_⟩, ?_⟩, ?_⟩, ?_⟩, ?_⟩
      · refine sv rfl rfl rfl rfl rfl (fun β => .agg #[.int .i64 k1, .int .i64 l1, .slice A32_7 (I1.length + 1) c32_7]) (fun _ _ _ h => h) (fun _ _ _ => rfl) fun ρ β W X cx => ?_
        have fF9 : ρ (.tmp 9) = .pointer (some ⟨B9_6, 0, none⟩) := cx.out 9 (by kernel_rfl)
        have xX7 : X 7 = eB B9_6 26 #[.int .i64 k1, .int .i64 l1, .slice A32_7 (I1.length + 1) c32_7] := cx.init 7 _ rfl
        have kK7 : Blk W B9_6 26 #[.int .i64 k1, .int .i64 l1, .slice A32_7 (I1.length + 1) c32_7] := by have h := (cx.ok 7 rfl).holds; rw [xX7] at h; exact h
        exact run_loadB (n := 3) rfl (by kernel_rfl) (by kernel_rfl) fF9 kK7 (Nat.le_of_ble_eq_true rfl) rfl
      · refine sv_any rfl rfl fun ρ β W X cx => ?_
        have fF35 : ρ (.tmp 35) = .agg #[.int .i64 k1, .int .i64 l1, .slice A32_7 (I1.length + 1) c32_7] := (cx.anc 0 (by kernel_rfl))
        have xX6 : X 6 = eO 9 1 (.slice A32_7 (I1.length + 1) c32_7) (I1.length + 1) ((I1.map Value.string) ++ [.string ⟨#[]⟩]) := cx.init 6 _ rfl
        have kK6 : W.ownsRow 0 9 1 (.slice A32_7 (I1.length + 1) c32_7) (I1.length + 1) ((I1.map Value.string) ++ [.string ⟨#[]⟩]) := by have h := (cx.ok 6 rfl).holds; rw [xX6] at h; exact h
        refine DoesU.call (run_callF (args := #[.agg #[.int .i64 k1, .int .i64 l1, .slice A32_7 (I1.length + 1) c32_7]]) rfl cx.sees rfl (by kernel_rfl) (by simp only [List.map_toArray, List.map_cons, List.map_nil, fF35])) ?_
        refine (HB2.out _ _ _ (At.of_own kK6)).mono ?_
        rintro e W1 ⟨rfl, hx⟩
        refine ⟨_, rfl, post_call [] rfl rfl hx (by simp) List.Pairwise.nil (fun σ β' X' hs hb hv hN => ?_)⟩
        have hv1 := (hv 36 rfl).1; have hv2 := (hv 36 rfl).2
        exact hv1.trans rfl
      · refine sv rfl rfl rfl rfl rfl (fun β => .tuple #[.string S1, .int .i64 0]) (fun _ _ _ h => h) (fun _ _ _ => rfl) fun ρ β W X cx => ?_
        have fF36 : ρ (.tmp 36) = .tuple #[.string S1, .int .i64 0] := (cx.anc 1 (by kernel_rfl))
        exact run_move' rfl fF36
      · refine sv rfl rfl rfl rfl rfl (fun β => .string S1) (fun _ _ _ h => h) (fun _ _ _ => rfl) fun ρ β W X cx => ?_
        have fF34 : ρ (.tmp 34) = .tuple #[.string S1, .int .i64 0] := (cx.anc 2 (by kernel_rfl))
        exact run_extract' rfl fF34 rfl
      · refine sv rfl rfl rfl rfl rfl (fun β => .int .i64 0) (fun _ _ _ h => h) (fun _ _ _ => rfl) fun ρ β W X cx => ?_
        have fF34 : ρ (.tmp 34) = .tuple #[.string S1, .int .i64 0] := (cx.anc 2 (by kernel_rfl))
        exact run_extract' rfl fF34 rfl
      · refine sv rfl rfl rfl rfl rfl (fun β => .string S1) (fun _ _ _ h => h) (fun _ _ _ => rfl) fun ρ β W X cx => ?_
        have fF37 : ρ (.tmp 37) = .string S1 := (cx.anc 3 (by kernel_rfl))
        exact run_assign' rfl fF37
      · refine sv rfl rfl rfl rfl rfl (fun β => .int .i64 0) (fun _ _ _ h => h) (fun _ _ _ => rfl) fun ρ β W X cx => ?_
        have fF38 : ρ (.tmp 38) = .int .i64 0 := (cx.anc 4 (by kernel_rfl))
        exact run_assign' rfl fF38
    intro σ β X W8 hD hX hst8q fr hfr
    have dD35 : σ 35 = .agg #[.int .i64 k1, .int .i64 l1, .slice A32_7 (I1.length + 1) c32_7] := (hD 0 (Nat.le_of_ble_eq_true rfl))
    have dD36 : σ 36 = .tuple #[.string S1, .int .i64 0] := (hD 1 (Nat.le_of_ble_eq_true rfl))
    have dD34 : σ 34 = .tuple #[.string S1, .int .i64 0] := (hD 2 (Nat.le_of_ble_eq_true rfl))
    have dD37 : σ 37 = .string S1 := (hD 3 (Nat.le_of_ble_eq_true rfl))
    have dD38 : σ 38 = .int .i64 0 := (hD 4 (Nat.le_of_ble_eq_true rfl))
    have dD10 : σ 10 = .string S1 := (hD 5 (Nat.le_of_ble_eq_true rfl))
    have dD11 : σ 11 = .int .i64 0 := (hD 6 (Nat.le_of_ble_eq_true rfl))
    have xX0 : X 0 = eB B1_1 24 #[.int .i64 kA, .int .i64 lA, .slice A sa.length c] := hX 0 _ rfl
    have xX1 : X 1 = eO 9 1 (.slice A15_3 I1.length c15_3) I1.length (I1.map Value.string) := hX 1 _ rfl
    have xX2 : X 2 = eB B4_3 26 #[.int .i64 k1, .int .i64 l1, .slice A15_3 I1.length c15_3] := hX 2 _ rfl
    have xX3 : X 3 = eO 9 1 (.slice A23_5 I1.length c23_5) I1.length (I1.map Value.string) := hX 3 _ rfl
    have xX4 : X 4 = eB B7_5 26 #[.int .i64 k1, .int .i64 l1, .slice A23_5 I1.length c23_5] := hX 4 _ rfl
    have xX5 : X 5 = eO 9 1 (.slice A31_7 1 1) 1 ([.string ⟨#[]⟩]) := hX 5 _ rfl
    have xX6 : X 6 = eO 9 1 (.slice A32_7 (I1.length + 1) c32_7) (I1.length + 1) ((I1.map Value.string) ++ [.string ⟨#[]⟩]) := hX 6 _ rfl
    have xX7 : X 7 = eB B9_6 26 #[.int .i64 k1, .int .i64 l1, .slice A32_7 (I1.length + 1) c32_7] := hX 7 _ rfl
    have hst8 : St w [] [eB B1_1 24 #[.int .i64 kA, .int .i64 lA, .slice A sa.length c], eO 9 1 (.slice A15_3 I1.length c15_3) I1.length (I1.map Value.string), eB B4_3 26 #[.int .i64 k1, .int .i64 l1, .slice A15_3 I1.length c15_3], eO 9 1 (.slice A23_5 I1.length c23_5) I1.length (I1.map Value.string), eB B7_5 26 #[.int .i64 k1, .int .i64 l1, .slice A23_5 I1.length c23_5], eO 9 1 (.slice A31_7 1 1) 1 ([.string ⟨#[]⟩]), eO 9 1 (.slice A32_7 (I1.length + 1) c32_7) (I1.length + 1) ((I1.map Value.string) ++ [.string ⟨#[]⟩]), eB B9_6 26 #[.int .i64 k1, .int .i64 l1, .slice A32_7 (I1.length + 1) c32_7]] W8 := by
      have h := hst8q
      simp only [List.map_cons, List.map_nil, xX0, xX1, xX2, xX3, xX4, xX5, xX6, xX7] at h
      exact h
    have hfr2 : fr = #[.agg #[.int .i64 kA, .int .i64 lA, .slice A sa.length c], .pointer (some ⟨B1_1, 0, none⟩), .bool false, .bool true, .pointer (some ⟨B4_3, 0, none⟩), .string S1, .int .i64 0, .pointer (some ⟨B7_5, 0, none⟩), .int .i64 0, .pointer (some ⟨B9_6, 0, none⟩), .string S1, .int .i64 0, undef, .bool true, .agg #[.int .i64 kA, .int .i64 lA, .slice A sa.length c], .agg #[.int .i64 k1, .int .i64 l1, .slice A15_3 I1.length c15_3], .tuple #[.string S1, .int .i64 0], .agg #[.int .i64 k1, .int .i64 l1, .slice A15_3 I1.length c15_3], .tuple #[.string S1, .int .i64 0], .string S1, .int .i64 0, .tuple #[.agg #[.int .i64 k1, .int .i64 l1, .slice A23_5 I1.length c23_5], .int .i64 0], .string S1, .tuple #[.agg #[.int .i64 k1, .int .i64 l1, .slice A23_5 I1.length c23_5], .int .i64 0], .agg #[.int .i64 k1, .int .i64 l1, .slice A23_5 I1.length c23_5], .int .i64 0, .agg #[.int .i64 k1, .int .i64 l1, .slice A15_3 I1.length c15_3], .slice A27_7 0 0, .pointer (some ⟨B4_3, 2, none⟩), .slice A15_3 I1.length c15_3, .slice A30_7 I1.length c30_7, .slice A31_7 1 1, .slice A32_7 (I1.length + 1) c32_7, .pointer (some ⟨B9_6, 2, none⟩), .tuple #[.string S1, .int .i64 0], .agg #[.int .i64 k1, .int .i64 l1, .slice A32_7 (I1.length + 1) c32_7], .tuple #[.string S1, .int .i64 0], .string S1, .int .i64 0, undef, undef, undef, undef, undef, undef, undef, undef, undef, undef, undef, undef, undef, undef, undef, undef, undef, undef, undef, undef, undef, undef, undef, undef, undef, undef, undef, undef, undef, undef, undef, undef, undef, undef, undef, undef] := hfr.trans (by rw [show dstsU _ = [35, 36, 34, 37, 38, 10, 11] by kernel_rfl]; simp only [List.map_cons, List.map_nil, putAll, List.setIfInBounds_toArray, List.set_cons_succ, List.set_cons_zero, dD35, dD36, dD34, dD37, dD38, dD10, dD11])
    clear hfr hX hD hst8q dD35 dD36 dD34 dD37 dD38 dD10 dD11 xX0 xX1 xX2 xX3 xX4 xX5 xX6 xX7
    subst hfr2
    clear σ β X
    refine then_normal ?_
    refine wp_seq ?_
    have hd10 : (decide ((I1.length : Int) < 24)) = true := decide_eq_true (by omega)
    refine wp_region_V (by kernel_rfl) [0, 1, 3, 7, 15] [[], [2], [], [], []] [[], [], [], [], []] [[], [], [], [], []] (fun ix σ β X => match ix with | 0 => σ 39 = .pointer (some ⟨B4_3, 2, none⟩) | 1 => σ 40 = .slice A15_3 I1.length c15_3 | 2 => σ 41 = .int .i64 ((I1.length : Int)) | 3 => σ 42 = .bool (decide ((I1.length : Int) < 24)) | 4 => σ 12 = .bool true | _ => True) [0, 1, 2, 3, 4, 5, 6, 7] (by kernel_rfl) (by kernel_rfl) (by kernel_rfl) (by kernel_rfl) ?_ hst8 ?_ ?_
    · intro ix σ σ' β β' X X' hs hb hx h
      match ix, hs, hb, hx, h with
      | 0, hs, hb, hx, h => rw [← hs 39 (by kernel_rfl)]; exact h
      | 1, hs, hb, hx, h => rw [← hs 40 (by kernel_rfl)]; exact h
      | 2, hs, hb, hx, h => rw [← hs 41 (by kernel_rfl)]; exact h
      | 3, hs, hb, hx, h => rw [← hs 42 (by kernel_rfl)]; exact h
      | 4, hs, hb, hx, h => rw [← hs 12 (by kernel_rfl)]; exact h
      | _ + 5, _, _, _, _ => trivial
    · refine ⟨⟨⟨⟨⟨trivial, ?_⟩, ?_⟩, ?_⟩, ?_⟩, ?_⟩
      · refine sv rfl rfl rfl rfl rfl (fun β => .pointer (some ⟨B4_3, 2, none⟩)) (fun _ _ _ h => h) (fun _ _ _ => rfl) fun ρ β W X cx => ?_
        have fF4 : ρ (.tmp 4) = .pointer (some ⟨B4_3, 0, none⟩) := cx.out 4 (by kernel_rfl)
        exact run_fieldAddr' (k := 2) (n := 2) rfl (by kernel_rfl) fF4 rfl
      · refine sv rfl rfl rfl rfl rfl (fun β => .slice A15_3 I1.length c15_3) (fun _ _ _ h => h) (fun _ _ _ => rfl) fun ρ β W X cx => ?_
        have fF39 : ρ (.tmp 39) = .pointer (some ⟨B4_3, 2, none⟩) := (cx.anc 0 (by kernel_rfl))
        have xX2 : X 2 = eB B4_3 26 #[.int .i64 k1, .int .i64 l1, .slice A15_3 I1.length c15_3] := cx.init 2 _ rfl
        have kK2 : Blk W B4_3 26 #[.int .i64 k1, .int .i64 l1, .slice A15_3 I1.length c15_3] := by have h := (cx.ok 2 rfl).holds; rw [xX2] at h; exact h
        exact run_load1 rfl (by kernel_rfl) fF39 (show W.cell? ⟨B4_3, 2, none⟩ = some (.slice A15_3 I1.length c15_3) from kK2.cell 2)
      · refine sv rfl rfl rfl rfl rfl (fun β => .int .i64 ((I1.length : Int))) (fun _ _ _ h => h) (fun _ _ _ => rfl) fun ρ β W X cx => ?_
        have fF40 : ρ (.tmp 40) = .slice A15_3 I1.length c15_3 := (cx.anc 1 (by kernel_rfl))
        exact run_len_l (e := 9) rfl (by kernel_rfl) fF40
      · refine sv rfl rfl rfl rfl rfl (fun β => .bool (decide ((I1.length : Int) < 24))) (fun _ _ _ h => h) (fun _ _ _ => rfl) fun ρ β W X cx => ?_
        have fF41 : ρ (.tmp 41) = .int .i64 ((I1.length : Int)) := (cx.anc 2 (by kernel_rfl))
        exact run_bin rfl fF41 (cx.sees.const _) rfl
      · refine sv rfl rfl rfl rfl rfl (fun β => .bool true) (fun _ _ _ h => h) (fun _ _ _ => rfl) fun ρ β W X cx => ?_
        have fF42 : ρ (.tmp 42) = .bool true := (show ρ (.tmp 42) = .bool (decide ((I1.length : Int) < 24)) from (cx.anc 3 (by kernel_rfl))).trans (congrArg Value.bool hd10)
        exact run_assign' rfl fF42
    intro σ β X W9 hD hX hst9q fr hfr
    have dD39 : σ 39 = .pointer (some ⟨B4_3, 2, none⟩) := (hD 0 (Nat.le_of_ble_eq_true rfl))
    have dD40 : σ 40 = .slice A15_3 I1.length c15_3 := (hD 1 (Nat.le_of_ble_eq_true rfl))
    have dD41 : σ 41 = .int .i64 ((I1.length : Int)) := (hD 2 (Nat.le_of_ble_eq_true rfl))
    have dD42 : σ 42 = .bool (decide ((I1.length : Int) < 24)) := (hD 3 (Nat.le_of_ble_eq_true rfl))
    have dD12 : σ 12 = .bool true := (hD 4 (Nat.le_of_ble_eq_true rfl))
    have xX0 : X 0 = eB B1_1 24 #[.int .i64 kA, .int .i64 lA, .slice A sa.length c] := hX 0 _ rfl
    have xX1 : X 1 = eO 9 1 (.slice A15_3 I1.length c15_3) I1.length (I1.map Value.string) := hX 1 _ rfl
    have xX2 : X 2 = eB B4_3 26 #[.int .i64 k1, .int .i64 l1, .slice A15_3 I1.length c15_3] := hX 2 _ rfl
    have xX3 : X 3 = eO 9 1 (.slice A23_5 I1.length c23_5) I1.length (I1.map Value.string) := hX 3 _ rfl
    have xX4 : X 4 = eB B7_5 26 #[.int .i64 k1, .int .i64 l1, .slice A23_5 I1.length c23_5] := hX 4 _ rfl
    have xX5 : X 5 = eO 9 1 (.slice A31_7 1 1) 1 ([.string ⟨#[]⟩]) := hX 5 _ rfl
    have xX6 : X 6 = eO 9 1 (.slice A32_7 (I1.length + 1) c32_7) (I1.length + 1) ((I1.map Value.string) ++ [.string ⟨#[]⟩]) := hX 6 _ rfl
    have xX7 : X 7 = eB B9_6 26 #[.int .i64 k1, .int .i64 l1, .slice A32_7 (I1.length + 1) c32_7] := hX 7 _ rfl
    have hst9 : St w [] [eB B1_1 24 #[.int .i64 kA, .int .i64 lA, .slice A sa.length c], eO 9 1 (.slice A15_3 I1.length c15_3) I1.length (I1.map Value.string), eB B4_3 26 #[.int .i64 k1, .int .i64 l1, .slice A15_3 I1.length c15_3], eO 9 1 (.slice A23_5 I1.length c23_5) I1.length (I1.map Value.string), eB B7_5 26 #[.int .i64 k1, .int .i64 l1, .slice A23_5 I1.length c23_5], eO 9 1 (.slice A31_7 1 1) 1 ([.string ⟨#[]⟩]), eO 9 1 (.slice A32_7 (I1.length + 1) c32_7) (I1.length + 1) ((I1.map Value.string) ++ [.string ⟨#[]⟩]), eB B9_6 26 #[.int .i64 k1, .int .i64 l1, .slice A32_7 (I1.length + 1) c32_7]] W9 := by
      have h := hst9q
      simp only [List.map_cons, List.map_nil, xX0, xX1, xX2, xX3, xX4, xX5, xX6, xX7] at h
      exact h
    have hfr2 : fr = #[.agg #[.int .i64 kA, .int .i64 lA, .slice A sa.length c], .pointer (some ⟨B1_1, 0, none⟩), .bool false, .bool true, .pointer (some ⟨B4_3, 0, none⟩), .string S1, .int .i64 0, .pointer (some ⟨B7_5, 0, none⟩), .int .i64 0, .pointer (some ⟨B9_6, 0, none⟩), .string S1, .int .i64 0, .bool true, .bool true, .agg #[.int .i64 kA, .int .i64 lA, .slice A sa.length c], .agg #[.int .i64 k1, .int .i64 l1, .slice A15_3 I1.length c15_3], .tuple #[.string S1, .int .i64 0], .agg #[.int .i64 k1, .int .i64 l1, .slice A15_3 I1.length c15_3], .tuple #[.string S1, .int .i64 0], .string S1, .int .i64 0, .tuple #[.agg #[.int .i64 k1, .int .i64 l1, .slice A23_5 I1.length c23_5], .int .i64 0], .string S1, .tuple #[.agg #[.int .i64 k1, .int .i64 l1, .slice A23_5 I1.length c23_5], .int .i64 0], .agg #[.int .i64 k1, .int .i64 l1, .slice A23_5 I1.length c23_5], .int .i64 0, .agg #[.int .i64 k1, .int .i64 l1, .slice A15_3 I1.length c15_3], .slice A27_7 0 0, .pointer (some ⟨B4_3, 2, none⟩), .slice A15_3 I1.length c15_3, .slice A30_7 I1.length c30_7, .slice A31_7 1 1, .slice A32_7 (I1.length + 1) c32_7, .pointer (some ⟨B9_6, 2, none⟩), .tuple #[.string S1, .int .i64 0], .agg #[.int .i64 k1, .int .i64 l1, .slice A32_7 (I1.length + 1) c32_7], .tuple #[.string S1, .int .i64 0], .string S1, .int .i64 0, .pointer (some ⟨B4_3, 2, none⟩), .slice A15_3 I1.length c15_3, .int .i64 ((I1.length : Int)), .bool (decide ((I1.length : Int) < 24)), undef, undef, undef, undef, undef, undef, undef, undef, undef, undef, undef, undef, undef, undef, undef, undef, undef, undef, undef, undef, undef, undef, undef, undef, undef, undef, undef, undef, undef, undef, undef, undef] := hfr.trans (by rw [show dstsU _ = [39, 40, 41, 42, 12] by kernel_rfl]; simp only [List.map_cons, List.map_nil, putAll, List.setIfInBounds_toArray, List.set_cons_succ, List.set_cons_zero, dD39, dD40, dD41, dD42, dD12])
    clear hfr hX hD hst9q dD39 dD40 dD41 dD42 dD12 xX0 xX1 xX2 xX3 xX4 xX5 xX6 xX7
    subst hfr2
    clear σ β X
    refine then_normal ?_
    refine wp_seq ?_
    have hd12 : ((S1.size : Int) == 512) = true := by rw [hsz]; rfl
    have hd13 : (S1.toList == S1.toList) = true := by simp
    refine wp_region_V (by kernel_rfl) [0, 1, 3, 7, 15, 31, 63, 127, 255, 511, 1023, 2047, 4095, 8191, 16383, 32767, 32767, 131071, 262143, 524287, 1048575, 2097151, 4194303, 8388607, 16777215, 33554431, 67108863, 67108863, 268435455, 536870911, 1073741823, 2147483647, 4294967295] [[], [], [], [], [], [], [], [], [], [], [], [], [], [], [], [2], [4], [1, 3], [], [], [], [], [], [], [], [], [], [], [], [], [], [], []] [[], [], [], [], [], [], [], [], [], [], [], [], [], [], [], [], [], [], [], [], [], [], [], [], [], [], [], [], [], [], [], [], []] [[], [], [], [], [], [], [], [], [], [], [], [], [], [], [], [], [], [], [], [], [], [], [], [], [], [], [], [], [], [], [], [], []] (fun ix σ β X => match ix with | 0 => σ 43 = .bool true | 1 => σ 44 = .bool true | 2 => σ 45 = .int .i64 0 | 3 => σ 46 = .bool true | 4 => σ 47 = .bool true | 5 => σ 48 = .bool true | 6 => σ 49 = .int .i64 0 | 7 => σ 50 = .bool true | 8 => σ 51 = .bool true | 9 => σ 52 = .bool true | 10 => σ 53 = .string S1 | 11 => σ 54 = .int .i64 ((S1.size : Int)) | 12 => σ 55 = .bool ((S1.size : Int) == 512) | 13 => σ 56 = .bool true | 14 => σ 57 = .bool true | 15 => σ 58 = .agg #[.int .i64 k1, .int .i64 l1, .slice A15_3 I1.length c15_3] | 16 => σ 59 = .agg #[.int .i64 k1, .int .i64 l1, .slice A23_5 I1.length c23_5] | 17 => σ 60 = .bool true | 18 => σ 61 = .bool true | 19 => σ 62 = .bool true | 20 => σ 63 = .bool true | 21 => σ 64 = .bool false | 22 => σ 65 = .bool false | 23 => σ 66 = .int .i64 0 | 24 => σ 67 = .bool true | 25 => σ 68 = .bool true | 26 => σ 69 = .string S1 | 27 => σ 70 = .string S1 | 28 => σ 71 = .bool (S1.toList == S1.toList) | 29 => σ 72 = .bool true | 30 => σ 73 = .bool true | 31 => σ 74 = .bool true | 32 => σ 2 = .bool true | _ => True) [0, 1, 2, 3, 4, 5, 6, 7] (by kernel_rfl) (by kernel_rfl) (by kernel_rfl) (by kernel_rfl) ?_ hst9 ?_ ?_
    · intro ix σ σ' β β' X X' hs hb hx h
      match ix, hs, hb, hx, h with
      | 0, hs, hb, hx, h => rw [← hs 43 (by kernel_rfl)]; exact h
      | 1, hs, hb, hx, h => rw [← hs 44 (by kernel_rfl)]; exact h
      | 2, hs, hb, hx, h => rw [← hs 45 (by kernel_rfl)]; exact h
      | 3, hs, hb, hx, h => rw [← hs 46 (by kernel_rfl)]; exact h
      | 4, hs, hb, hx, h => rw [← hs 47 (by kernel_rfl)]; exact h
      | 5, hs, hb, hx, h => rw [← hs 48 (by kernel_rfl)]; exact h
      | 6, hs, hb, hx, h => rw [← hs 49 (by kernel_rfl)]; exact h
      | 7, hs, hb, hx, h => rw [← hs 50 (by kernel_rfl)]; exact h
      | 8, hs, hb, hx, h => rw [← hs 51 (by kernel_rfl)]; exact h
      | 9, hs, hb, hx, h => rw [← hs 52 (by kernel_rfl)]; exact h
      | 10, hs, hb, hx, h => rw [← hs 53 (by kernel_rfl)]; exact h
      | 11, hs, hb, hx, h => rw [← hs 54 (by kernel_rfl)]; exact h
      | 12, hs, hb, hx, h => rw [← hs 55 (by kernel_rfl)]; exact h
      | 13, hs, hb, hx, h => rw [← hs 56 (by kernel_rfl)]; exact h
      | 14, hs, hb, hx, h => rw [← hs 57 (by kernel_rfl)]; exact h
      | 15, hs, hb, hx, h => rw [← hs 58 (by kernel_rfl)]; exact h
      | 16, hs, hb, hx, h => rw [← hs 59 (by kernel_rfl)]; exact h
      | 17, hs, hb, hx, h => rw [← hs 60 (by kernel_rfl)]; exact h
      | 18, hs, hb, hx, h => rw [← hs 61 (by kernel_rfl)]; exact h
      | 19, hs, hb, hx, h => rw [← hs 62 (by kernel_rfl)]; exact h
      | 20, hs, hb, hx, h => rw [← hs 63 (by kernel_rfl)]; exact h
      | 21, hs, hb, hx, h => rw [← hs 64 (by kernel_rfl)]; exact h
      | 22, hs, hb, hx, h => rw [← hs 65 (by kernel_rfl)]; exact h
      | 23, hs, hb, hx, h => rw [← hs 66 (by kernel_rfl)]; exact h
      | 24, hs, hb, hx, h => rw [← hs 67 (by kernel_rfl)]; exact h
      | 25, hs, hb, hx, h => rw [← hs 68 (by kernel_rfl)]; exact h
      | 26, hs, hb, hx, h => rw [← hs 69 (by kernel_rfl)]; exact h
      | 27, hs, hb, hx, h => rw [← hs 70 (by kernel_rfl)]; exact h
      | 28, hs, hb, hx, h => rw [← hs 71 (by kernel_rfl)]; exact h
      | 29, hs, hb, hx, h => rw [← hs 72 (by kernel_rfl)]; exact h
      | 30, hs, hb, hx, h => rw [← hs 73 (by kernel_rfl)]; exact h
      | 31, hs, hb, hx, h => rw [← hs 74 (by kernel_rfl)]; exact h
      | 32, hs, hb, hx, h => rw [← hs 2 (by kernel_rfl)]; exact h
      | _ + 33, _, _, _, _ => trivial
    · refine ⟨⟨⟨⟨⟨⟨⟨⟨⟨⟨⟨⟨⟨⟨⟨⟨⟨⟨⟨⟨⟨⟨⟨⟨⟨⟨⟨⟨⟨⟨⟨⟨⟨trivial, ?_⟩, ?_⟩, ?_⟩, ?_⟩, ?_⟩, ?_⟩, ?_⟩, ?_⟩, ?_⟩, ?_⟩, ?_⟩, ?_⟩, ?_⟩, ?_⟩, ?_⟩, ?_⟩, ?_⟩, ?_⟩, ?_⟩, ?_⟩, ?_⟩, ?_⟩, ?_⟩, ?_⟩, ?_⟩, ?_⟩, ?_⟩, ?_⟩, ?_⟩, ?_⟩, ?_⟩, ?_⟩, ?_⟩
      · refine sv rfl rfl rfl rfl rfl (fun β => .bool true) (fun _ _ _ h => h) (fun _ _ _ => rfl) fun ρ β W X cx => ?_
        have fF3 : ρ (.tmp 3) = .bool true := cx.out 3 (by kernel_rfl)
        exact run_move' rfl fF3
      · refine sv rfl rfl rfl rfl rfl (fun β => .bool true) (fun _ _ _ h => h) (fun _ _ _ => rfl) fun ρ β W X cx => ?_
        have fF43 : ρ (.tmp 43) = .bool true := (cx.anc 0 (by kernel_rfl))
        exact run_move' rfl fF43
      · refine sv_on rfl rfl rfl rfl rfl rfl (fun β => .int .i64 0) (fun _ _ _ h => h) (fun _ _ _ => rfl) (fun ρ β W X cx => (show ρ (.tmp 44) = .bool true from (cx.anc 1 (by kernel_rfl)))) fun ρ β W X cx => ?_
        have fF6 : ρ (.tmp 6) = .int .i64 0 := cx.out 6 (by kernel_rfl)
        exact run_move' rfl fF6
      · refine sv_on rfl rfl rfl rfl rfl rfl (fun β => .bool true) (fun _ _ _ h => h) (fun _ _ _ => rfl) (fun ρ β W X cx => (show ρ (.tmp 44) = .bool true from (cx.anc 1 (by kernel_rfl)))) fun ρ β W X cx => ?_
        have fF45 : ρ (.tmp 45) = .int .i64 0 := (cx.anc 2 (by kernel_rfl))
        exact run_bin rfl fF45 (cx.sees.const _) rfl
      · refine sv rfl rfl rfl rfl rfl (fun β => .bool true) (fun _ _ _ h => h) (fun _ _ _ => rfl) fun ρ β W X cx => ?_
        have fF44 : ρ (.tmp 44) = .bool true := (cx.anc 1 (by kernel_rfl))
        have fF46 : ρ (.tmp 46) = .bool true := (cx.anc 3 (by kernel_rfl))
        exact run_pick_t rfl fF44 fF46
      · refine sv rfl rfl rfl rfl rfl (fun β => .bool true) (fun _ _ _ h => h) (fun _ _ _ => rfl) fun ρ β W X cx => ?_
        have fF47 : ρ (.tmp 47) = .bool true := (cx.anc 4 (by kernel_rfl))
        exact run_move' rfl fF47
      · refine sv_on rfl rfl rfl rfl rfl rfl (fun β => .int .i64 0) (fun _ _ _ h => h) (fun _ _ _ => rfl) (fun ρ β W X cx => (show ρ (.tmp 48) = .bool true from (cx.anc 5 (by kernel_rfl)))) fun ρ β W X cx => ?_
        have fF8 : ρ (.tmp 8) = .int .i64 0 := cx.out 8 (by kernel_rfl)
        exact run_move' rfl fF8
      · refine sv_on rfl rfl rfl rfl rfl rfl (fun β => .bool true) (fun _ _ _ h => h) (fun _ _ _ => rfl) (fun ρ β W X cx => (show ρ (.tmp 48) = .bool true from (cx.anc 5 (by kernel_rfl)))) fun ρ β W X cx => ?_
        have fF49 : ρ (.tmp 49) = .int .i64 0 := (cx.anc 6 (by kernel_rfl))
        exact run_bin rfl fF49 (cx.sees.const _) rfl
      · refine sv rfl rfl rfl rfl rfl (fun β => .bool true) (fun _ _ _ h => h) (fun _ _ _ => rfl) fun ρ β W X cx => ?_
        have fF48 : ρ (.tmp 48) = .bool true := (cx.anc 5 (by kernel_rfl))
        have fF50 : ρ (.tmp 50) = .bool true := (cx.anc 7 (by kernel_rfl))
        exact run_pick_t rfl fF48 fF50
      · refine sv rfl rfl rfl rfl rfl (fun β => .bool true) (fun _ _ _ h => h) (fun _ _ _ => rfl) fun ρ β W X cx => ?_
        have fF51 : ρ (.tmp 51) = .bool true := (cx.anc 8 (by kernel_rfl))
        exact run_move' rfl fF51
      · refine sv_on rfl rfl rfl rfl rfl rfl (fun β => .string S1) (fun _ _ _ h => h) (fun _ _ _ => rfl) (fun ρ β W X cx => (show ρ (.tmp 52) = .bool true from (cx.anc 9 (by kernel_rfl)))) fun ρ β W X cx => ?_
        have fF5 : ρ (.tmp 5) = .string S1 := cx.out 5 (by kernel_rfl)
        exact run_move' rfl fF5
      · refine sv_on rfl rfl rfl rfl rfl rfl (fun β => .int .i64 ((S1.size : Int))) (fun _ _ _ h => h) (fun _ _ _ => rfl) (fun ρ β W X cx => (show ρ (.tmp 52) = .bool true from (cx.anc 9 (by kernel_rfl)))) fun ρ β W X cx => ?_
        have fF53 : ρ (.tmp 53) = .string S1 := (cx.anc 10 (by kernel_rfl))
        exact run_len_s rfl (by kernel_rfl) fF53
      · refine sv_on rfl rfl rfl rfl rfl rfl (fun β => .bool ((S1.size : Int) == 512)) (fun _ _ _ h => h) (fun _ _ _ => rfl) (fun ρ β W X cx => (show ρ (.tmp 52) = .bool true from (cx.anc 9 (by kernel_rfl)))) fun ρ β W X cx => ?_
        have fF54 : ρ (.tmp 54) = .int .i64 ((S1.size : Int)) := (cx.anc 11 (by kernel_rfl))
        exact run_bin rfl fF54 (cx.sees.const _) rfl
      · refine sv rfl rfl rfl rfl rfl (fun β => .bool true) (fun _ _ _ h => h) (fun _ _ _ => rfl) fun ρ β W X cx => ?_
        have fF52 : ρ (.tmp 52) = .bool true := (cx.anc 9 (by kernel_rfl))
        have fF55 : ρ (.tmp 55) = .bool true := (show ρ (.tmp 55) = .bool ((S1.size : Int) == 512) from (cx.anc 12 (by kernel_rfl))).trans (congrArg Value.bool hd12)
        exact run_pick_t rfl fF52 fF55
      · refine sv rfl rfl rfl rfl rfl (fun β => .bool true) (fun _ _ _ h => h) (fun _ _ _ => rfl) fun ρ β W X cx => ?_
        have fF56 : ρ (.tmp 56) = .bool true := (cx.anc 13 (by kernel_rfl))
        exact run_move' rfl fF56
      · refine sv_on rfl rfl rfl rfl rfl rfl (fun β => .agg #[.int .i64 k1, .int .i64 l1, .slice A15_3 I1.length c15_3]) (fun _ _ _ h => h) (fun _ _ _ => rfl) (fun ρ β W X cx => (show ρ (.tmp 57) = .bool true from (cx.anc 14 (by kernel_rfl)))) fun ρ β W X cx => ?_
        have fF4 : ρ (.tmp 4) = .pointer (some ⟨B4_3, 0, none⟩) := cx.out 4 (by kernel_rfl)
        have xX2 : X 2 = eB B4_3 26 #[.int .i64 k1, .int .i64 l1, .slice A15_3 I1.length c15_3] := cx.init 2 _ rfl
        have kK2 : Blk W B4_3 26 #[.int .i64 k1, .int .i64 l1, .slice A15_3 I1.length c15_3] := by have h := (cx.ok 2 rfl).holds; rw [xX2] at h; exact h
        exact run_loadB (n := 3) rfl (by kernel_rfl) (by kernel_rfl) fF4 kK2 (Nat.le_of_ble_eq_true rfl) rfl
      · refine sv_on rfl rfl rfl rfl rfl rfl (fun β => .agg #[.int .i64 k1, .int .i64 l1, .slice A23_5 I1.length c23_5]) (fun _ _ _ h => h) (fun _ _ _ => rfl) (fun ρ β W X cx => (show ρ (.tmp 57) = .bool true from (cx.anc 14 (by kernel_rfl)))) fun ρ β W X cx => ?_
        have fF7 : ρ (.tmp 7) = .pointer (some ⟨B7_5, 0, none⟩) := cx.out 7 (by kernel_rfl)
        have xX4 : X 4 = eB B7_5 26 #[.int .i64 k1, .int .i64 l1, .slice A23_5 I1.length c23_5] := cx.init 4 _ rfl
        have kK4 : Blk W B7_5 26 #[.int .i64 k1, .int .i64 l1, .slice A23_5 I1.length c23_5] := by have h := (cx.ok 4 rfl).holds; rw [xX4] at h; exact h
        exact run_loadB (n := 3) rfl (by kernel_rfl) (by kernel_rfl) fF7 kK4 (Nat.le_of_ble_eq_true rfl) rfl
      · refine sv_any_on rfl rfl rfl (fun ρ β W X cx => (show ρ (.tmp 57) = .bool true from (cx.anc 14 (by kernel_rfl)))) fun ρ β W X cx => ?_
        have fF58 : ρ (.tmp 58) = .agg #[.int .i64 k1, .int .i64 l1, .slice A15_3 I1.length c15_3] := (cx.anc 15 (by kernel_rfl))
        have fF59 : ρ (.tmp 59) = .agg #[.int .i64 k1, .int .i64 l1, .slice A23_5 I1.length c23_5] := (cx.anc 16 (by kernel_rfl))
        have xX1 : X 1 = eO 9 1 (.slice A15_3 I1.length c15_3) I1.length (I1.map Value.string) := cx.init 1 _ rfl
        have kK1 : W.ownsRow 0 9 1 (.slice A15_3 I1.length c15_3) I1.length (I1.map Value.string) := by have h := (cx.ok 1 rfl).holds; rw [xX1] at h; exact h
        have xX3 : X 3 = eO 9 1 (.slice A23_5 I1.length c23_5) I1.length (I1.map Value.string) := cx.init 3 _ rfl
        have kK3 : W.ownsRow 0 9 1 (.slice A23_5 I1.length c23_5) I1.length (I1.map Value.string) := by have h := (cx.ok 3 rfl).holds; rw [xX3] at h; exact h
        refine DoesU.call (run_callF (args := #[.agg #[.int .i64 k1, .int .i64 l1, .slice A15_3 I1.length c15_3], .agg #[.int .i64 k1, .int .i64 l1, .slice A23_5 I1.length c23_5]]) rfl cx.sees rfl (by kernel_rfl) (by simp only [List.map_toArray, List.map_cons, List.map_nil, fF58, fF59])) ?_
        refine (same_any _ _ _ _ _ I1 _ _ _ _ _ I1 _ rfl rfl (At.of_own kK1) (At.of_own kK3) (by omega) (by omega)).mono ?_
        rintro e W1 ⟨rfl, hx⟩
        rw [hone]
        refine ⟨_, rfl, post_call [] rfl rfl hx (by simp) List.Pairwise.nil (fun σ β' X' hs hb hv hN => ?_)⟩
        have hv1 := (hv 60 rfl).1; have hv2 := (hv 60 rfl).2
        exact hv1.trans rfl
      · refine sv rfl rfl rfl rfl rfl (fun β => .bool true) (fun _ _ _ h => h) (fun _ _ _ => rfl) fun ρ β W X cx => ?_
        have fF57 : ρ (.tmp 57) = .bool true := (cx.anc 14 (by kernel_rfl))
        have fF60 : ρ (.tmp 60) = .bool true := (cx.anc 17 (by kernel_rfl))
        exact run_pick_t rfl fF57 fF60
      · refine sv rfl rfl rfl rfl rfl (fun β => .bool true) (fun _ _ _ h => h) (fun _ _ _ => rfl) fun ρ β W X cx => ?_
        have fF61 : ρ (.tmp 61) = .bool true := (cx.anc 18 (by kernel_rfl))
        exact run_move' rfl fF61
      · refine sv_on rfl rfl rfl rfl rfl rfl (fun β => .bool true) (fun _ _ _ h => h) (fun _ _ _ => rfl) (fun ρ β W X cx => (show ρ (.tmp 62) = .bool true from (cx.anc 19 (by kernel_rfl)))) fun ρ β W X cx => ?_
        have fF12 : ρ (.tmp 12) = .bool true := cx.out 12 (by kernel_rfl)
        exact run_move' rfl fF12
      · refine sv_on rfl rfl rfl rfl rfl rfl (fun β => .bool false) (fun _ _ _ h => h) (fun _ _ _ => rfl) (fun ρ β W X cx => (show ρ (.tmp 62) = .bool true from (cx.anc 19 (by kernel_rfl)))) fun ρ β W X cx => ?_
        have fF63 : ρ (.tmp 63) = .bool true := (cx.anc 20 (by kernel_rfl))
        exact run_not rfl fF63 rfl
      · refine sv_on rfl rfl rfl rfl rfl rfl (fun β => .bool false) (fun _ _ _ h => h) (fun _ _ _ => rfl) (fun ρ β W X cx => (show ρ (.tmp 62) = .bool true from (cx.anc 19 (by kernel_rfl)))) fun ρ β W X cx => ?_
        have fF64 : ρ (.tmp 64) = .bool false := (cx.anc 21 (by kernel_rfl))
        exact run_move' rfl fF64
      · refine sv_on rfl rfl rfl rfl rfl rfl (fun β => .int .i64 0) (fun _ _ _ h => h) (fun _ _ _ => rfl) (fun ρ β W X cx => (show ρ (.tmp 65) = .bool false from (cx.anc 22 (by kernel_rfl)))) fun ρ β W X cx => ?_
        have fF11 : ρ (.tmp 11) = .int .i64 0 := cx.out 11 (by kernel_rfl)
        exact run_move' rfl fF11
      · refine sv_on rfl rfl rfl rfl rfl rfl (fun β => .bool true) (fun _ _ _ h => h) (fun _ _ _ => rfl) (fun ρ β W X cx => (show ρ (.tmp 65) = .bool false from (cx.anc 22 (by kernel_rfl)))) fun ρ β W X cx => ?_
        have fF66 : ρ (.tmp 66) = .int .i64 0 := (cx.anc 23 (by kernel_rfl))
        exact run_bin rfl fF66 (cx.sees.const _) rfl
      · refine sv_on rfl rfl rfl rfl rfl rfl (fun β => .bool true) (fun _ _ _ h => h) (fun _ _ _ => rfl) (fun ρ β W X cx => (show ρ (.tmp 65) = .bool false from (cx.anc 22 (by kernel_rfl)))) fun ρ β W X cx => ?_
        have fF67 : ρ (.tmp 67) = .bool true := (cx.anc 24 (by kernel_rfl))
        exact run_move' rfl fF67
      · refine sv_on rfl rfl rfl rfl rfl rfl (fun β => .string S1) (fun _ _ _ h => h) (fun _ _ _ => rfl) (fun ρ β W X cx => (show ρ (.tmp 68) = .bool true from (cx.anc 25 (by kernel_rfl)))) fun ρ β W X cx => ?_
        have fF10 : ρ (.tmp 10) = .string S1 := cx.out 10 (by kernel_rfl)
        exact run_move' rfl fF10
      · refine sv_on rfl rfl rfl rfl rfl rfl (fun β => .string S1) (fun _ _ _ h => h) (fun _ _ _ => rfl) (fun ρ β W X cx => (show ρ (.tmp 68) = .bool true from (cx.anc 25 (by kernel_rfl)))) fun ρ β W X cx => ?_
        have fF5 : ρ (.tmp 5) = .string S1 := cx.out 5 (by kernel_rfl)
        exact run_move' rfl fF5
      · refine sv_on rfl rfl rfl rfl rfl rfl (fun β => .bool (S1.toList == S1.toList)) (fun _ _ _ h => h) (fun _ _ _ => rfl) (fun ρ β W X cx => (show ρ (.tmp 68) = .bool true from (cx.anc 25 (by kernel_rfl)))) fun ρ β W X cx => ?_
        have fF69 : ρ (.tmp 69) = .string S1 := (cx.anc 26 (by kernel_rfl))
        have fF70 : ρ (.tmp 70) = .string S1 := (cx.anc 27 (by kernel_rfl))
        exact run_streq rfl fF69 fF70
      · refine sv_on rfl rfl rfl rfl rfl rfl (fun β => .bool true) (fun _ _ _ h => h) (fun _ _ _ => rfl) (fun ρ β W X cx => (show ρ (.tmp 65) = .bool false from (cx.anc 22 (by kernel_rfl)))) fun ρ β W X cx => ?_
        have fF68 : ρ (.tmp 68) = .bool true := (cx.anc 25 (by kernel_rfl))
        have fF71 : ρ (.tmp 71) = .bool true := (show ρ (.tmp 71) = .bool (S1.toList == S1.toList) from (cx.anc 28 (by kernel_rfl))).trans (congrArg Value.bool hd13)
        exact run_pick_t rfl fF68 fF71
      · refine sv_on rfl rfl rfl rfl rfl rfl (fun β => .bool true) (fun _ _ _ h => h) (fun _ _ _ => rfl) (fun ρ β W X cx => (show ρ (.tmp 62) = .bool true from (cx.anc 19 (by kernel_rfl)))) fun ρ β W X cx => ?_
        have fF65 : ρ (.tmp 65) = .bool false := (cx.anc 22 (by kernel_rfl))
        have fF72 : ρ (.tmp 72) = .bool true := (cx.anc 29 (by kernel_rfl))
        exact run_pick_f rfl fF65 fF72
      · refine sv rfl rfl rfl rfl rfl (fun β => .bool true) (fun _ _ _ h => h) (fun _ _ _ => rfl) fun ρ β W X cx => ?_
        have fF62 : ρ (.tmp 62) = .bool true := (cx.anc 19 (by kernel_rfl))
        have fF73 : ρ (.tmp 73) = .bool true := (cx.anc 30 (by kernel_rfl))
        exact run_pick_t rfl fF62 fF73
      · refine sv rfl rfl rfl rfl rfl (fun β => .bool true) (fun _ _ _ h => h) (fun _ _ _ => rfl) fun ρ β W X cx => ?_
        have fF74 : ρ (.tmp 74) = .bool true := (cx.anc 31 (by kernel_rfl))
        exact run_assign' rfl fF74
    intro σ β X W11 hD hX hst11q fr hfr
    have dD43 : σ 43 = .bool true := (hD 0 (Nat.le_of_ble_eq_true rfl))
    have dD44 : σ 44 = .bool true := (hD 1 (Nat.le_of_ble_eq_true rfl))
    have dD45 : σ 45 = .int .i64 0 := (hD 2 (Nat.le_of_ble_eq_true rfl))
    have dD46 : σ 46 = .bool true := (hD 3 (Nat.le_of_ble_eq_true rfl))
    have dD47 : σ 47 = .bool true := (hD 4 (Nat.le_of_ble_eq_true rfl))
    have dD48 : σ 48 = .bool true := (hD 5 (Nat.le_of_ble_eq_true rfl))
    have dD49 : σ 49 = .int .i64 0 := (hD 6 (Nat.le_of_ble_eq_true rfl))
    have dD50 : σ 50 = .bool true := (hD 7 (Nat.le_of_ble_eq_true rfl))
    have dD51 : σ 51 = .bool true := (hD 8 (Nat.le_of_ble_eq_true rfl))
    have dD52 : σ 52 = .bool true := (hD 9 (Nat.le_of_ble_eq_true rfl))
    have dD53 : σ 53 = .string S1 := (hD 10 (Nat.le_of_ble_eq_true rfl))
    have dD54 : σ 54 = .int .i64 ((S1.size : Int)) := (hD 11 (Nat.le_of_ble_eq_true rfl))
    have dD55 : σ 55 = .bool ((S1.size : Int) == 512) := (hD 12 (Nat.le_of_ble_eq_true rfl))
    have dD56 : σ 56 = .bool true := (hD 13 (Nat.le_of_ble_eq_true rfl))
    have dD57 : σ 57 = .bool true := (hD 14 (Nat.le_of_ble_eq_true rfl))
    have dD58 : σ 58 = .agg #[.int .i64 k1, .int .i64 l1, .slice A15_3 I1.length c15_3] := (hD 15 (Nat.le_of_ble_eq_true rfl))
    have dD59 : σ 59 = .agg #[.int .i64 k1, .int .i64 l1, .slice A23_5 I1.length c23_5] := (hD 16 (Nat.le_of_ble_eq_true rfl))
    have dD60 : σ 60 = .bool true := (hD 17 (Nat.le_of_ble_eq_true rfl))
    have dD61 : σ 61 = .bool true := (hD 18 (Nat.le_of_ble_eq_true rfl))
    have dD62 : σ 62 = .bool true := (hD 19 (Nat.le_of_ble_eq_true rfl))
    have dD63 : σ 63 = .bool true := (hD 20 (Nat.le_of_ble_eq_true rfl))
    have dD64 : σ 64 = .bool false := (hD 21 (Nat.le_of_ble_eq_true rfl))
    have dD65 : σ 65 = .bool false := (hD 22 (Nat.le_of_ble_eq_true rfl))
    have dD66 : σ 66 = .int .i64 0 := (hD 23 (Nat.le_of_ble_eq_true rfl))
    have dD67 : σ 67 = .bool true := (hD 24 (Nat.le_of_ble_eq_true rfl))
    have dD68 : σ 68 = .bool true := (hD 25 (Nat.le_of_ble_eq_true rfl))
    have dD69 : σ 69 = .string S1 := (hD 26 (Nat.le_of_ble_eq_true rfl))
    have dD70 : σ 70 = .string S1 := (hD 27 (Nat.le_of_ble_eq_true rfl))
    have dD71 : σ 71 = .bool (S1.toList == S1.toList) := (hD 28 (Nat.le_of_ble_eq_true rfl))
    have dD72 : σ 72 = .bool true := (hD 29 (Nat.le_of_ble_eq_true rfl))
    have dD73 : σ 73 = .bool true := (hD 30 (Nat.le_of_ble_eq_true rfl))
    have dD74 : σ 74 = .bool true := (hD 31 (Nat.le_of_ble_eq_true rfl))
    have dD2 : σ 2 = .bool true := (hD 32 (Nat.le_of_ble_eq_true rfl))
    have xX0 : X 0 = eB B1_1 24 #[.int .i64 kA, .int .i64 lA, .slice A sa.length c] := hX 0 _ rfl
    have xX1 : X 1 = eO 9 1 (.slice A15_3 I1.length c15_3) I1.length (I1.map Value.string) := hX 1 _ rfl
    have xX2 : X 2 = eB B4_3 26 #[.int .i64 k1, .int .i64 l1, .slice A15_3 I1.length c15_3] := hX 2 _ rfl
    have xX3 : X 3 = eO 9 1 (.slice A23_5 I1.length c23_5) I1.length (I1.map Value.string) := hX 3 _ rfl
    have xX4 : X 4 = eB B7_5 26 #[.int .i64 k1, .int .i64 l1, .slice A23_5 I1.length c23_5] := hX 4 _ rfl
    have xX5 : X 5 = eO 9 1 (.slice A31_7 1 1) 1 ([.string ⟨#[]⟩]) := hX 5 _ rfl
    have xX6 : X 6 = eO 9 1 (.slice A32_7 (I1.length + 1) c32_7) (I1.length + 1) ((I1.map Value.string) ++ [.string ⟨#[]⟩]) := hX 6 _ rfl
    have xX7 : X 7 = eB B9_6 26 #[.int .i64 k1, .int .i64 l1, .slice A32_7 (I1.length + 1) c32_7] := hX 7 _ rfl
    have hst11 : St w [] [eB B1_1 24 #[.int .i64 kA, .int .i64 lA, .slice A sa.length c], eO 9 1 (.slice A15_3 I1.length c15_3) I1.length (I1.map Value.string), eB B4_3 26 #[.int .i64 k1, .int .i64 l1, .slice A15_3 I1.length c15_3], eO 9 1 (.slice A23_5 I1.length c23_5) I1.length (I1.map Value.string), eB B7_5 26 #[.int .i64 k1, .int .i64 l1, .slice A23_5 I1.length c23_5], eO 9 1 (.slice A31_7 1 1) 1 ([.string ⟨#[]⟩]), eO 9 1 (.slice A32_7 (I1.length + 1) c32_7) (I1.length + 1) ((I1.map Value.string) ++ [.string ⟨#[]⟩]), eB B9_6 26 #[.int .i64 k1, .int .i64 l1, .slice A32_7 (I1.length + 1) c32_7]] W11 := by
      have h := hst11q
      simp only [List.map_cons, List.map_nil, xX0, xX1, xX2, xX3, xX4, xX5, xX6, xX7] at h
      exact h
    have hfr2 : fr = #[.agg #[.int .i64 kA, .int .i64 lA, .slice A sa.length c], .pointer (some ⟨B1_1, 0, none⟩), .bool true, .bool true, .pointer (some ⟨B4_3, 0, none⟩), .string S1, .int .i64 0, .pointer (some ⟨B7_5, 0, none⟩), .int .i64 0, .pointer (some ⟨B9_6, 0, none⟩), .string S1, .int .i64 0, .bool true, .bool true, .agg #[.int .i64 kA, .int .i64 lA, .slice A sa.length c], .agg #[.int .i64 k1, .int .i64 l1, .slice A15_3 I1.length c15_3], .tuple #[.string S1, .int .i64 0], .agg #[.int .i64 k1, .int .i64 l1, .slice A15_3 I1.length c15_3], .tuple #[.string S1, .int .i64 0], .string S1, .int .i64 0, .tuple #[.agg #[.int .i64 k1, .int .i64 l1, .slice A23_5 I1.length c23_5], .int .i64 0], .string S1, .tuple #[.agg #[.int .i64 k1, .int .i64 l1, .slice A23_5 I1.length c23_5], .int .i64 0], .agg #[.int .i64 k1, .int .i64 l1, .slice A23_5 I1.length c23_5], .int .i64 0, .agg #[.int .i64 k1, .int .i64 l1, .slice A15_3 I1.length c15_3], .slice A27_7 0 0, .pointer (some ⟨B4_3, 2, none⟩), .slice A15_3 I1.length c15_3, .slice A30_7 I1.length c30_7, .slice A31_7 1 1, .slice A32_7 (I1.length + 1) c32_7, .pointer (some ⟨B9_6, 2, none⟩), .tuple #[.string S1, .int .i64 0], .agg #[.int .i64 k1, .int .i64 l1, .slice A32_7 (I1.length + 1) c32_7], .tuple #[.string S1, .int .i64 0], .string S1, .int .i64 0, .pointer (some ⟨B4_3, 2, none⟩), .slice A15_3 I1.length c15_3, .int .i64 ((I1.length : Int)), .bool (decide ((I1.length : Int) < 24)), .bool true, .bool true, .int .i64 0, .bool true, .bool true, .bool true, .int .i64 0, .bool true, .bool true, .bool true, .string S1, .int .i64 ((S1.size : Int)), .bool ((S1.size : Int) == 512), .bool true, .bool true, .agg #[.int .i64 k1, .int .i64 l1, .slice A15_3 I1.length c15_3], .agg #[.int .i64 k1, .int .i64 l1, .slice A23_5 I1.length c23_5], .bool true, .bool true, .bool true, .bool true, .bool false, .bool false, .int .i64 0, .bool true, .bool true, .string S1, .string S1, .bool (S1.toList == S1.toList), .bool true, .bool true, .bool true] := hfr.trans (by rw [show dstsU _ = [43, 44, 45, 46, 47, 48, 49, 50, 51, 52, 53, 54, 55, 56, 57, 58, 59, 60, 61, 62, 63, 64, 65, 66, 67, 68, 69, 70, 71, 72, 73, 74, 2] by kernel_rfl]; simp only [List.map_cons, List.map_nil, putAll, List.setIfInBounds_toArray, List.set_cons_succ, List.set_cons_zero, dD43, dD44, dD45, dD46, dD47, dD48, dD49, dD50, dD51, dD52, dD53, dD54, dD55, dD56, dD57, dD58, dD59, dD60, dD61, dD62, dD63, dD64, dD65, dD66, dD67, dD68, dD69, dD70, dD71, dD72, dD73, dD74, dD2])
    clear hfr hX hD hst11q dD43 dD44 dD45 dD46 dD47 dD48 dD49 dD50 dD51 dD52 dD53 dD54 dD55 dD56 dD57 dD58 dD59 dD60 dD61 dD62 dD63 dD64 dD65 dD66 dD67 dD68 dD69 dD70 dD71 dD72 dD73 dD74 dD2 xX0 xX1 xX2 xX3 xX4 xX5 xX6 xX7
    subst hfr2
    clear σ β X
    refine then_normal ?_
    refine wp_ret ?_
    refine bodyPost_ret (v := .bool true) (by simp [results, Try.results11, go_sem]) rfl ?_
    exact ⟨rfl, hst11.ext⟩
  · have HB2 := Lib.hid hB2
    clear hfit hB2
    go_enter Try.func11, Try.ntmps11
    have hst0 := St.start w
    refine wp_seq ?_
    refine wp_region_V (by kernel_rfl) [0, 0] [[], []] [[0], []] [[], []] (fun ix σ β X => match ix with | 0 => σ 1 = .pointer (some ⟨(pb (β 1)), 0, none⟩) ∧ X 0 = eB (pb (β 1)) 24 #[.int .i64 kA, .int .i64 lA, .slice A sa.length c] | 1 => σ 2 = .bool false | _ => True) [0] (by kernel_rfl) (by kernel_rfl) (by kernel_rfl) (by kernel_rfl) ?_ hst0 ?_ ?_
    · intro ix σ σ' β β' X X' hs hb hx h
      match ix, hs, hb, hx, h with
      | 0, hs, hb, hx, h => rw [← hs 1 (by kernel_rfl), ← hb 1 (by kernel_rfl), ← hx 0 (by kernel_rfl)]; exact h
      | 1, hs, hb, hx, h => rw [← hs 2 (by kernel_rfl)]; exact h
      | _ + 2, _, _, _, _ => trivial
    · refine ⟨⟨trivial, ?_⟩, ?_⟩
      · refine sv_any rfl rfl fun ρ β W X cx => ?_
        have fF0 : ρ (.tmp 0) = .agg #[.int .i64 kA, .int .i64 lA, .slice A sa.length c] := cx.out 0 (by kernel_rfl)
        exact dv_box (cs := #[.int .i64 kA, .int .i64 lA, .slice A sa.length c]) rfl fF0 rfl rfl rfl (fun σ β' X' hs hb hv hx => ⟨hv, hx⟩)
      · refine sv rfl rfl rfl rfl rfl (fun β => .bool false) (fun _ _ _ h => h) (fun _ _ _ => rfl) fun ρ β W X cx => ?_
        exact run_assign' rfl (cx.sees.const _)
    intro σ β X W1 hD hX hst1q fr hfr
    obtain ⟨B1_1, hu_B1_1⟩ : ∃ z, pb (β 1) = z := ⟨_, rfl⟩
    have dD1 : σ 1 = .pointer (some ⟨B1_1, 0, none⟩) := by rw [← hu_B1_1]; exact (hD 0 (Nat.le_of_ble_eq_true rfl)).1
    have dD2 : σ 2 = .bool false := (hD 1 (Nat.le_of_ble_eq_true rfl))
    have xX0 : X 0 = eB B1_1 24 #[.int .i64 kA, .int .i64 lA, .slice A sa.length c] := by rw [← hu_B1_1]; exact (hD 0 (Nat.le_of_ble_eq_true rfl)).2
    have hst1 : St w [] [eB B1_1 24 #[.int .i64 kA, .int .i64 lA, .slice A sa.length c]] W1 := by
      have h := hst1q
      simp only [List.map_cons, List.map_nil, xX0] at h
      exact h
    have hfr2 : fr = #[.agg #[.int .i64 kA, .int .i64 lA, .slice A sa.length c], .pointer (some ⟨B1_1, 0, none⟩), .bool false, undef, undef, undef, undef, undef, undef, undef, undef, undef, undef, undef, undef, undef, undef, undef, undef, undef, undef, undef, undef, undef, undef, undef, undef, undef, undef, undef, undef, undef, undef, undef, undef, undef, undef, undef, undef, undef, undef, undef, undef, undef, undef, undef, undef, undef, undef, undef, undef, undef, undef, undef, undef, undef, undef, undef, undef, undef, undef, undef, undef, undef, undef, undef, undef, undef, undef, undef, undef, undef, undef, undef, undef] := hfr.trans (by rw [show dstsU _ = [1, 2] by kernel_rfl]; simp only [List.map_cons, List.map_nil, putAll, List.setIfInBounds_toArray, List.set_cons_succ, List.set_cons_zero, dD1, dD2])
    clear hfr hX hD hst1q dD1 dD2 xX0 hu_B1_1
    subst hfr2
    clear σ β X
    refine then_normal ?_
    refine wp_seq ?_
    refine wp_region_V (by kernel_rfl) [0, 1] [[], []] [[], []] [[], []] (fun ix σ β X => match ix with | 0 => σ 13 = .bool true | 1 => σ 3 = .bool true | _ => True) [0] (by kernel_rfl) (by kernel_rfl) (by kernel_rfl) (by kernel_rfl) ?_ hst1 ?_ ?_
    · intro ix σ σ' β β' X X' hs hb hx h
      match ix, hs, hb, hx, h with
      | 0, hs, hb, hx, h => rw [← hs 13 (by kernel_rfl)]; exact h
      | 1, hs, hb, hx, h => rw [← hs 3 (by kernel_rfl)]; exact h
      | _ + 2, _, _, _, _ => trivial
    · refine ⟨⟨trivial, ?_⟩, ?_⟩
      · refine sv_any rfl rfl fun ρ β W X cx => ?_
        refine DoesU.call (run_callF (args := #[]) rfl cx.sees rfl (by kernel_rfl) (by simp only [List.map_toArray, List.map_cons, List.map_nil])) ?_
        refine (sanity_any _).mono ?_
        rintro e W1 ⟨rfl, hx⟩
        refine ⟨_, rfl, post_call [] rfl rfl hx (by simp) List.Pairwise.nil (fun σ β' X' hs hb hv hN => ?_)⟩
        have hv1 := (hv 13 rfl).1; have hv2 := (hv 13 rfl).2
        exact hv1.trans rfl
      · refine sv rfl rfl rfl rfl rfl (fun β => .bool true) (fun _ _ _ h => h) (fun _ _ _ => rfl) fun ρ β W X cx => ?_
        have fF13 : ρ (.tmp 13) = .bool true := (cx.anc 0 (by kernel_rfl))
        exact run_assign' rfl fF13
    intro σ β X W2 hD hX hst2q fr hfr
    have dD13 : σ 13 = .bool true := (hD 0 (Nat.le_of_ble_eq_true rfl))
    have dD3 : σ 3 = .bool true := (hD 1 (Nat.le_of_ble_eq_true rfl))
    have xX0 : X 0 = eB B1_1 24 #[.int .i64 kA, .int .i64 lA, .slice A sa.length c] := hX 0 _ rfl
    have hst2 : St w [] [eB B1_1 24 #[.int .i64 kA, .int .i64 lA, .slice A sa.length c]] W2 := by
      have h := hst2q
      simp only [List.map_cons, List.map_nil, xX0] at h
      exact h
    have hfr2 : fr = #[.agg #[.int .i64 kA, .int .i64 lA, .slice A sa.length c], .pointer (some ⟨B1_1, 0, none⟩), .bool false, .bool true, undef, undef, undef, undef, undef, undef, undef, undef, undef, .bool true, undef, undef, undef, undef, undef, undef, undef, undef, undef, undef, undef, undef, undef, undef, undef, undef, undef, undef, undef, undef, undef, undef, undef, undef, undef, undef, undef, undef, undef, undef, undef, undef, undef, undef, undef, undef, undef, undef, undef, undef, undef, undef, undef, undef, undef, undef, undef, undef, undef, undef, undef, undef, undef, undef, undef, undef, undef, undef, undef, undef, undef] := hfr.trans (by rw [show dstsU _ = [13, 3] by kernel_rfl]; simp only [List.map_cons, List.map_nil, putAll, List.setIfInBounds_toArray, List.set_cons_succ, List.set_cons_zero, dD13, dD3])
    clear hfr hX hD hst2q dD13 dD3 xX0
    subst hfr2
    clear σ β X
    refine then_normal ?_
    refine wp_seq ?_
    refine wp_region_V (by kernel_rfl) [0, 1, 0, 7] [[0], [], [], [2]] [[], [1], [2], [3]] [[], [], [], [2]] (fun ix σ β X => match ix with | 0 => σ 14 = .agg #[.int .i64 kA, .int .i64 lA, .slice A sa.length c] | 1 => σ 15 = .agg #[.int .i64 k1, .int .i64 l1, .slice (sA (tg (β 15) 2)) I1.length (sC (tg (β 15) 2))] ∧ X 1 = eO 9 1 (.slice (sA (tg (β 15) 2)) I1.length (sC (tg (β 15) 2))) I1.length (I1.map Value.string) | 2 => σ 4 = .pointer (some ⟨(pb (β 4)), 0, none⟩) ∧ X 2 = eB (pb (β 4)) 26 #[.int .i64 0, .int .i64 0, .slice none 0 0] | 3 => X 3 = eB (pb (β 4)) 26 #[.int .i64 k1, .int .i64 l1, .slice (sA (tg (β 15) 2)) I1.length (sC (tg (β 15) 2))] | _ => True) [0, 1, 3] (by kernel_rfl) (by kernel_rfl) (by kernel_rfl) (by kernel_rfl) ?_ hst2 ?_ ?_
    · intro ix σ σ' β β' X X' hs hb hx h
      match ix, hs, hb, hx, h with
      | 0, hs, hb, hx, h => rw [← hs 14 (by kernel_rfl)]; exact h
      | 1, hs, hb, hx, h => rw [← hs 15 (by kernel_rfl), ← hb 15 (by kernel_rfl), ← hx 1 (by kernel_rfl)]; exact h
      | 2, hs, hb, hx, h => rw [← hs 4 (by kernel_rfl), ← hb 4 (by kernel_rfl), ← hx 2 (by kernel_rfl)]; exact h
      | 3, hs, hb, hx, h => rw [← hb 4 (by kernel_rfl), ← hb 15 (by kernel_rfl), ← hx 3 (by kernel_rfl)]; exact h
      | _ + 4, _, _, _, _ => trivial
    · refine ⟨⟨⟨⟨trivial, ?_⟩, ?_⟩, ?_⟩, ?_⟩
      · refine sv rfl rfl rfl rfl rfl (fun β => .agg #[.int .i64 kA, .int .i64 lA, .slice A sa.length c]) (fun _ _ _ h => h) (fun _ _ _ => rfl) fun ρ β W X cx => ?_
        have fF1 : ρ (.tmp 1) = .pointer (some ⟨B1_1, 0, none⟩) := cx.out 1 (by kernel_rfl)
        have xX0 : X 0 = eB B1_1 24 #[.int .i64 kA, .int .i64 lA, .slice A sa.length c] := cx.init 0 _ rfl
        have kK0 : Blk W B1_1 24 #[.int .i64 kA, .int .i64 lA, .slice A sa.length c] := by have h := (cx.ok 0 rfl).holds; rw [xX0] at h; exact h
        exact run_loadB (n := 3) rfl (by kernel_rfl) (by kernel_rfl) fF1 kK0 (Nat.le_of_ble_eq_true rfl) rfl
      · refine sv_any rfl rfl fun ρ β W X cx => ?_
        have fF14 : ρ (.tmp 14) = .agg #[.int .i64 kA, .int .i64 lA, .slice A sa.length c] := (cx.anc 0 (by kernel_rfl))
        refine DoesU.call (run_callF (args := #[.agg #[.int .i64 kA, .int .i64 lA, .slice A sa.length c]]) rfl cx.sees rfl (by kernel_rfl) (by simp only [List.map_toArray, List.map_cons, List.map_nil, fF14])) ?_
        refine (HM1.out _ (HA.out.ext cx.upd.to_ext)).mono ?_
        rintro e W1 ⟨A4, c4, rfl, ho, hx⟩
        refine ⟨_, rfl, post_call [eO 9 1 (.slice A4 I1.length c4) I1.length (I1.map Value.string)] rfl rfl hx (one_new (eO_new ho)) (List.pairwise_singleton _ _) (fun σ β' X' hs hb hv hN => ?_)⟩
        have hv1 := (hv 15 rfl).1; have hv2 := (hv 15 rfl).2
        exact ⟨hv1.trans (by rw [hv2]; rfl), (by rw [hv2]; exact (List.cons.inj hN).1)⟩
      · refine sv_any rfl rfl fun ρ β W X cx => ?_
        exact dv_alloc (cs := #[.int .i64 0, .int .i64 0, .slice none 0 0]) rfl (by kernel_rfl) rfl rfl (fun σ β' X' hs hb hv hx => ⟨hv, hx⟩)
      · refine sv_any rfl rfl fun ρ β W X cx => ?_
        have fF4 : ρ (.tmp 4) = .pointer (some ⟨(pb (β 4)), 0, none⟩) := (cx.anc 2 (by kernel_rfl)).1
        have fF15 : ρ (.tmp 15) = .agg #[.int .i64 k1, .int .i64 l1, .slice (sA (tg (β 15) 2)) I1.length (sC (tg (β 15) 2))] := (cx.anc 1 (by kernel_rfl)).1
        have xX2 : X 2 = eB (pb (β 4)) 26 #[.int .i64 0, .int .i64 0, .slice none 0 0] := (cx.anc 2 (by kernel_rfl)).2
        exact dv_store (n := 3) rfl fF4 fF15 (by kernel_rfl) rfl rfl cx xX2 rfl (Nat.le_of_ble_eq_true rfl) rfl rfl rfl rfl (fun σ β' X' hs hb hx => by rw [hb 4, hb 15]; exact hx)
    intro σ β X W3 hD hX hst3q fr hfr
    obtain ⟨A15_3, hu_A15_3⟩ : ∃ z, sA (tg (β 15) 2) = z := ⟨_, rfl⟩
    obtain ⟨c15_3, hu_c15_3⟩ : ∃ z, sC (tg (β 15) 2) = z := ⟨_, rfl⟩
    obtain ⟨B4_3, hu_B4_3⟩ : ∃ z, pb (β 4) = z := ⟨_, rfl⟩
    have dD14 : σ 14 = .agg #[.int .i64 kA, .int .i64 lA, .slice A sa.length c] := (hD 0 (Nat.le_of_ble_eq_true rfl))
    have dD15 : σ 15 = .agg #[.int .i64 k1, .int .i64 l1, .slice A15_3 I1.length c15_3] := by rw [← hu_A15_3, ← hu_c15_3]; exact (hD 1 (Nat.le_of_ble_eq_true rfl)).1
    have dD4 : σ 4 = .pointer (some ⟨B4_3, 0, none⟩) := by rw [← hu_B4_3]; exact (hD 2 (Nat.le_of_ble_eq_true rfl)).1
    have xX0 : X 0 = eB B1_1 24 #[.int .i64 kA, .int .i64 lA, .slice A sa.length c] := hX 0 _ rfl
    have xX1 : X 1 = eO 9 1 (.slice A15_3 I1.length c15_3) I1.length (I1.map Value.string) := by rw [← hu_A15_3, ← hu_c15_3]; exact (hD 1 (Nat.le_of_ble_eq_true rfl)).2
    have xX3 : X 3 = eB B4_3 26 #[.int .i64 k1, .int .i64 l1, .slice A15_3 I1.length c15_3] := by rw [← hu_A15_3, ← hu_c15_3, ← hu_B4_3]; exact (hD 3 (Nat.le_of_ble_eq_true rfl))
    have hst3 : St w [] [eB B1_1 24 #[.int .i64 kA, .int .i64 lA, .slice A sa.length c], eO 9 1 (.slice A15_3 I1.length c15_3) I1.length (I1.map Value.string), eB B4_3 26 #[.int .i64 k1, .int .i64 l1, .slice A15_3 I1.length c15_3]] W3 := by
      have h := hst3q
      simp only [List.map_cons, List.map_nil, xX0, xX1, xX3] at h
      exact h
    have hfr2 : fr = #[.agg #[.int .i64 kA, .int .i64 lA, .slice A sa.length c], .pointer (some ⟨B1_1, 0, none⟩), .bool false, .bool true, .pointer (some ⟨B4_3, 0, none⟩), undef, undef, undef, undef, undef, undef, undef, undef, .bool true, .agg #[.int .i64 kA, .int .i64 lA, .slice A sa.length c], .agg #[.int .i64 k1, .int .i64 l1, .slice A15_3 I1.length c15_3], undef, undef, undef, undef, undef, undef, undef, undef, undef, undef, undef, undef, undef, undef, undef, undef, undef, undef, undef, undef, undef, undef, undef, undef, undef, undef, undef, undef, undef, undef, undef, undef, undef, undef, undef, undef, undef, undef, undef, undef, undef, undef, undef, undef, undef, undef, undef, undef, undef, undef, undef, undef, undef, undef, undef, undef, undef, undef, undef] := hfr.trans (by rw [show dstsU _ = [14, 15, 4] by kernel_rfl]; simp only [List.map_cons, List.map_nil, putAll, List.setIfInBounds_toArray, List.set_cons_succ, List.set_cons_zero, dD14, dD15, dD4])
    clear hfr hX hD hst3q dD14 dD15 dD4 xX0 xX1 xX3 hu_A15_3 hu_c15_3 hu_B4_3
    subst hfr2
    clear σ β X
    refine then_normal ?_
    refine wp_seq ?_
    refine wp_region_V (by kernel_rfl) [0, 1, 3, 7, 7, 15, 63] [[2], [1], [], [], [], [], []] [[], [], [], [], [], [], []] [[], [], [], [], [], [], []] (fun ix σ β X => match ix with | 0 => σ 17 = .agg #[.int .i64 k1, .int .i64 l1, .slice A15_3 I1.length c15_3] | 1 => σ 18 = .tuple #[.string S1, .int .i64 0] | 2 => σ 16 = .tuple #[.string S1, .int .i64 0] | 3 => σ 19 = .string S1 | 4 => σ 20 = .int .i64 0 | 5 => σ 5 = .string S1 | 6 => σ 6 = .int .i64 0 | _ => True) [0, 1, 2] (by kernel_rfl) (by kernel_rfl) (by kernel_rfl) (by kernel_rfl) ?_ hst3 ?_ ?_
    · intro ix σ σ' β β' X X' hs hb hx h
      match ix, hs, hb, hx, h with
      | 0, hs, hb, hx, h => rw [← hs 17 (by kernel_rfl)]; exact h
      | 1, hs, hb, hx, h => rw [← hs 18 (by kernel_rfl)]; exact h
      | 2, hs, hb, hx, h => rw [← hs 16 (by kernel_rfl)]; exact h
      | 3, hs, hb, hx, h => rw [← hs 19 (by kernel_rfl)]; exact h
      | 4, hs, hb, hx, h => rw [← hs 20 (by kernel_rfl)]; exact h
      | 5, hs, hb, hx, h => rw [← hs 5 (by kernel_rfl)]; exact h
      | 6, hs, hb, hx, h => rw [← hs 6 (by kernel_rfl)]; exact h
      | _ + 7, _, _, _, _ => trivial
    · refine ⟨⟨⟨⟨⟨⟨⟨trivial, ?_⟩, ?_⟩, ?_⟩, ?_⟩, ?_⟩, ?_⟩, ?_⟩
      · refine sv rfl rfl rfl rfl rfl (fun β => .agg #[.int .i64 k1, .int .i64 l1, .slice A15_3 I1.length c15_3]) (fun _ _ _ h => h) (fun _ _ _ => rfl) fun ρ β W X cx => ?_
        have fF4 : ρ (.tmp 4) = .pointer (some ⟨B4_3, 0, none⟩) := cx.out 4 (by kernel_rfl)
        have xX2 : X 2 = eB B4_3 26 #[.int .i64 k1, .int .i64 l1, .slice A15_3 I1.length c15_3] := cx.init 2 _ rfl
        have kK2 : Blk W B4_3 26 #[.int .i64 k1, .int .i64 l1, .slice A15_3 I1.length c15_3] := by have h := (cx.ok 2 rfl).holds; rw [xX2] at h; exact h
        exact run_loadB (n := 3) rfl (by kernel_rfl) (by kernel_rfl) fF4 kK2 (Nat.le_of_ble_eq_true rfl) rfl
      · refine sv_any rfl rfl fun ρ β W X cx => ?_
        have fF17 : ρ (.tmp 17) = .agg #[.int .i64 k1, .int .i64 l1, .slice A15_3 I1.length c15_3] := (cx.anc 0 (by kernel_rfl))
        have xX1 : X 1 = eO 9 1 (.slice A15_3 I1.length c15_3) I1.length (I1.map Value.string) := cx.init 1 _ rfl
        have kK1 : W.ownsRow 0 9 1 (.slice A15_3 I1.length c15_3) I1.length (I1.map Value.string) := by have h := (cx.ok 1 rfl).holds; rw [xX1] at h; exact h
        refine DoesU.call (run_callF (args := #[.agg #[.int .i64 k1, .int .i64 l1, .slice A15_3 I1.length c15_3]]) rfl cx.sees rfl (by kernel_rfl) (by simp only [List.map_toArray, List.map_cons, List.map_nil, fF17])) ?_
        refine (BY1.out _ _ _ (At.of_own kK1)).mono ?_
        rintro e W1 ⟨rfl, hx⟩
        refine ⟨_, rfl, post_call [] rfl rfl hx (by simp) List.Pairwise.nil (fun σ β' X' hs hb hv hN => ?_)⟩
        have hv1 := (hv 18 rfl).1; have hv2 := (hv 18 rfl).2
        exact hv1.trans rfl
      · refine sv rfl rfl rfl rfl rfl (fun β => .tuple #[.string S1, .int .i64 0]) (fun _ _ _ h => h) (fun _ _ _ => rfl) fun ρ β W X cx => ?_
        have fF18 : ρ (.tmp 18) = .tuple #[.string S1, .int .i64 0] := (cx.anc 1 (by kernel_rfl))
        exact run_move' rfl fF18
      · refine sv rfl rfl rfl rfl rfl (fun β => .string S1) (fun _ _ _ h => h) (fun _ _ _ => rfl) fun ρ β W X cx => ?_
        have fF16 : ρ (.tmp 16) = .tuple #[.string S1, .int .i64 0] := (cx.anc 2 (by kernel_rfl))
        exact run_extract' rfl fF16 rfl
      · refine sv rfl rfl rfl rfl rfl (fun β => .int .i64 0) (fun _ _ _ h => h) (fun _ _ _ => rfl) fun ρ β W X cx => ?_
        have fF16 : ρ (.tmp 16) = .tuple #[.string S1, .int .i64 0] := (cx.anc 2 (by kernel_rfl))
        exact run_extract' rfl fF16 rfl
      · refine sv rfl rfl rfl rfl rfl (fun β => .string S1) (fun _ _ _ h => h) (fun _ _ _ => rfl) fun ρ β W X cx => ?_
        have fF19 : ρ (.tmp 19) = .string S1 := (cx.anc 3 (by kernel_rfl))
        exact run_assign' rfl fF19
      · refine sv rfl rfl rfl rfl rfl (fun β => .int .i64 0) (fun _ _ _ h => h) (fun _ _ _ => rfl) fun ρ β W X cx => ?_
        have fF20 : ρ (.tmp 20) = .int .i64 0 := (cx.anc 4 (by kernel_rfl))
        exact run_assign' rfl fF20
    intro σ β X W4 hD hX hst4q fr hfr
    have dD17 : σ 17 = .agg #[.int .i64 k1, .int .i64 l1, .slice A15_3 I1.length c15_3] := (hD 0 (Nat.le_of_ble_eq_true rfl))
    have dD18 : σ 18 = .tuple #[.string S1, .int .i64 0] := (hD 1 (Nat.le_of_ble_eq_true rfl))
    have dD16 : σ 16 = .tuple #[.string S1, .int .i64 0] := (hD 2 (Nat.le_of_ble_eq_true rfl))
    have dD19 : σ 19 = .string S1 := (hD 3 (Nat.le_of_ble_eq_true rfl))
    have dD20 : σ 20 = .int .i64 0 := (hD 4 (Nat.le_of_ble_eq_true rfl))
    have dD5 : σ 5 = .string S1 := (hD 5 (Nat.le_of_ble_eq_true rfl))
    have dD6 : σ 6 = .int .i64 0 := (hD 6 (Nat.le_of_ble_eq_true rfl))
    have xX0 : X 0 = eB B1_1 24 #[.int .i64 kA, .int .i64 lA, .slice A sa.length c] := hX 0 _ rfl
    have xX1 : X 1 = eO 9 1 (.slice A15_3 I1.length c15_3) I1.length (I1.map Value.string) := hX 1 _ rfl
    have xX2 : X 2 = eB B4_3 26 #[.int .i64 k1, .int .i64 l1, .slice A15_3 I1.length c15_3] := hX 2 _ rfl
    have hst4 : St w [] [eB B1_1 24 #[.int .i64 kA, .int .i64 lA, .slice A sa.length c], eO 9 1 (.slice A15_3 I1.length c15_3) I1.length (I1.map Value.string), eB B4_3 26 #[.int .i64 k1, .int .i64 l1, .slice A15_3 I1.length c15_3]] W4 := by
      have h := hst4q
      simp only [List.map_cons, List.map_nil, xX0, xX1, xX2] at h
      exact h
    have hfr2 : fr = #[.agg #[.int .i64 kA, .int .i64 lA, .slice A sa.length c], .pointer (some ⟨B1_1, 0, none⟩), .bool false, .bool true, .pointer (some ⟨B4_3, 0, none⟩), .string S1, .int .i64 0, undef, undef, undef, undef, undef, undef, .bool true, .agg #[.int .i64 kA, .int .i64 lA, .slice A sa.length c], .agg #[.int .i64 k1, .int .i64 l1, .slice A15_3 I1.length c15_3], .tuple #[.string S1, .int .i64 0], .agg #[.int .i64 k1, .int .i64 l1, .slice A15_3 I1.length c15_3], .tuple #[.string S1, .int .i64 0], .string S1, .int .i64 0, undef, undef, undef, undef, undef, undef, undef, undef, undef, undef, undef, undef, undef, undef, undef, undef, undef, undef, undef, undef, undef, undef, undef, undef, undef, undef, undef, undef, undef, undef, undef, undef, undef, undef, undef, undef, undef, undef, undef, undef, undef, undef, undef, undef, undef, undef, undef, undef, undef, undef, undef, undef, undef, undef] := hfr.trans (by rw [show dstsU _ = [17, 18, 16, 19, 20, 5, 6] by kernel_rfl]; simp only [List.map_cons, List.map_nil, putAll, List.setIfInBounds_toArray, List.set_cons_succ, List.set_cons_zero, dD17, dD18, dD16, dD19, dD20, dD5, dD6])
    clear hfr hX hD hst4q dD17 dD18 dD16 dD19 dD20 dD5 dD6 xX0 xX1 xX2
    subst hfr2
    clear σ β X
    refine then_normal ?_
    refine wp_seq ?_
    refine wp_region_V (by kernel_rfl) [0, 1, 3, 7, 7, 0, 47, 127] [[], [], [], [], [], [], [4], []] [[], [3], [], [], [], [4], [5], []] [[], [], [], [], [], [], [4], []] (fun ix σ β X => match ix with | 0 => σ 22 = .string S1 | 1 => σ 23 = .tuple #[.agg #[.int .i64 k1, .int .i64 l1, .slice (sA (tg (tg (β 23) 0) 2)) I1.length (sC (tg (tg (β 23) 0) 2))], .int .i64 0] ∧ X 3 = eO 9 1 (.slice (sA (tg (tg (β 23) 0) 2)) I1.length (sC (tg (tg (β 23) 0) 2))) I1.length (I1.map Value.string) | 2 => σ 21 = .tuple #[.agg #[.int .i64 k1, .int .i64 l1, .slice (sA (tg (tg (β 23) 0) 2)) I1.length (sC (tg (tg (β 23) 0) 2))], .int .i64 0] | 3 => σ 24 = .agg #[.int .i64 k1, .int .i64 l1, .slice (sA (tg (tg (β 23) 0) 2)) I1.length (sC (tg (tg (β 23) 0) 2))] | 4 => σ 25 = .int .i64 0 | 5 => σ 7 = .pointer (some ⟨(pb (β 7)), 0, none⟩) ∧ X 4 = eB (pb (β 7)) 26 #[.int .i64 0, .int .i64 0, .slice none 0 0] | 6 => X 5 = eB (pb (β 7)) 26 #[.int .i64 k1, .int .i64 l1, .slice (sA (tg (tg (β 23) 0) 2)) I1.length (sC (tg (tg (β 23) 0) 2))] | 7 => σ 8 = .int .i64 0 | _ => True) [0, 1, 2, 3, 5] (by kernel_rfl) (by kernel_rfl) (by kernel_rfl) (by kernel_rfl) ?_ hst4 ?_ ?_
    · intro ix σ σ' β β' X X' hs hb hx h
      match ix, hs, hb, hx, h with
      | 0, hs, hb, hx, h => rw [← hs 22 (by kernel_rfl)]; exact h
      | 1, hs, hb, hx, h => rw [← hs 23 (by kernel_rfl), ← hb 23 (by kernel_rfl), ← hx 3 (by kernel_rfl)]; exact h
      | 2, hs, hb, hx, h => rw [← hs 21 (by kernel_rfl), ← hb 23 (by kernel_rfl)]; exact h
      | 3, hs, hb, hx, h => rw [← hs 24 (by kernel_rfl), ← hb 23 (by kernel_rfl)]; exact h
      | 4, hs, hb, hx, h => rw [← hs 25 (by kernel_rfl)]; exact h
      | 5, hs, hb, hx, h => rw [← hs 7 (by kernel_rfl), ← hb 7 (by kernel_rfl), ← hx 4 (by kernel_rfl)]; exact h
      | 6, hs, hb, hx, h => rw [← hb 7 (by kernel_rfl), ← hb 23 (by kernel_rfl), ← hx 5 (by kernel_rfl)]; exact h
      | 7, hs, hb, hx, h => rw [← hs 8 (by kernel_rfl)]; exact h
      | _ + 8, _, _, _, _ => trivial
    · refine ⟨⟨⟨⟨⟨⟨⟨⟨trivial, ?_⟩, ?_⟩, ?_⟩, ?_⟩, ?_⟩, ?_⟩, ?_⟩, ?_⟩
      · refine sv rfl rfl rfl rfl rfl (fun β => .string S1) (fun _ _ _ h => h) (fun _ _ _ => rfl) fun ρ β W X cx => ?_
        have fF5 : ρ (.tmp 5) = .string S1 := cx.out 5 (by kernel_rfl)
        exact run_move' rfl fF5
      · refine sv_any rfl rfl fun ρ β W X cx => ?_
        have fF22 : ρ (.tmp 22) = .string S1 := (cx.anc 0 (by kernel_rfl))
        refine DoesU.call (run_callF (args := #[.string S1]) rfl cx.sees rfl (by kernel_rfl) (by simp only [List.map_toArray, List.map_cons, List.map_nil, fF22])) ?_
        refine (RE1.out _).mono ?_
        rintro e W1 ⟨A4, c4, rfl, ho, hx⟩
        refine ⟨_, rfl, post_call [eO 9 1 (.slice A4 I1.length c4) I1.length (I1.map Value.string)] rfl rfl hx (one_new (eO_new ho)) (List.pairwise_singleton _ _) (fun σ β' X' hs hb hv hN => ?_)⟩
        have hv1 := (hv 23 rfl).1; have hv2 := (hv 23 rfl).2
        exact ⟨hv1.trans (by rw [hv2]; rfl), (by rw [hv2]; exact (List.cons.inj hN).1)⟩
      · refine sv rfl rfl rfl rfl rfl (fun β => .tuple #[.agg #[.int .i64 k1, .int .i64 l1, .slice (sA (tg (tg (β 23) 0) 2)) I1.length (sC (tg (tg (β 23) 0) 2))], .int .i64 0]) (fun _ _ _ h => h) (fun β β' h => by rw [h 23 (by decide)]) fun ρ β W X cx => ?_
        have fF23 : ρ (.tmp 23) = .tuple #[.agg #[.int .i64 k1, .int .i64 l1, .slice (sA (tg (tg (β 23) 0) 2)) I1.length (sC (tg (tg (β 23) 0) 2))], .int .i64 0] := (cx.anc 1 (by kernel_rfl)).1
        exact run_move' rfl fF23
      · refine sv rfl rfl rfl rfl rfl (fun β => .agg #[.int .i64 k1, .int .i64 l1, .slice (sA (tg (tg (β 23) 0) 2)) I1.length (sC (tg (tg (β 23) 0) 2))]) (fun _ _ _ h => h) (fun β β' h => by rw [h 23 (by decide)]) fun ρ β W X cx => ?_
        have fF21 : ρ (.tmp 21) = .tuple #[.agg #[.int .i64 k1, .int .i64 l1, .slice (sA (tg (tg (β 23) 0) 2)) I1.length (sC (tg (tg (β 23) 0) 2))], .int .i64 0] := (cx.anc 2 (by kernel_rfl))
        exact run_extract' rfl fF21 rfl
      · refine sv rfl rfl rfl rfl rfl (fun β => .int .i64 0) (fun _ _ _ h => h) (fun _ _ _ => rfl) fun ρ β W X cx => ?_
        have fF21 : ρ (.tmp 21) = .tuple #[.agg #[.int .i64 k1, .int .i64 l1, .slice (sA (tg (tg (β 23) 0) 2)) I1.length (sC (tg (tg (β 23) 0) 2))], .int .i64 0] := (cx.anc 2 (by kernel_rfl))
        exact run_extract' rfl fF21 rfl
      · refine sv_any rfl rfl fun ρ β W X cx => ?_
        exact dv_alloc (cs := #[.int .i64 0, .int .i64 0, .slice none 0 0]) rfl (by kernel_rfl) rfl rfl (fun σ β' X' hs hb hv hx => ⟨hv, hx⟩)
      · refine sv_any rfl rfl fun ρ β W X cx => ?_
        have fF7 : ρ (.tmp 7) = .pointer (some ⟨(pb (β 7)), 0, none⟩) := (cx.anc 5 (by kernel_rfl)).1
        have fF24 : ρ (.tmp 24) = .agg #[.int .i64 k1, .int .i64 l1, .slice (sA (tg (tg (β 23) 0) 2)) I1.length (sC (tg (tg (β 23) 0) 2))] := (cx.anc 3 (by kernel_rfl))
        have xX4 : X 4 = eB (pb (β 7)) 26 #[.int .i64 0, .int .i64 0, .slice none 0 0] := (cx.anc 5 (by kernel_rfl)).2
        exact dv_store (n := 3) rfl fF7 fF24 (by kernel_rfl) rfl rfl cx xX4 rfl (Nat.le_of_ble_eq_true rfl) rfl rfl rfl rfl (fun σ β' X' hs hb hx => by rw [hb 7, hb 23]; exact hx)
      · refine sv rfl rfl rfl rfl rfl (fun β => .int .i64 0) (fun _ _ _ h => h) (fun _ _ _ => rfl) fun ρ β W X cx => ?_
        have fF25 : ρ (.tmp 25) = .int .i64 0 := (cx.anc 4 (by kernel_rfl))
        exact run_assign' rfl fF25
    intro σ β X W5 hD hX hst5q fr hfr
    obtain ⟨A23_5, hu_A23_5⟩ : ∃ z, sA (tg (tg (β 23) 0) 2) = z := ⟨_, rfl⟩
    obtain ⟨c23_5, hu_c23_5⟩ : ∃ z, sC (tg (tg (β 23) 0) 2) = z := ⟨_, rfl⟩
    obtain ⟨B7_5, hu_B7_5⟩ : ∃ z, pb (β 7) = z := ⟨_, rfl⟩
    have dD22 : σ 22 = .string S1 := (hD 0 (Nat.le_of_ble_eq_true rfl))
    have dD23 : σ 23 = .tuple #[.agg #[.int .i64 k1, .int .i64 l1, .slice A23_5 I1.length c23_5], .int .i64 0] := by rw [← hu_A23_5, ← hu_c23_5]; exact (hD 1 (Nat.le_of_ble_eq_true rfl)).1
    have dD21 : σ 21 = .tuple #[.agg #[.int .i64 k1, .int .i64 l1, .slice A23_5 I1.length c23_5], .int .i64 0] := by rw [← hu_A23_5, ← hu_c23_5]; exact (hD 2 (Nat.le_of_ble_eq_true rfl))
    have dD24 : σ 24 = .agg #[.int .i64 k1, .int .i64 l1, .slice A23_5 I1.length c23_5] := by rw [← hu_A23_5, ← hu_c23_5]; exact (hD 3 (Nat.le_of_ble_eq_true rfl))
    have dD25 : σ 25 = .int .i64 0 := (hD 4 (Nat.le_of_ble_eq_true rfl))
    have dD7 : σ 7 = .pointer (some ⟨B7_5, 0, none⟩) := by rw [← hu_B7_5]; exact (hD 5 (Nat.le_of_ble_eq_true rfl)).1
    have dD8 : σ 8 = .int .i64 0 := (hD 7 (Nat.le_of_ble_eq_true rfl))
    have xX0 : X 0 = eB B1_1 24 #[.int .i64 kA, .int .i64 lA, .slice A sa.length c] := hX 0 _ rfl
    have xX1 : X 1 = eO 9 1 (.slice A15_3 I1.length c15_3) I1.length (I1.map Value.string) := hX 1 _ rfl
    have xX2 : X 2 = eB B4_3 26 #[.int .i64 k1, .int .i64 l1, .slice A15_3 I1.length c15_3] := hX 2 _ rfl
    have xX3 : X 3 = eO 9 1 (.slice A23_5 I1.length c23_5) I1.length (I1.map Value.string) := by rw [← hu_A23_5, ← hu_c23_5]; exact (hD 1 (Nat.le_of_ble_eq_true rfl)).2
    have xX5 : X 5 = eB B7_5 26 #[.int .i64 k1, .int .i64 l1, .slice A23_5 I1.length c23_5] := by rw [← hu_A23_5, ← hu_c23_5, ← hu_B7_5]; exact (hD 6 (Nat.le_of_ble_eq_true rfl))
    have hst5 : St w [] [eB B1_1 24 #[.int .i64 kA, .int .i64 lA, .slice A sa.length c], eO 9 1 (.slice A15_3 I1.length c15_3) I1.length (I1.map Value.string), eB B4_3 26 #[.int .i64 k1, .int .i64 l1, .slice A15_3 I1.length c15_3], eO 9 1 (.slice A23_5 I1.length c23_5) I1.length (I1.map Value.string), eB B7_5 26 #[.int .i64 k1, .int .i64 l1, .slice A23_5 I1.length c23_5]] W5 := by
      have h := hst5q
      simp only [List.map_cons, List.map_nil, xX0, xX1, xX2, xX3, xX5] at h
      exact h
    have hfr2 : fr = #[.agg #[.int .i64 kA, .int .i64 lA, .slice A sa.length c], .pointer (some ⟨B1_1, 0, none⟩), .bool false, .bool true, .pointer (some ⟨B4_3, 0, none⟩), .string S1, .int .i64 0, .pointer (some ⟨B7_5, 0, none⟩), .int .i64 0, undef, undef, undef, undef, .bool true, .agg #[.int .i64 kA, .int .i64 lA, .slice A sa.length c], .agg #[.int .i64 k1, .int .i64 l1, .slice A15_3 I1.length c15_3], .tuple #[.string S1, .int .i64 0], .agg #[.int .i64 k1, .int .i64 l1, .slice A15_3 I1.length c15_3], .tuple #[.string S1, .int .i64 0], .string S1, .int .i64 0, .tuple #[.agg #[.int .i64 k1, .int .i64 l1, .slice A23_5 I1.length c23_5], .int .i64 0], .string S1, .tuple #[.agg #[.int .i64 k1, .int .i64 l1, .slice A23_5 I1.length c23_5], .int .i64 0], .agg #[.int .i64 k1, .int .i64 l1, .slice A23_5 I1.length c23_5], .int .i64 0, undef, undef, undef, undef, undef, undef, undef, undef, undef, undef, undef, undef, undef, undef, undef, undef, undef, undef, undef, undef, undef, undef, undef, undef, undef, undef, undef, undef, undef, undef, undef, undef, undef, undef, undef, undef, undef, undef, undef, undef, undef, undef, undef, undef, undef, undef, undef, undef, undef] := hfr.trans (by rw [show dstsU _ = [22, 23, 21, 24, 25, 7, 8] by kernel_rfl]; simp only [List.map_cons, List.map_nil, putAll, List.setIfInBounds_toArray, List.set_cons_succ, List.set_cons_zero, dD22, dD23, dD21, dD24, dD25, dD7, dD8])
    clear hfr hX hD hst5q dD22 dD23 dD21 dD24 dD25 dD7 dD8 xX0 xX1 xX2 xX3 xX5 hu_A23_5 hu_c23_5 hu_B7_5
    subst hfr2
    clear σ β X
    refine then_normal ?_
    refine wp_seq ?_
    refine wp_region_V (by kernel_rfl) [0, 0, 3] [[2], [], [5]] [[], [5], [6]] [[], [], [5]] (fun ix σ β X => match ix with | 0 => σ 26 = .agg #[.int .i64 k1, .int .i64 l1, .slice A15_3 I1.length c15_3] | 1 => σ 9 = .pointer (some ⟨(pb (β 9)), 0, none⟩) ∧ X 5 = eB (pb (β 9)) 26 #[.int .i64 0, .int .i64 0, .slice none 0 0] | 2 => X 6 = eB (pb (β 9)) 26 #[.int .i64 k1, .int .i64 l1, .slice A15_3 I1.length c15_3] | _ => True) [0, 1, 2, 3, 4, 6] (by kernel_rfl) (by kernel_rfl) (by kernel_rfl) (by kernel_rfl) ?_ hst5 ?_ ?_
    · intro ix σ σ' β β' X X' hs hb hx h
      match ix, hs, hb, hx, h with
      | 0, hs, hb, hx, h => rw [← hs 26 (by kernel_rfl)]; exact h
      | 1, hs, hb, hx, h => rw [← hs 9 (by kernel_rfl), ← hb 9 (by kernel_rfl), ← hx 5 (by kernel_rfl)]; exact h
      | 2, hs, hb, hx, h => rw [← hb 9 (by kernel_rfl), ← hx 6 (by kernel_rfl)]; exact h
      | _ + 3, _, _, _, _ => trivial
    · refine ⟨⟨⟨trivial, ?_⟩, ?_⟩, ?_⟩
      · refine sv rfl rfl rfl rfl rfl (fun β => .agg #[.int .i64 k1, .int .i64 l1, .slice A15_3 I1.length c15_3]) (fun _ _ _ h => h) (fun _ _ _ => rfl) fun ρ β W X cx => ?_
        have fF4 : ρ (.tmp 4) = .pointer (some ⟨B4_3, 0, none⟩) := cx.out 4 (by kernel_rfl)
        have xX2 : X 2 = eB B4_3 26 #[.int .i64 k1, .int .i64 l1, .slice A15_3 I1.length c15_3] := cx.init 2 _ rfl
        have kK2 : Blk W B4_3 26 #[.int .i64 k1, .int .i64 l1, .slice A15_3 I1.length c15_3] := by have h := (cx.ok 2 rfl).holds; rw [xX2] at h; exact h
        exact run_loadB (n := 3) rfl (by kernel_rfl) (by kernel_rfl) fF4 kK2 (Nat.le_of_ble_eq_true rfl) rfl
      · refine sv_any rfl rfl fun ρ β W X cx => ?_
        exact dv_alloc (cs := #[.int .i64 0, .int .i64 0, .slice none 0 0]) rfl (by kernel_rfl) rfl rfl (fun σ β' X' hs hb hv hx => ⟨hv, hx⟩)
      · refine sv_any rfl rfl fun ρ β W X cx => ?_
        have fF9 : ρ (.tmp 9) = .pointer (some ⟨(pb (β 9)), 0, none⟩) := (cx.anc 1 (by kernel_rfl)).1
        have fF26 : ρ (.tmp 26) = .agg #[.int .i64 k1, .int .i64 l1, .slice A15_3 I1.length c15_3] := (cx.anc 0 (by kernel_rfl))
        have xX5 : X 5 = eB (pb (β 9)) 26 #[.int .i64 0, .int .i64 0, .slice none 0 0] := (cx.anc 1 (by kernel_rfl)).2
        exact dv_store (n := 3) rfl fF9 fF26 (by kernel_rfl) rfl rfl cx xX5 rfl (Nat.le_of_ble_eq_true rfl) rfl rfl rfl rfl (fun σ β' X' hs hb hx => by rw [hb 9]; exact hx)
    intro σ β X W6 hD hX hst6q fr hfr
    obtain ⟨B9_6, hu_B9_6⟩ : ∃ z, pb (β 9) = z := ⟨_, rfl⟩
    have dD26 : σ 26 = .agg #[.int .i64 k1, .int .i64 l1, .slice A15_3 I1.length c15_3] := (hD 0 (Nat.le_of_ble_eq_true rfl))
    have dD9 : σ 9 = .pointer (some ⟨B9_6, 0, none⟩) := by rw [← hu_B9_6]; exact (hD 1 (Nat.le_of_ble_eq_true rfl)).1
    have xX0 : X 0 = eB B1_1 24 #[.int .i64 kA, .int .i64 lA, .slice A sa.length c] := hX 0 _ rfl
    have xX1 : X 1 = eO 9 1 (.slice A15_3 I1.length c15_3) I1.length (I1.map Value.string) := hX 1 _ rfl
    have xX2 : X 2 = eB B4_3 26 #[.int .i64 k1, .int .i64 l1, .slice A15_3 I1.length c15_3] := hX 2 _ rfl
    have xX3 : X 3 = eO 9 1 (.slice A23_5 I1.length c23_5) I1.length (I1.map Value.string) := hX 3 _ rfl
    have xX4 : X 4 = eB B7_5 26 #[.int .i64 k1, .int .i64 l1, .slice A23_5 I1.length c23_5] := hX 4 _ rfl
    have xX6 : X 6 = eB B9_6 26 #[.int .i64 k1, .int .i64 l1, .slice A15_3 I1.length c15_3] := by rw [← hu_B9_6]; exact (hD 2 (Nat.le_of_ble_eq_true rfl))
    have hst6 : St w [] [eB B1_1 24 #[.int .i64 kA, .int .i64 lA, .slice A sa.length c], eO 9 1 (.slice A15_3 I1.length c15_3) I1.length (I1.map Value.string), eB B4_3 26 #[.int .i64 k1, .int .i64 l1, .slice A15_3 I1.length c15_3], eO 9 1 (.slice A23_5 I1.length c23_5) I1.length (I1.map Value.string), eB B7_5 26 #[.int .i64 k1, .int .i64 l1, .slice A23_5 I1.length c23_5], eB B9_6 26 #[.int .i64 k1, .int .i64 l1, .slice A15_3 I1.length c15_3]] W6 := by
      have h := hst6q
      simp only [List.map_cons, List.map_nil, xX0, xX1, xX2, xX3, xX4, xX6] at h
      exact h
    have hfr2 : fr = #[.agg #[.int .i64 kA, .int .i64 lA, .slice A sa.length c], .pointer (some ⟨B1_1, 0, none⟩), .bool false, .bool true, .pointer (some ⟨B4_3, 0, none⟩), .string S1, .int .i64 0, .pointer (some ⟨B7_5, 0, none⟩), .int .i64 0, .pointer (some ⟨B9_6, 0, none⟩), undef, undef, undef, .bool true, .agg #[.int .i64 kA, .int .i64 lA, .slice A sa.length c], .agg #[.int .i64 k1, .int .i64 l1, .slice A15_3 I1.length c15_3], .tuple #[.string S1, .int .i64 0], .agg #[.int .i64 k1, .int .i64 l1, .slice A15_3 I1.length c15_3], .tuple #[.string S1, .int .i64 0], .string S1, .int .i64 0, .tuple #[.agg #[.int .i64 k1, .int .i64 l1, .slice A23_5 I1.length c23_5], .int .i64 0], .string S1, .tuple #[.agg #[.int .i64 k1, .int .i64 l1, .slice A23_5 I1.length c23_5], .int .i64 0], .agg #[.int .i64 k1, .int .i64 l1, .slice A23_5 I1.length c23_5], .int .i64 0, .agg #[.int .i64 k1, .int .i64 l1, .slice A15_3 I1.length c15_3], undef, undef, undef, undef, undef, undef, undef, undef, undef, undef, undef, undef, undef, undef, undef, undef, undef, undef, undef, undef, undef, undef, undef, undef, undef, undef, undef, undef, undef, undef, undef, undef, undef, undef, undef, undef, undef, undef, undef, undef, undef, undef, undef, undef, undef, undef, undef, undef] := hfr.trans (by rw [show dstsU _ = [26, 9] by kernel_rfl]; simp only [List.map_cons, List.map_nil, putAll, List.setIfInBounds_toArray, List.set_cons_succ, List.set_cons_zero, dD26, dD9])
    clear hfr hX hD hst6q dD26 dD9 xX0 xX1 xX2 xX3 xX4 xX6 hu_B9_6
    subst hfr2
    clear σ β X
    refine then_normal ?_
    refine wp_seq ?_
    refine wp_region_V (by kernel_rfl) [0, 0, 2, 7, 0, 31, 63, 127] [[], [], [2], [1, 6], [], [8, 7], [], [5]] [[6], [], [], [7], [8], [9], [], [10]] [[], [], [], [6], [], [7], [], [5]] (fun ix σ β X => match ix with | 0 => σ 27 = .slice (sA (β 27)) 0 0 ∧ X 6 = eO 9 1 (.slice (sA (β 27)) 0 0) 0 ([]) | 1 => σ 28 = .pointer (some ⟨B4_3, 2, none⟩) | 2 => σ 29 = .slice A15_3 I1.length c15_3 | 3 => σ 30 = .slice (sA (β 30)) I1.length (sC (β 30)) ∧ X 7 = eO 9 1 (.slice (sA (β 30)) I1.length (sC (β 30))) I1.length (I1.map Value.string) | 4 => σ 31 = .slice (sA (β 31)) 1 1 ∧ X 8 = eO 9 1 (.slice (sA (β 31)) 1 1) 1 ([.string ⟨#[]⟩]) | 5 => σ 32 = .slice (sA (β 32)) (I1.length + 1) (sC (β 32)) ∧ X 9 = eO 9 1 (.slice (sA (β 32)) (I1.length + 1) (sC (β 32))) (I1.length + 1) ((I1.map Value.string) ++ [.string ⟨#[]⟩]) | 6 => σ 33 = .pointer (some ⟨B9_6, 2, none⟩) | 7 => X 10 = eB B9_6 26 #[.int .i64 k1, .int .i64 l1, .slice (sA (β 32)) (I1.length + 1) (sC (β 32))] | _ => True) [0, 1, 2, 3, 4, 8, 9, 10] (by kernel_rfl) (by kernel_rfl) (by kernel_rfl) (by kernel_rfl) ?_ hst6 ?_ ?_
    · intro ix σ σ' β β' X X' hs hb hx h
      match ix, hs, hb, hx, h with
      | 0, hs, hb, hx, h => rw [← hs 27 (by kernel_rfl), ← hb 27 (by kernel_rfl), ← hx 6 (by kernel_rfl)]; exact h
      | 1, hs, hb, hx, h => rw [← hs 28 (by kernel_rfl)]; exact h
      | 2, hs, hb, hx, h => rw [← hs 29 (by kernel_rfl)]; exact h
      | 3, hs, hb, hx, h => rw [← hs 30 (by kernel_rfl), ← hb 30 (by kernel_rfl), ← hx 7 (by kernel_rfl)]; exact h
      | 4, hs, hb, hx, h => rw [← hs 31 (by kernel_rfl), ← hb 31 (by kernel_rfl), ← hx 8 (by kernel_rfl)]; exact h
      | 5, hs, hb, hx, h => rw [← hs 32 (by kernel_rfl), ← hb 32 (by kernel_rfl), ← hx 9 (by kernel_rfl)]; exact h
      | 6, hs, hb, hx, h => rw [← hs 33 (by kernel_rfl)]; exact h
      | 7, hs, hb, hx, h => rw [← hb 32 (by kernel_rfl), ← hx 10 (by kernel_rfl)]; exact h
      | _ + 8, _, _, _, _ => trivial
    · refine ⟨⟨⟨⟨⟨⟨⟨⟨trivial, ?_⟩, ?_⟩, ?_⟩, ?_⟩, ?_⟩, ?_⟩, ?_⟩, ?_⟩
      · refine sv_any rfl rfl fun ρ β W X cx => ?_
        exact dv_lit (e := 9) (xs := []) rfl (by simp [go_sem, cx.sees.const]) rfl (by decide) rfl rfl (fun σ β' X' hs hb hv hx => ⟨hv, hx⟩)
      · refine sv rfl rfl rfl rfl rfl (fun β => .pointer (some ⟨B4_3, 2, none⟩)) (fun _ _ _ h => h) (fun _ _ _ => rfl) fun ρ β W X cx => ?_
        have fF4 : ρ (.tmp 4) = .pointer (some ⟨B4_3, 0, none⟩) := cx.out 4 (by kernel_rfl)
        exact run_fieldAddr' (k := 2) (n := 2) rfl (by kernel_rfl) fF4 rfl
      · refine sv rfl rfl rfl rfl rfl (fun β => .slice A15_3 I1.length c15_3) (fun _ _ _ h => h) (fun _ _ _ => rfl) fun ρ β W X cx => ?_
        have fF28 : ρ (.tmp 28) = .pointer (some ⟨B4_3, 2, none⟩) := (cx.anc 1 (by kernel_rfl))
        have xX2 : X 2 = eB B4_3 26 #[.int .i64 k1, .int .i64 l1, .slice A15_3 I1.length c15_3] := cx.init 2 _ rfl
        have kK2 : Blk W B4_3 26 #[.int .i64 k1, .int .i64 l1, .slice A15_3 I1.length c15_3] := by have h := (cx.ok 2 rfl).holds; rw [xX2] at h; exact h
        exact run_load1 rfl (by kernel_rfl) fF28 (show W.cell? ⟨B4_3, 2, none⟩ = some (.slice A15_3 I1.length c15_3) from kK2.cell 2)
      · refine sv_any rfl rfl fun ρ β W X cx => ?_
        have xX1 : X 1 = eO 9 1 (.slice A15_3 I1.length c15_3) I1.length (I1.map Value.string) := cx.init 1 _ rfl
        have kK1 : W.ownsRow 0 9 1 (.slice A15_3 I1.length c15_3) I1.length (I1.map Value.string) := by have h := (cx.ok 1 rfl).holds; rw [xX1] at h; exact h
        have fF27 : ρ (.tmp 27) = .slice (sA (β 27)) 0 0 := (cx.anc 0 (by kernel_rfl)).1
        have fF29 : ρ (.tmp 29) = .slice A15_3 I1.length c15_3 := (cx.anc 2 (by kernel_rfl))
        have xX6 : X 6 = eO 9 1 (.slice (sA (β 27)) 0 0) 0 ([]) := (cx.anc 0 (by kernel_rfl)).2
        obtain ⟨i0, hi0, hz0, hz1, hz2⟩ := info_parts Try.infoStr
        refine dv_append (n := 0) (m := I1.length) (nm := I1.length) (xs := []) (news := I1.map Value.string) (xs' := I1.map Value.string) rfl (ty := 22) rfl (by kernel_rfl) hi0 hz0 hz1 hz2 rfl fF27 cx xX6 rfl fF29 (by simp) (At.of_own kK1) (str_one _) (by simp only [maxLen]; omega) (by omega) rfl rfl rfl (by omega) (rfl) (fun σ β' X' hs hb hv hx => ?_)
        exact ⟨hv, hx⟩
      · refine sv_any rfl rfl fun ρ β W X cx => ?_
        exact dv_lit (e := 9) (xs := [.string ⟨#[]⟩]) rfl (by simp [go_sem, cx.sees.const]) rfl (by decide) rfl rfl (fun σ β' X' hs hb hv hx => ⟨hv, hx⟩)
      · refine sv_any rfl rfl fun ρ β W X cx => ?_
        have xX8 : X 8 = eO 9 1 (.slice (sA (β 31)) 1 1) 1 ([.string ⟨#[]⟩]) := (cx.anc 4 (by kernel_rfl)).2
        have kK8 : W.ownsRow 0 9 1 (.slice (sA (β 31)) 1 1) 1 ([.string ⟨#[]⟩]) := by have h := (cx.ok 8 rfl).holds; rw [xX8] at h; exact h
        have fF30 : ρ (.tmp 30) = .slice (sA (β 30)) I1.length (sC (β 30)) := (cx.anc 3 (by kernel_rfl)).1
        have fF31 : ρ (.tmp 31) = .slice (sA (β 31)) 1 1 := (cx.anc 4 (by kernel_rfl)).1
        have xX7 : X 7 = eO 9 1 (.slice (sA (β 30)) I1.length (sC (β 30))) I1.length (I1.map Value.string) := (cx.anc 3 (by kernel_rfl)).2
        obtain ⟨i0, hi0, hz0, hz1, hz2⟩ := info_parts Try.infoStr
        refine dv_append (n := I1.length) (m := 1) (nm := I1.length + 1) (xs := I1.map Value.string) (news := [.string ⟨#[]⟩]) (xs' := (I1.map Value.string) ++ [.string ⟨#[]⟩]) rfl (ty := 22) rfl (by kernel_rfl) hi0 hz0 hz1 hz2 rfl fF30 cx xX7 rfl fF31 (by simp) (At.of_own kK8) (by simp [Value.oneCell']) (by simp only [maxLen]; omega) (by omega) rfl rfl rfl (by omega) (by simp) (fun σ β' X' hs hb hv hx => ?_)
        exact ⟨hv, hx⟩
      · refine sv rfl rfl rfl rfl rfl (fun β => .pointer (some ⟨B9_6, 2, none⟩)) (fun _ _ _ h => h) (fun _ _ _ => rfl) fun ρ β W X cx => ?_
        have fF9 : ρ (.tmp 9) = .pointer (some ⟨B9_6, 0, none⟩) := cx.out 9 (by kernel_rfl)
        exact run_fieldAddr' (k := 2) (n := 2) rfl (by kernel_rfl) fF9 rfl
      · refine sv_any rfl rfl fun ρ β W X cx => ?_
        have fF33 : ρ (.tmp 33) = .pointer (some ⟨B9_6, 2, none⟩) := (cx.anc 6 (by kernel_rfl))
        have fF32 : ρ (.tmp 32) = .slice (sA (β 32)) (I1.length + 1) (sC (β 32)) := (cx.anc 5 (by kernel_rfl)).1
        have xX5 : X 5 = eB B9_6 26 #[.int .i64 k1, .int .i64 l1, .slice A15_3 I1.length c15_3] := cx.init 5 _ rfl
        exact dv_store (n := 1) rfl fF33 fF32 (by kernel_rfl) rfl rfl cx xX5 rfl (Nat.le_of_ble_eq_true rfl) rfl rfl rfl rfl (fun σ β' X' hs hb hx => by rw [hb 32]; exact hx)
    intro σ β X W7 hD hX hst7q fr hfr
    obtain ⟨A27_7, hu_A27_7⟩ : ∃ z, sA (β 27) = z := ⟨_, rfl⟩
    obtain ⟨A30_7, hu_A30_7⟩ : ∃ z, sA (β 30) = z := ⟨_, rfl⟩
    obtain ⟨c30_7, hu_c30_7⟩ : ∃ z, sC (β 30) = z := ⟨_, rfl⟩
    obtain ⟨A31_7, hu_A31_7⟩ : ∃ z, sA (β 31) = z := ⟨_, rfl⟩
    obtain ⟨A32_7, hu_A32_7⟩ : ∃ z, sA (β 32) = z := ⟨_, rfl⟩
    obtain ⟨c32_7, hu_c32_7⟩ : ∃ z, sC (β 32) = z := ⟨_, rfl⟩
    have dD27 : σ 27 = .slice A27_7 0 0 := by rw [← hu_A27_7]; exact (hD 0 (Nat.le_of_ble_eq_true rfl)).1
    have dD28 : σ 28 = .pointer (some ⟨B4_3, 2, none⟩) := (hD 1 (Nat.le_of_ble_eq_true rfl))
    have dD29 : σ 29 = .slice A15_3 I1.length c15_3 := (hD 2 (Nat.le_of_ble_eq_true rfl))
    have dD30 : σ 30 = .slice A30_7 I1.length c30_7 := by rw [← hu_A30_7, ← hu_c30_7]; exact (hD 3 (Nat.le_of_ble_eq_true rfl)).1
    have dD31 : σ 31 = .slice A31_7 1 1 := by rw [← hu_A31_7]; exact (hD 4 (Nat.le_of_ble_eq_true rfl)).1
    have dD32 : σ 32 = .slice A32_7 (I1.length + 1) c32_7 := by rw [← hu_A32_7, ← hu_c32_7]; exact (hD 5 (Nat.le_of_ble_eq_true rfl)).1
    have dD33 : σ 33 = .pointer (some ⟨B9_6, 2, none⟩) := (hD 6 (Nat.le_of_ble_eq_true rfl))
    have xX0 : X 0 = eB B1_1 24 #[.int .i64 kA, .int .i64 lA, .slice A sa.length c] := hX 0 _ rfl
    have xX1 : X 1 = eO 9 1 (.slice A15_3 I1.length c15_3) I1.length (I1.map Value.string) := hX 1 _ rfl
    have xX2 : X 2 = eB B4_3 26 #[.int .i64 k1, .int .i64 l1, .slice A15_3 I1.length c15_3] := hX 2 _ rfl
    have xX3 : X 3 = eO 9 1 (.slice A23_5 I1.length c23_5) I1.length (I1.map Value.string) := hX 3 _ rfl
    have xX4 : X 4 = eB B7_5 26 #[.int .i64 k1, .int .i64 l1, .slice A23_5 I1.length c23_5] := hX 4 _ rfl
    have xX8 : X 8 = eO 9 1 (.slice A31_7 1 1) 1 ([.string ⟨#[]⟩]) := by rw [← hu_A31_7]; exact (hD 4 (Nat.le_of_ble_eq_true rfl)).2
    have xX9 : X 9 = eO 9 1 (.slice A32_7 (I1.length + 1) c32_7) (I1.length + 1) ((I1.map Value.string) ++ [.string ⟨#[]⟩]) := by rw [← hu_A32_7, ← hu_c32_7]; exact (hD 5 (Nat.le_of_ble_eq_true rfl)).2
    have xX10 : X 10 = eB B9_6 26 #[.int .i64 k1, .int .i64 l1, .slice A32_7 (I1.length + 1) c32_7] := by rw [← hu_A32_7, ← hu_c32_7]; exact (hD 7 (Nat.le_of_ble_eq_true rfl))
    have hst7 : St w [] [eB B1_1 24 #[.int .i64 kA, .int .i64 lA, .slice A sa.length c], eO 9 1 (.slice A15_3 I1.length c15_3) I1.length (I1.map Value.string), eB B4_3 26 #[.int .i64 k1, .int .i64 l1, .slice A15_3 I1.length c15_3], eO 9 1 (.slice A23_5 I1.length c23_5) I1.length (I1.map Value.string), eB B7_5 26 #[.int .i64 k1, .int .i64 l1, .slice A23_5 I1.length c23_5], eO 9 1 (.slice A31_7 1 1) 1 ([.string ⟨#[]⟩]), eO 9 1 (.slice A32_7 (I1.length + 1) c32_7) (I1.length + 1) ((I1.map Value.string) ++ [.string ⟨#[]⟩]), eB B9_6 26 #[.int .i64 k1, .int .i64 l1, .slice A32_7 (I1.length + 1) c32_7]] W7 := by
      have h := hst7q
      simp only [List.map_cons, List.map_nil, xX0, xX1, xX2, xX3, xX4, xX8, xX9, xX10] at h
      exact h
    have hfr2 : fr = #[.agg #[.int .i64 kA, .int .i64 lA, .slice A sa.length c], .pointer (some ⟨B1_1, 0, none⟩), .bool false, .bool true, .pointer (some ⟨B4_3, 0, none⟩), .string S1, .int .i64 0, .pointer (some ⟨B7_5, 0, none⟩), .int .i64 0, .pointer (some ⟨B9_6, 0, none⟩), undef, undef, undef, .bool true, .agg #[.int .i64 kA, .int .i64 lA, .slice A sa.length c], .agg #[.int .i64 k1, .int .i64 l1, .slice A15_3 I1.length c15_3], .tuple #[.string S1, .int .i64 0], .agg #[.int .i64 k1, .int .i64 l1, .slice A15_3 I1.length c15_3], .tuple #[.string S1, .int .i64 0], .string S1, .int .i64 0, .tuple #[.agg #[.int .i64 k1, .int .i64 l1, .slice A23_5 I1.length c23_5], .int .i64 0], .string S1, .tuple #[.agg #[.int .i64 k1, .int .i64 l1, .slice A23_5 I1.length c23_5], .int .i64 0], .agg #[.int .i64 k1, .int .i64 l1, .slice A23_5 I1.length c23_5], .int .i64 0, .agg #[.int .i64 k1, .int .i64 l1, .slice A15_3 I1.length c15_3], .slice A27_7 0 0, .pointer (some ⟨B4_3, 2, none⟩), .slice A15_3 I1.length c15_3, .slice A30_7 I1.length c30_7, .slice A31_7 1 1, .slice A32_7 (I1.length + 1) c32_7, .pointer (some ⟨B9_6, 2, none⟩), undef, undef, undef, undef, undef, undef, undef, undef, undef, undef, undef, undef, undef, undef, undef, undef, undef, undef, undef, undef, undef, undef, undef, undef, undef, undef, undef, undef, undef, undef, undef, undef, undef, undef, undef, undef, undef, undef, undef, undef, undef] := hfr.trans (by rw [show dstsU _ = [27, 28, 29, 30, 31, 32, 33] by kernel_rfl]; simp only [List.map_cons, List.map_nil, putAll, List.setIfInBounds_toArray, List.set_cons_succ, List.set_cons_zero, dD27, dD28, dD29, dD30, dD31, dD32, dD33])
    clear hfr hX hD hst7q dD27 dD28 dD29 dD30 dD31 dD32 dD33 xX0 xX1 xX2 xX3 xX4 xX8 xX9 xX10 hu_A27_7 hu_A30_7 hu_c30_7 hu_A31_7 hu_A32_7 hu_c32_7
    subst hfr2
    clear σ β X
    refine then_normal ?_
    refine wp_seq ?_
    refine wp_region_V (by kernel_rfl) [0, 1, 3, 7, 7, 15, 63] [[7], [6], [], [], [], [], []] [[], [], [], [], [], [], []] [[], [], [], [], [], [], []] (fun ix σ β X => match ix with | 0 => σ 35 = .agg #[.int .i64 k1, .int .i64 l1, .slice A32_7 (I1.length + 1) c32_7] | 1 => σ 36 = .tuple #[.string T2, .int .i64 E2] | 2 => σ 34 = .tuple #[.string T2, .int .i64 E2] | 3 => σ 37 = .string T2 | 4 => σ 38 = .int .i64 E2 | 5 => σ 10 = .string T2 | 6 => σ 11 = .int .i64 E2 | _ => True) [0, 1, 2, 3, 4, 5, 6, 7] (by kernel_rfl) (by kernel_rfl) (by kernel_rfl) (by kernel_rfl) ?_ hst7 ?_ ?_
    · intro ix σ σ' β β' X X' hs hb hx h
      match ix, hs, hb, hx, h with
      | 0, hs, hb, hx, h => rw [← hs 35 (by kernel_rfl)]; exact h
      | 1, hs, hb, hx, h => rw [← hs 36 (by kernel_rfl)]; exact h
      | 2, hs, hb, hx, h => rw [← hs 34 (by kernel_rfl)]; exact h
      | 3, hs, hb, hx, h => rw [← hs 37 (by kernel_rfl)]; exact h
      | 4, hs, hb, hx, h => rw [← hs 38 (by kernel_rfl)]; exact h
      | 5, hs, hb, hx, h => rw [← hs 10 (by kernel_rfl)]; exact h
      | 6, hs, hb, hx, h => rw [← hs 11 (by kernel_rfl)]; exact h
      | _ + 7, _, _, _, _ => trivial
    · refine ⟨⟨⟨⟨⟨⟨⟨trivial, ?_⟩, ?_⟩, ?_⟩, ?_⟩, ?_⟩, ?_⟩, ?_⟩
      · refine sv rfl rfl rfl rfl rfl (fun β => .agg #[.int .i64 k1, .int .i64 l1, .slice A32_7 (I1.length + 1) c32_7]) (fun _ _ _ h => h) (fun _ _ _ => rfl) fun ρ β W X cx => ?_
        have fF9 : ρ (.tmp 9) = .pointer (some ⟨B9_6, 0, none⟩) := cx.out 9 (by kernel_rfl)
        have xX7 : X 7 = eB B9_6 26 #[.int .i64 k1, .int .i64 l1, .slice A32_7 (I1.length + 1) c32_7] := cx.init 7 _ rfl
        have kK7 : Blk W B9_6 26 #[.int .i64 k1, .int .i64 l1, .slice A32_7 (I1.length + 1) c32_7] := by have h := (cx.ok 7 rfl).holds; rw [xX7] at h; exact h
        exact run_loadB (n := 3) rfl (by kernel_rfl) (by kernel_rfl) fF9 kK7 (Nat.le_of_ble_eq_true rfl) rfl
      · refine sv_any rfl rfl fun ρ β W X cx => ?_
        have fF35 : ρ (.tmp 35) = .agg #[.int .i64 k1, .int .i64 l1, .slice A32_7 (I1.length + 1) c32_7] := (cx.anc 0 (by kernel_rfl))
        have xX6 : X 6 = eO 9 1 (.slice A32_7 (I1.length + 1) c32_7) (I1.length + 1) ((I1.map Value.string) ++ [.string ⟨#[]⟩]) := cx.init 6 _ rfl
        have kK6 : W.ownsRow 0 9 1 (.slice A32_7 (I1.length + 1) c32_7) (I1.length + 1) ((I1.map Value.string) ++ [.string ⟨#[]⟩]) := by have h := (cx.ok 6 rfl).holds; rw [xX6] at h; exact h
        refine DoesU.call (run_callF (args := #[.agg #[.int .i64 k1, .int .i64 l1, .slice A32_7 (I1.length + 1) c32_7]]) rfl cx.sees rfl (by kernel_rfl) (by simp only [List.map_toArray, List.map_cons, List.map_nil, fF35])) ?_
        refine (HB2.out _ _ _ (At.of_own kK6)).mono ?_
        rintro e W1 ⟨rfl, hx⟩
        refine ⟨_, rfl, post_call [] rfl rfl hx (by simp) List.Pairwise.nil (fun σ β' X' hs hb hv hN => ?_)⟩
        have hv1 := (hv 36 rfl).1; have hv2 := (hv 36 rfl).2
        exact hv1.trans rfl
      · refine sv rfl rfl rfl rfl rfl (fun β => .tuple #[.string T2, .int .i64 E2]) (fun _ _ _ h => h) (fun _ _ _ => rfl) fun ρ β W X cx => ?_
        have fF36 : ρ (.tmp 36) = .tuple #[.string T2, .int .i64 E2] := (cx.anc 1 (by kernel_rfl))
        exact run_move' rfl fF36
      · refine sv rfl rfl rfl rfl rfl (fun β => .string T2) (fun _ _ _ h => h) (fun _ _ _ => rfl) fun ρ β W X cx => ?_
        have fF34 : ρ (.tmp 34) = .tuple #[.string T2, .int .i64 E2] := (cx.anc 2 (by kernel_rfl))
        exact run_extract' rfl fF34 rfl
      · refine sv rfl rfl rfl rfl rfl (fun β => .int .i64 E2) (fun _ _ _ h => h) (fun _ _ _ => rfl) fun ρ β W X cx => ?_
        have fF34 : ρ (.tmp 34) = .tuple #[.string T2, .int .i64 E2] := (cx.anc 2 (by kernel_rfl))
        exact run_extract' rfl fF34 rfl
      · refine sv rfl rfl rfl rfl rfl (fun β => .string T2) (fun _ _ _ h => h) (fun _ _ _ => rfl) fun ρ β W X cx => ?_
        have fF37 : ρ (.tmp 37) = .string T2 := (cx.anc 3 (by kernel_rfl))
        exact run_assign' rfl fF37
      · refine sv rfl rfl rfl rfl rfl (fun β => .int .i64 E2) (fun _ _ _ h => h) (fun _ _ _ => rfl) fun ρ β W X cx => ?_
        have fF38 : ρ (.tmp 38) = .int .i64 E2 := (cx.anc 4 (by kernel_rfl))
        exact run_assign' rfl fF38
    intro σ β X W8 hD hX hst8q fr hfr
    have dD35 : σ 35 = .agg #[.int .i64 k1, .int .i64 l1, .slice A32_7 (I1.length + 1) c32_7] := (hD 0 (Nat.le_of_ble_eq_true rfl))
    have dD36 : σ 36 = .tuple #[.string T2, .int .i64 E2] := (hD 1 (Nat.le_of_ble_eq_true rfl))
    have dD34 : σ 34 = .tuple #[.string T2, .int .i64 E2] := (hD 2 (Nat.le_of_ble_eq_true rfl))
    have dD37 : σ 37 = .string T2 := (hD 3 (Nat.le_of_ble_eq_true rfl))
    have dD38 : σ 38 = .int .i64 E2 := (hD 4 (Nat.le_of_ble_eq_true rfl))
    have dD10 : σ 10 = .string T2 := (hD 5 (Nat.le_of_ble_eq_true rfl))
    have dD11 : σ 11 = .int .i64 E2 := (hD 6 (Nat.le_of_ble_eq_true rfl))
    have xX0 : X 0 = eB B1_1 24 #[.int .i64 kA, .int .i64 lA, .slice A sa.length c] := hX 0 _ rfl
    have xX1 : X 1 = eO 9 1 (.slice A15_3 I1.length c15_3) I1.length (I1.map Value.string) := hX 1 _ rfl
    have xX2 : X 2 = eB B4_3 26 #[.int .i64 k1, .int .i64 l1, .slice A15_3 I1.length c15_3] := hX 2 _ rfl
    have xX3 : X 3 = eO 9 1 (.slice A23_5 I1.length c23_5) I1.length (I1.map Value.string) := hX 3 _ rfl
    have xX4 : X 4 = eB B7_5 26 #[.int .i64 k1, .int .i64 l1, .slice A23_5 I1.length c23_5] := hX 4 _ rfl
    have xX5 : X 5 = eO 9 1 (.slice A31_7 1 1) 1 ([.string ⟨#[]⟩]) := hX 5 _ rfl
    have xX6 : X 6 = eO 9 1 (.slice A32_7 (I1.length + 1) c32_7) (I1.length + 1) ((I1.map Value.string) ++ [.string ⟨#[]⟩]) := hX 6 _ rfl
    have xX7 : X 7 = eB B9_6 26 #[.int .i64 k1, .int .i64 l1, .slice A32_7 (I1.length + 1) c32_7] := hX 7 _ rfl
    have hst8 : St w [] [eB B1_1 24 #[.int .i64 kA, .int .i64 lA, .slice A sa.length c], eO 9 1 (.slice A15_3 I1.length c15_3) I1.length (I1.map Value.string), eB B4_3 26 #[.int .i64 k1, .int .i64 l1, .slice A15_3 I1.length c15_3], eO 9 1 (.slice A23_5 I1.length c23_5) I1.length (I1.map Value.string), eB B7_5 26 #[.int .i64 k1, .int .i64 l1, .slice A23_5 I1.length c23_5], eO 9 1 (.slice A31_7 1 1) 1 ([.string ⟨#[]⟩]), eO 9 1 (.slice A32_7 (I1.length + 1) c32_7) (I1.length + 1) ((I1.map Value.string) ++ [.string ⟨#[]⟩]), eB B9_6 26 #[.int .i64 k1, .int .i64 l1, .slice A32_7 (I1.length + 1) c32_7]] W8 := by
      have h := hst8q
      simp only [List.map_cons, List.map_nil, xX0, xX1, xX2, xX3, xX4, xX5, xX6, xX7] at h
      exact h
    have hfr2 : fr = #[.agg #[.int .i64 kA, .int .i64 lA, .slice A sa.length c], .pointer (some ⟨B1_1, 0, none⟩), .bool false, .bool true, .pointer (some ⟨B4_3, 0, none⟩), .string S1, .int .i64 0, .pointer (some ⟨B7_5, 0, none⟩), .int .i64 0, .pointer (some ⟨B9_6, 0, none⟩), .string T2, .int .i64 E2, undef, .bool true, .agg #[.int .i64 kA, .int .i64 lA, .slice A sa.length c], .agg #[.int .i64 k1, .int .i64 l1, .slice A15_3 I1.length c15_3], .tuple #[.string S1, .int .i64 0], .agg #[.int .i64 k1, .int .i64 l1, .slice A15_3 I1.length c15_3], .tuple #[.string S1, .int .i64 0], .string S1, .int .i64 0, .tuple #[.agg #[.int .i64 k1, .int .i64 l1, .slice A23_5 I1.length c23_5], .int .i64 0], .string S1, .tuple #[.agg #[.int .i64 k1, .int .i64 l1, .slice A23_5 I1.length c23_5], .int .i64 0], .agg #[.int .i64 k1, .int .i64 l1, .slice A23_5 I1.length c23_5], .int .i64 0, .agg #[.int .i64 k1, .int .i64 l1, .slice A15_3 I1.length c15_3], .slice A27_7 0 0, .pointer (some ⟨B4_3, 2, none⟩), .slice A15_3 I1.length c15_3, .slice A30_7 I1.length c30_7, .slice A31_7 1 1, .slice A32_7 (I1.length + 1) c32_7, .pointer (some ⟨B9_6, 2, none⟩), .tuple #[.string T2, .int .i64 E2], .agg #[.int .i64 k1, .int .i64 l1, .slice A32_7 (I1.length + 1) c32_7], .tuple #[.string T2, .int .i64 E2], .string T2, .int .i64 E2, undef, undef, undef, undef, undef, undef, undef, undef, undef, undef, undef, undef, undef, undef, undef, undef, undef, undef, undef, undef, undef, undef, undef, undef, undef, undef, undef, undef, undef, undef, undef, undef, undef, undef, undef, undef] := hfr.trans (by rw [show dstsU _ = [35, 36, 34, 37, 38, 10, 11] by kernel_rfl]; simp only [List.map_cons, List.map_nil, putAll, List.setIfInBounds_toArray, List.set_cons_succ, List.set_cons_zero, dD35, dD36, dD34, dD37, dD38, dD10, dD11])
    clear hfr hX hD hst8q dD35 dD36 dD34 dD37 dD38 dD10 dD11 xX0 xX1 xX2 xX3 xX4 xX5 xX6 xX7
    subst hfr2
    clear σ β X
    refine then_normal ?_
    refine wp_seq ?_
    have hd10 : (decide ((I1.length : Int) < 24)) = false := decide_eq_false (by omega)
    refine wp_region_V (by kernel_rfl) [0, 1, 3, 7, 15] [[], [2], [], [], []] [[], [], [], [], []] [[], [], [], [], []] (fun ix σ β X => match ix with | 0 => σ 39 = .pointer (some ⟨B4_3, 2, none⟩) | 1 => σ 40 = .slice A15_3 I1.length c15_3 | 2 => σ 41 = .int .i64 ((I1.length : Int)) | 3 => σ 42 = .bool (decide ((I1.length : Int) < 24)) | 4 => σ 12 = .bool false | _ => True) [0, 1, 2, 3, 4, 5, 6, 7] (by kernel_rfl) (by kernel_rfl) (by kernel_rfl) (by kernel_rfl) ?_ hst8 ?_ ?_
    · intro ix σ σ' β β' X X' hs hb hx h
      match ix, hs, hb, hx, h with
      | 0, hs, hb, hx, h => rw [← hs 39 (by kernel_rfl)]; exact h
      | 1, hs, hb, hx, h => rw [← hs 40 (by kernel_rfl)]; exact h
      | 2, hs, hb, hx, h => rw [← hs 41 (by kernel_rfl)]; exact h
      | 3, hs, hb, hx, h => rw [← hs 42 (by kernel_rfl)]; exact h
      | 4, hs, hb, hx, h => rw [← hs 12 (by kernel_rfl)]; exact h
      | _ + 5, _, _, _, _ => trivial
    · refine ⟨⟨⟨⟨⟨trivial, ?_⟩, ?_⟩, ?_⟩, ?_⟩, ?_⟩
      · refine sv rfl rfl rfl rfl rfl (fun β => .pointer (some ⟨B4_3, 2, none⟩)) (fun _ _ _ h => h) (fun _ _ _ => rfl) fun ρ β W X cx => ?_
        have fF4 : ρ (.tmp 4) = .pointer (some ⟨B4_3, 0, none⟩) := cx.out 4 (by kernel_rfl)
        exact run_fieldAddr' (k := 2) (n := 2) rfl (by kernel_rfl) fF4 rfl
      · refine sv rfl rfl rfl rfl rfl (fun β => .slice A15_3 I1.length c15_3) (fun _ _ _ h => h) (fun _ _ _ => rfl) fun ρ β W X cx => ?_
        have fF39 : ρ (.tmp 39) = .pointer (some ⟨B4_3, 2, none⟩) := (cx.anc 0 (by kernel_rfl))
        have xX2 : X 2 = eB B4_3 26 #[.int .i64 k1, .int .i64 l1, .slice A15_3 I1.length c15_3] := cx.init 2 _ rfl
        have kK2 : Blk W B4_3 26 #[.int .i64 k1, .int .i64 l1, .slice A15_3 I1.length c15_3] := by have h := (cx.ok 2 rfl).holds; rw [xX2] at h; exact h
        exact run_load1 rfl (by kernel_rfl) fF39 (show W.cell? ⟨B4_3, 2, none⟩ = some (.slice A15_3 I1.length c15_3) from kK2.cell 2)
      · refine sv rfl rfl rfl rfl rfl (fun β => .int .i64 ((I1.length : Int))) (fun _ _ _ h => h) (fun _ _ _ => rfl) fun ρ β W X cx => ?_
        have fF40 : ρ (.tmp 40) = .slice A15_3 I1.length c15_3 := (cx.anc 1 (by kernel_rfl))
        exact run_len_l (e := 9) rfl (by kernel_rfl) fF40
      · refine sv rfl rfl rfl rfl rfl (fun β => .bool (decide ((I1.length : Int) < 24))) (fun _ _ _ h => h) (fun _ _ _ => rfl) fun ρ β W X cx => ?_
        have fF41 : ρ (.tmp 41) = .int .i64 ((I1.length : Int)) := (cx.anc 2 (by kernel_rfl))
        exact run_bin rfl fF41 (cx.sees.const _) rfl
      · refine sv rfl rfl rfl rfl rfl (fun β => .bool false) (fun _ _ _ h => h) (fun _ _ _ => rfl) fun ρ β W X cx => ?_
        have fF42 : ρ (.tmp 42) = .bool false := (show ρ (.tmp 42) = .bool (decide ((I1.length : Int) < 24)) from (cx.anc 3 (by kernel_rfl))).trans (congrArg Value.bool hd10)
        exact run_assign' rfl fF42
    intro σ β X W9 hD hX hst9q fr hfr
    have dD39 : σ 39 = .pointer (some ⟨B4_3, 2, none⟩) := (hD 0 (Nat.le_of_ble_eq_true rfl))
    have dD40 : σ 40 = .slice A15_3 I1.length c15_3 := (hD 1 (Nat.le_of_ble_eq_true rfl))
    have dD41 : σ 41 = .int .i64 ((I1.length : Int)) := (hD 2 (Nat.le_of_ble_eq_true rfl))
    have dD42 : σ 42 = .bool (decide ((I1.length : Int) < 24)) := (hD 3 (Nat.le_of_ble_eq_true rfl))
    have dD12 : σ 12 = .bool false := (hD 4 (Nat.le_of_ble_eq_true rfl))
    have xX0 : X 0 = eB B1_1 24 #[.int .i64 kA, .int .i64 lA, .slice A sa.length c] := hX 0 _ rfl
    have xX1 : X 1 = eO 9 1 (.slice A15_3 I1.length c15_3) I1.length (I1.map Value.string) := hX 1 _ rfl
    have xX2 : X 2 = eB B4_3 26 #[.int .i64 k1, .int .i64 l1, .slice A15_3 I1.length c15_3] := hX 2 _ rfl
    have xX3 : X 3 = eO 9 1 (.slice A23_5 I1.length c23_5) I1.length (I1.map Value.string) := hX 3 _ rfl
    have xX4 : X 4 = eB B7_5 26 #[.int .i64 k1, .int .i64 l1, .slice A23_5 I1.length c23_5] := hX 4 _ rfl
    have xX5 : X 5 = eO 9 1 (.slice A31_7 1 1) 1 ([.string ⟨#[]⟩]) := hX 5 _ rfl
    have xX6 : X 6 = eO 9 1 (.slice A32_7 (I1.length + 1) c32_7) (I1.length + 1) ((I1.map Value.string) ++ [.string ⟨#[]⟩]) := hX 6 _ rfl
    have xX7 : X 7 = eB B9_6 26 #[.int .i64 k1, .int .i64 l1, .slice A32_7 (I1.length + 1) c32_7] := hX 7 _ rfl
    have hst9 : St w [] [eB B1_1 24 #[.int .i64 kA, .int .i64 lA, .slice A sa.length c], eO 9 1 (.slice A15_3 I1.length c15_3) I1.length (I1.map Value.string), eB B4_3 26 #[.int .i64 k1, .int .i64 l1, .slice A15_3 I1.length c15_3], eO 9 1 (.slice A23_5 I1.length c23_5) I1.length (I1.map Value.string), eB B7_5 26 #[.int .i64 k1, .int .i64 l1, .slice A23_5 I1.length c23_5], eO 9 1 (.slice A31_7 1 1) 1 ([.string ⟨#[]⟩]), eO 9 1 (.slice A32_7 (I1.length + 1) c32_7) (I1.length + 1) ((I1.map Value.string) ++ [.string ⟨#[]⟩]), eB B9_6 26 #[.int .i64 k1, .int .i64 l1, .slice A32_7 (I1.length + 1) c32_7]] W9 := by
      have h := hst9q
      simp only [List.map_cons, List.map_nil, xX0, xX1, xX2, xX3, xX4, xX5, xX6, xX7] at h
      exact h
    have hfr2 : fr = #[.agg #[.int .i64 kA, .int .i64 lA, .slice A sa.length c], .pointer (some ⟨B1_1, 0, none⟩), .bool false, .bool true, .pointer (some ⟨B4_3, 0, none⟩), .string S1, .int .i64 0, .pointer (some ⟨B7_5, 0, none⟩), .int .i64 0, .pointer (some ⟨B9_6, 0, none⟩), .string T2, .int .i64 E2, .bool false, .bool true, .agg #[.int .i64 kA, .int .i64 lA, .slice A sa.length c], .agg #[.int .i64 k1, .int .i64 l1, .slice A15_3 I1.length c15_3], .tuple #[.string S1, .int .i64 0], .agg #[.int .i64 k1, .int .i64 l1, .slice A15_3 I1.length c15_3], .tuple #[.string S1, .int .i64 0], .string S1, .int .i64 0, .tuple #[.agg #[.int .i64 k1, .int .i64 l1, .slice A23_5 I1.length c23_5], .int .i64 0], .string S1, .tuple #[.agg #[.int .i64 k1, .int .i64 l1, .slice A23_5 I1.length c23_5], .int .i64 0], .agg #[.int .i64 k1, .int .i64 l1, .slice A23_5 I1.length c23_5], .int .i64 0, .agg #[.int .i64 k1, .int .i64 l1, .slice A15_3 I1.length c15_3], .slice A27_7 0 0, .pointer (some ⟨B4_3, 2, none⟩), .slice A15_3 I1.length c15_3, .slice A30_7 I1.length c30_7, .slice A31_7 1 1, .slice A32_7 (I1.length + 1) c32_7, .pointer (some ⟨B9_6, 2, none⟩), .tuple #[.string T2, .int .i64 E2], .agg #[.int .i64 k1, .int .i64 l1, .slice A32_7 (I1.length + 1) c32_7], .tuple #[.string T2, .int .i64 E2], .string T2, .int .i64 E2, .pointer (some ⟨B4_3, 2, none⟩), .slice A15_3 I1.length c15_3, .int .i64 ((I1.length : Int)), .bool (decide ((I1.length : Int) < 24)), undef, undef, undef, undef, undef, undef, undef, undef, undef, undef, undef, undef, undef, undef, undef, undef, undef, undef, undef, undef, undef, undef, undef, undef, undef, undef, undef, undef, undef, undef, undef, undef] := hfr.trans (by rw [show dstsU _ = [39, 40, 41, 42, 12] by kernel_rfl]; simp only [List.map_cons, List.map_nil, putAll, List.setIfInBounds_toArray, List.set_cons_succ, List.set_cons_zero, dD39, dD40, dD41, dD42, dD12])
    clear hfr hX hD hst9q dD39 dD40 dD41 dD42 dD12 xX0 xX1 xX2 xX3 xX4 xX5 xX6 xX7
    subst hfr2
    clear σ β X
    refine then_normal ?_
    refine wp_seq ?_
    have hd12 : ((S1.size : Int) == 512) = true := by rw [hsz]; rfl
    refine wp_region_V (by kernel_rfl) [0, 1, 3, 7, 15, 31, 63, 127, 255, 511, 1023, 2047, 4095, 8191, 16383, 32767, 32767, 131071, 262143, 524287, 1048575, 2097151, 4194303, 8388607, 16777215, 33554431, 67108863, 67108863, 268435455, 536870911, 1073741823, 2147483647, 4294967295] [[], [], [], [], [], [], [], [], [], [], [], [], [], [], [], [2], [4], [1, 3], [], [], [], [], [], [], [], [], [], [], [], [], [], [], []] [[], [], [], [], [], [], [], [], [], [], [], [], [], [], [], [], [], [], [], [], [], [], [], [], [], [], [], [], [], [], [], [], []] [[], [], [], [], [], [], [], [], [], [], [], [], [], [], [], [], [], [], [], [], [], [], [], [], [], [], [], [], [], [], [], [], []] (fun ix σ β X => match ix with | 0 => σ 43 = .bool true | 1 => σ 44 = .bool true | 2 => σ 45 = .int .i64 0 | 3 => σ 46 = .bool true | 4 => σ 47 = .bool true | 5 => σ 48 = .bool true | 6 => σ 49 = .int .i64 0 | 7 => σ 50 = .bool true | 8 => σ 51 = .bool true | 9 => σ 52 = .bool true | 10 => σ 53 = .string S1 | 11 => σ 54 = .int .i64 ((S1.size : Int)) | 12 => σ 55 = .bool ((S1.size : Int) == 512) | 13 => σ 56 = .bool true | 14 => σ 57 = .bool true | 15 => σ 58 = .agg #[.int .i64 k1, .int .i64 l1, .slice A15_3 I1.length c15_3] | 16 => σ 59 = .agg #[.int .i64 k1, .int .i64 l1, .slice A23_5 I1.length c23_5] | 17 => σ 60 = .bool true | 18 => σ 61 = .bool true | 19 => σ 62 = .bool true | 20 => σ 63 = .bool false | 21 => σ 64 = .bool true | 22 => σ 65 = .bool true | 23 => σ 66 = undef | 24 => σ 67 = undef | 25 => σ 68 = undef | 26 => σ 69 = undef | 27 => σ 70 = undef | 28 => σ 71 = undef | 29 => σ 72 = undef | 30 => σ 73 = .bool true | 31 => σ 74 = .bool true | 32 => σ 2 = .bool true | _ => True) [0, 1, 2, 3, 4, 5, 6, 7] (by kernel_rfl) (by kernel_rfl) (by kernel_rfl) (by kernel_rfl) ?_ hst9 ?_ ?_
    · intro ix σ σ' β β' X X' hs hb hx h
      match ix, hs, hb, hx, h with
      | 0, hs, hb, hx, h => rw [← hs 43 (by kernel_rfl)]; exact h
      | 1, hs, hb, hx, h => rw [← hs 44 (by kernel_rfl)]; exact h
      | 2, hs, hb, hx, h => rw [← hs 45 (by kernel_rfl)]; exact h
      | 3, hs, hb, hx, h => rw [← hs 46 (by kernel_rfl)]; exact h
      | 4, hs, hb, hx, h => rw [← hs 47 (by kernel_rfl)]; exact h
      | 5, hs, hb, hx, h => rw [← hs 48 (by kernel_rfl)]; exact h
      | 6, hs, hb, hx, h => rw [← hs 49 (by kernel_rfl)]; exact h
      | 7, hs, hb, hx, h => rw [← hs 50 (by kernel_rfl)]; exact h
      | 8, hs, hb, hx, h => rw [← hs 51 (by kernel_rfl)]; exact h
      | 9, hs, hb, hx, h => rw [← hs 52 (by kernel_rfl)]; exact h
      | 10, hs, hb, hx, h => rw [← hs 53 (by kernel_rfl)]; exact h
      | 11, hs, hb, hx, h => rw [← hs 54 (by kernel_rfl)]; exact h
      | 12, hs, hb, hx, h => rw [← hs 55 (by kernel_rfl)]; exact h
      | 13, hs, hb, hx, h => rw [← hs 56 (by kernel_rfl)]; exact h
      | 14, hs, hb, hx, h => rw [← hs 57 (by kernel_rfl)]; exact h
      | 15, hs, hb, hx, h => rw [← hs 58 (by kernel_rfl)]; exact h
      | 16, hs, hb, hx, h => rw [← hs 59 (by kernel_rfl)]; exact h
      | 17, hs, hb, hx, h => rw [← hs 60 (by kernel_rfl)]; exact h
      | 18, hs, hb, hx, h => rw [← hs 61 (by kernel_rfl)]; exact h
      | 19, hs, hb, hx, h => rw [← hs 62 (by kernel_rfl)]; exact h
      | 20, hs, hb, hx, h => rw [← hs 63 (by kernel_rfl)]; exact h
      | 21, hs, hb, hx, h => rw [← hs 64 (by kernel_rfl)]; exact h
      | 22, hs, hb, hx, h => rw [← hs 65 (by kernel_rfl)]; exact h
      | 23, hs, hb, hx, h => rw [← hs 66 (by kernel_rfl)]; exact h
      | 24, hs, hb, hx, h => rw [← hs 67 (by kernel_rfl)]; exact h
      | 25, hs, hb, hx, h => rw [← hs 68 (by kernel_rfl)]; exact h
      | 26, hs, hb, hx, h => rw [← hs 69 (by kernel_rfl)]; exact h
      | 27, hs, hb, hx, h => rw [← hs 70 (by kernel_rfl)]; exact h
      | 28, hs, hb, hx, h => rw [← hs 71 (by kernel_rfl)]; exact h
      | 29, hs, hb, hx, h => rw [← hs 72 (by kernel_rfl)]; exact h
      | 30, hs, hb, hx, h => rw [← hs 73 (by kernel_rfl)]; exact h
      | 31, hs, hb, hx, h => rw [← hs 74 (by kernel_rfl)]; exact h
      | 32, hs, hb, hx, h => rw [← hs 2 (by kernel_rfl)]; exact h
      | _ + 33, _, _, _, _ => trivial
    · refine ⟨⟨⟨⟨⟨⟨⟨⟨⟨⟨⟨⟨⟨⟨⟨⟨⟨⟨⟨⟨⟨⟨⟨⟨⟨⟨⟨⟨⟨⟨⟨⟨⟨trivial, ?_⟩, ?_⟩, ?_⟩, ?_⟩, ?_⟩, ?_⟩, ?_⟩, ?_⟩, ?_⟩, ?_⟩, ?_⟩, ?_⟩, ?_⟩, ?_⟩, ?_⟩, ?_⟩, ?_⟩, ?_⟩, ?_⟩, ?_⟩, ?_⟩, ?_⟩, ?_⟩, ?_⟩, ?_⟩, ?_⟩, ?_⟩, ?_⟩, ?_⟩, ?_⟩, ?_⟩, ?_⟩, ?_⟩
      · refine sv rfl rfl rfl rfl rfl (fun β => .bool true) (fun _ _ _ h => h) (fun _ _ _ => rfl) fun ρ β W X cx => ?_
        have fF3 : ρ (.tmp 3) = .bool true := cx.out 3 (by kernel_rfl)
        exact run_move' rfl fF3
      · refine sv rfl rfl rfl rfl rfl (fun β => .bool true) (fun _ _ _ h => h) (fun _ _ _ => rfl) fun ρ β W X cx => ?_
        have fF43 : ρ (.tmp 43) = .bool true := (cx.anc 0 (by kernel_rfl))
        exact run_move' rfl fF43
      · refine sv_on rfl rfl rfl rfl rfl rfl (fun β => .int .i64 0) (fun _ _ _ h => h) (fun _ _ _ => rfl) (fun ρ β W X cx => (show ρ (.tmp 44) = .bool true from (cx.anc 1 (by kernel_rfl)))) fun ρ β W X cx => ?_
        have fF6 : ρ (.tmp 6) = .int .i64 0 := cx.out 6 (by kernel_rfl)
        exact run_move' rfl fF6
      · refine sv_on rfl rfl rfl rfl rfl rfl (fun β => .bool true) (fun _ _ _ h => h) (fun _ _ _ => rfl) (fun ρ β W X cx => (show ρ (.tmp 44) = .bool true from (cx.anc 1 (by kernel_rfl)))) fun ρ β W X cx => ?_
        have fF45 : ρ (.tmp 45) = .int .i64 0 := (cx.anc 2 (by kernel_rfl))
        exact run_bin rfl fF45 (cx.sees.const _) rfl
      · refine sv rfl rfl rfl rfl rfl (fun β => .bool true) (fun _ _ _ h => h) (fun _ _ _ => rfl) fun ρ β W X cx => ?_
        have fF44 : ρ (.tmp 44) = .bool true := (cx.anc 1 (by kernel_rfl))
        have fF46 : ρ (.tmp 46) = .bool true := (cx.anc 3 (by kernel_rfl))
        exact run_pick_t rfl fF44 fF46
      · refine sv rfl rfl rfl rfl rfl (fun β => .bool true) (fun _ _ _ h => h) (fun _ _ _ => rfl) fun ρ β W X cx => ?_
        have fF47 : ρ (.tmp 47) = .bool true := (cx.anc 4 (by kernel_rfl))
        exact run_move' rfl fF47
      · refine sv_on rfl rfl rfl rfl rfl rfl (fun β => .int .i64 0) (fun _ _ _ h => h) (fun _ _ _ => rfl) (fun ρ β W X cx => (show ρ (.tmp 48) = .bool true from (cx.anc 5 (by kernel_rfl)))) fun ρ β W X cx => ?_
        have fF8 : ρ (.tmp 8) = .int .i64 0 := cx.out 8 (by kernel_rfl)
        exact run_move' rfl fF8
      · refine sv_on rfl rfl rfl rfl rfl rfl (fun β => .bool true) (fun _ _ _ h => h) (fun _ _ _ => rfl) (fun ρ β W X cx => (show ρ (.tmp 48) = .bool true from (cx.anc 5 (by kernel_rfl)))) fun ρ β W X cx => ?_
        have fF49 : ρ (.tmp 49) = .int .i64 0 := (cx.anc 6 (by kernel_rfl))
        exact run_bin rfl fF49 (cx.sees.const _) rfl
      · refine sv rfl rfl rfl rfl rfl (fun β => .bool true) (fun _ _ _ h => h) (fun _ _ _ => rfl) fun ρ β W X cx => ?_
        have fF48 : ρ (.tmp 48) = .bool true := (cx.anc 5 (by kernel_rfl))
        have fF50 : ρ (.tmp 50) = .bool true := (cx.anc 7 (by kernel_rfl))
        exact run_pick_t rfl fF48 fF50
      · refine sv rfl rfl rfl rfl rfl (fun β => .bool true) (fun _ _ _ h => h) (fun _ _ _ => rfl) fun ρ β W X cx => ?_
        have fF51 : ρ (.tmp 51) = .bool true := (cx.anc 8 (by kernel_rfl))
        exact run_move' rfl fF51
      · refine sv_on rfl rfl rfl rfl rfl rfl (fun β => .string S1) (fun _ _ _ h => h) (fun _ _ _ => rfl) (fun ρ β W X cx => (show ρ (.tmp 52) = .bool true from (cx.anc 9 (by kernel_rfl)))) fun ρ β W X cx => ?_
        have fF5 : ρ (.tmp 5) = .string S1 := cx.out 5 (by kernel_rfl)
        exact run_move' rfl fF5
      · refine sv_on rfl rfl rfl rfl rfl rfl (fun β => .int .i64 ((S1.size : Int))) (fun _ _ _ h => h) (fun _ _ _ => rfl) (fun ρ β W X cx => (show ρ (.tmp 52) = .bool true from (cx.anc 9 (by kernel_rfl)))) fun ρ β W X cx => ?_
        have fF53 : ρ (.tmp 53) = .string S1 := (cx.anc 10 (by kernel_rfl))
        exact run_len_s rfl (by kernel_rfl) fF53
      · refine sv_on rfl rfl rfl rfl rfl rfl (fun β => .bool ((S1.size : Int) == 512)) (fun _ _ _ h => h) (fun _ _ _ => rfl) (fun ρ β W X cx => (show ρ (.tmp 52) = .bool true from (cx.anc 9 (by kernel_rfl)))) fun ρ β W X cx => ?_
        have fF54 : ρ (.tmp 54) = .int .i64 ((S1.size : Int)) := (cx.anc 11 (by kernel_rfl))
        exact run_bin rfl fF54 (cx.sees.const _) rfl
      · refine sv rfl rfl rfl rfl rfl (fun β => .bool true) (fun _ _ _ h => h) (fun _ _ _ => rfl) fun ρ β W X cx => ?_
        have fF52 : ρ (.tmp 52) = .bool true := (cx.anc 9 (by kernel_rfl))
        have fF55 : ρ (.tmp 55) = .bool true := (show ρ (.tmp 55) = .bool ((S1.size : Int) == 512) from (cx.anc 12 (by kernel_rfl))).trans (congrArg Value.bool hd12)
        exact run_pick_t rfl fF52 fF55
      · refine sv rfl rfl rfl rfl rfl (fun β => .bool true) (fun _ _ _ h => h) (fun _ _ _ => rfl) fun ρ β W X cx => ?_
        have fF56 : ρ (.tmp 56) = .bool true := (cx.anc 13 (by kernel_rfl))
        exact run_move' rfl fF56
      · refine sv_on rfl rfl rfl rfl rfl rfl (fun β => .agg #[.int .i64 k1, .int .i64 l1, .slice A15_3 I1.length c15_3]) (fun _ _ _ h => h) (fun _ _ _ => rfl) (fun ρ β W X cx => (show ρ (.tmp 57) = .bool true from (cx.anc 14 (by kernel_rfl)))) fun ρ β W X cx => ?_
        have fF4 : ρ (.tmp 4) = .pointer (some ⟨B4_3, 0, none⟩) := cx.out 4 (by kernel_rfl)
        have xX2 : X 2 = eB B4_3 26 #[.int .i64 k1, .int .i64 l1, .slice A15_3 I1.length c15_3] := cx.init 2 _ rfl
        have kK2 : Blk W B4_3 26 #[.int .i64 k1, .int .i64 l1, .slice A15_3 I1.length c15_3] := by have h := (cx.ok 2 rfl).holds; rw [xX2] at h; exact h
        exact run_loadB (n := 3) rfl (by kernel_rfl) (by kernel_rfl) fF4 kK2 (Nat.le_of_ble_eq_true rfl) rfl
      · refine sv_on rfl rfl rfl rfl rfl rfl (fun β => .agg #[.int .i64 k1, .int .i64 l1, .slice A23_5 I1.length c23_5]) (fun _ _ _ h => h) (fun _ _ _ => rfl) (fun ρ β W X cx => (show ρ (.tmp 57) = .bool true from (cx.anc 14 (by kernel_rfl)))) fun ρ β W X cx => ?_
        have fF7 : ρ (.tmp 7) = .pointer (some ⟨B7_5, 0, none⟩) := cx.out 7 (by kernel_rfl)
        have xX4 : X 4 = eB B7_5 26 #[.int .i64 k1, .int .i64 l1, .slice A23_5 I1.length c23_5] := cx.init 4 _ rfl
        have kK4 : Blk W B7_5 26 #[.int .i64 k1, .int .i64 l1, .slice A23_5 I1.length c23_5] := by have h := (cx.ok 4 rfl).holds; rw [xX4] at h; exact h
        exact run_loadB (n := 3) rfl (by kernel_rfl) (by kernel_rfl) fF7 kK4 (Nat.le_of_ble_eq_true rfl) rfl
      · refine sv_any_on rfl rfl rfl (fun ρ β W X cx => (show ρ (.tmp 57) = .bool true from (cx.anc 14 (by kernel_rfl)))) fun ρ β W X cx => ?_
        have fF58 : ρ (.tmp 58) = .agg #[.int .i64 k1, .int .i64 l1, .slice A15_3 I1.length c15_3] := (cx.anc 15 (by kernel_rfl))
        have fF59 : ρ (.tmp 59) = .agg #[.int .i64 k1, .int .i64 l1, .slice A23_5 I1.length c23_5] := (cx.anc 16 (by kernel_rfl))
        have xX1 : X 1 = eO 9 1 (.slice A15_3 I1.length c15_3) I1.length (I1.map Value.string) := cx.init 1 _ rfl
        have kK1 : W.ownsRow 0 9 1 (.slice A15_3 I1.length c15_3) I1.length (I1.map Value.string) := by have h := (cx.ok 1 rfl).holds; rw [xX1] at h; exact h
        have xX3 : X 3 = eO 9 1 (.slice A23_5 I1.length c23_5) I1.length (I1.map Value.string) := cx.init 3 _ rfl
        have kK3 : W.ownsRow 0 9 1 (.slice A23_5 I1.length c23_5) I1.length (I1.map Value.string) := by have h := (cx.ok 3 rfl).holds; rw [xX3] at h; exact h
        refine DoesU.call (run_callF (args := #[.agg #[.int .i64 k1, .int .i64 l1, .slice A15_3 I1.length c15_3], .agg #[.int .i64 k1, .int .i64 l1, .slice A23_5 I1.length c23_5]]) rfl cx.sees rfl (by kernel_rfl) (by simp only [List.map_toArray, List.map_cons, List.map_nil, fF58, fF59])) ?_
        refine (same_any _ _ _ _ _ I1 _ _ _ _ _ I1 _ rfl rfl (At.of_own kK1) (At.of_own kK3) (by omega) (by omega)).mono ?_
        rintro e W1 ⟨rfl, hx⟩
        rw [hone]
        refine ⟨_, rfl, post_call [] rfl rfl hx (by simp) List.Pairwise.nil (fun σ β' X' hs hb hv hN => ?_)⟩
        have hv1 := (hv 60 rfl).1; have hv2 := (hv 60 rfl).2
        exact hv1.trans rfl
      · refine sv rfl rfl rfl rfl rfl (fun β => .bool true) (fun _ _ _ h => h) (fun _ _ _ => rfl) fun ρ β W X cx => ?_
        have fF57 : ρ (.tmp 57) = .bool true := (cx.anc 14 (by kernel_rfl))
        have fF60 : ρ (.tmp 60) = .bool true := (cx.anc 17 (by kernel_rfl))
        exact run_pick_t rfl fF57 fF60
      · refine sv rfl rfl rfl rfl rfl (fun β => .bool true) (fun _ _ _ h => h) (fun _ _ _ => rfl) fun ρ β W X cx => ?_
        have fF61 : ρ (.tmp 61) = .bool true := (cx.anc 18 (by kernel_rfl))
        exact run_move' rfl fF61
      · refine sv_on rfl rfl rfl rfl rfl rfl (fun β => .bool false) (fun _ _ _ h => h) (fun _ _ _ => rfl) (fun ρ β W X cx => (show ρ (.tmp 62) = .bool true from (cx.anc 19 (by kernel_rfl)))) fun ρ β W X cx => ?_
        have fF12 : ρ (.tmp 12) = .bool false := cx.out 12 (by kernel_rfl)
        exact run_move' rfl fF12
      · refine sv_on rfl rfl rfl rfl rfl rfl (fun β => .bool true) (fun _ _ _ h => h) (fun _ _ _ => rfl) (fun ρ β W X cx => (show ρ (.tmp 62) = .bool true from (cx.anc 19 (by kernel_rfl)))) fun ρ β W X cx => ?_
        have fF63 : ρ (.tmp 63) = .bool false := (cx.anc 20 (by kernel_rfl))
        exact run_not rfl fF63 rfl
      · refine sv_on rfl rfl rfl rfl rfl rfl (fun β => .bool true) (fun _ _ _ h => h) (fun _ _ _ => rfl) (fun ρ β W X cx => (show ρ (.tmp 62) = .bool true from (cx.anc 19 (by kernel_rfl)))) fun ρ β W X cx => ?_
        have fF64 : ρ (.tmp 64) = .bool true := (cx.anc 21 (by kernel_rfl))
        exact run_move' rfl fF64
      · exact sv_off rfl rfl rfl (by decide) rfl rfl (fun σ β X h => h _ rfl) (fun ρ β W X cx => (show ρ (.tmp 65) = .bool true from (cx.anc 22 (by kernel_rfl))))
      · exact sv_off rfl rfl rfl (by decide) rfl rfl (fun σ β X h => h _ rfl) (fun ρ β W X cx => (show ρ (.tmp 65) = .bool true from (cx.anc 22 (by kernel_rfl))))
      · exact sv_off rfl rfl rfl (by decide) rfl rfl (fun σ β X h => h _ rfl) (fun ρ β W X cx => (show ρ (.tmp 65) = .bool true from (cx.anc 22 (by kernel_rfl))))
      · exact sv_un rfl rfl rfl rfl rfl (fun σ β X h => h _ rfl) (fun ρ β W X cx => cx.anc 25 (by kernel_rfl))
      · exact sv_un rfl rfl rfl rfl rfl (fun σ β X h => h _ rfl) (fun ρ β W X cx => cx.anc 25 (by kernel_rfl))
      · exact sv_un rfl rfl rfl rfl rfl (fun σ β X h => h _ rfl) (fun ρ β W X cx => cx.anc 25 (by kernel_rfl))
      · exact sv_off rfl rfl rfl (by decide) rfl rfl (fun σ β X h => h _ rfl) (fun ρ β W X cx => (show ρ (.tmp 65) = .bool true from (cx.anc 22 (by kernel_rfl))))
      · refine sv_on rfl rfl rfl rfl rfl rfl (fun β => .bool true) (fun _ _ _ h => h) (fun _ _ _ => rfl) (fun ρ β W X cx => (show ρ (.tmp 62) = .bool true from (cx.anc 19 (by kernel_rfl)))) fun ρ β W X cx => ?_
        have fF65 : ρ (.tmp 65) = .bool true := (cx.anc 22 (by kernel_rfl))
        exact run_pick_t rfl fF65 (cx.sees.const _)
      · refine sv rfl rfl rfl rfl rfl (fun β => .bool true) (fun _ _ _ h => h) (fun _ _ _ => rfl) fun ρ β W X cx => ?_
        have fF62 : ρ (.tmp 62) = .bool true := (cx.anc 19 (by kernel_rfl))
        have fF73 : ρ (.tmp 73) = .bool true := (cx.anc 30 (by kernel_rfl))
        exact run_pick_t rfl fF62 fF73
      · refine sv rfl rfl rfl rfl rfl (fun β => .bool true) (fun _ _ _ h => h) (fun _ _ _ => rfl) fun ρ β W X cx => ?_
        have fF74 : ρ (.tmp 74) = .bool true := (cx.anc 31 (by kernel_rfl))
        exact run_assign' rfl fF74
    intro σ β X W11 hD hX hst11q fr hfr
    have dD43 : σ 43 = .bool true := (hD 0 (Nat.le_of_ble_eq_true rfl))
    have dD44 : σ 44 = .bool true := (hD 1 (Nat.le_of_ble_eq_true rfl))
    have dD45 : σ 45 = .int .i64 0 := (hD 2 (Nat.le_of_ble_eq_true rfl))
    have dD46 : σ 46 = .bool true := (hD 3 (Nat.le_of_ble_eq_true rfl))
    have dD47 : σ 47 = .bool true := (hD 4 (Nat.le_of_ble_eq_true rfl))
    have dD48 : σ 48 = .bool true := (hD 5 (Nat.le_of_ble_eq_true rfl))
    have dD49 : σ 49 = .int .i64 0 := (hD 6 (Nat.le_of_ble_eq_true rfl))
    have dD50 : σ 50 = .bool true := (hD 7 (Nat.le_of_ble_eq_true rfl))
    have dD51 : σ 51 = .bool true := (hD 8 (Nat.le_of_ble_eq_true rfl))
    have dD52 : σ 52 = .bool true := (hD 9 (Nat.le_of_ble_eq_true rfl))
    have dD53 : σ 53 = .string S1 := (hD 10 (Nat.le_of_ble_eq_true rfl))
    have dD54 : σ 54 = .int .i64 ((S1.size : Int)) := (hD 11 (Nat.le_of_ble_eq_true rfl))
    have dD55 : σ 55 = .bool ((S1.size : Int) == 512) := (hD 12 (Nat.le_of_ble_eq_true rfl))
    have dD56 : σ 56 = .bool true := (hD 13 (Nat.le_of_ble_eq_true rfl))
    have dD57 : σ 57 = .bool true := (hD 14 (Nat.le_of_ble_eq_true rfl))
    have dD58 : σ 58 = .agg #[.int .i64 k1, .int .i64 l1, .slice A15_3 I1.length c15_3] := (hD 15 (Nat.le_of_ble_eq_true rfl))
    have dD59 : σ 59 = .agg #[.int .i64 k1, .int .i64 l1, .slice A23_5 I1.length c23_5] := (hD 16 (Nat.le_of_ble_eq_true rfl))
    have dD60 : σ 60 = .bool true := (hD 17 (Nat.le_of_ble_eq_true rfl))
    have dD61 : σ 61 = .bool true := (hD 18 (Nat.le_of_ble_eq_true rfl))
    have dD62 : σ 62 = .bool true := (hD 19 (Nat.le_of_ble_eq_true rfl))
    have dD63 : σ 63 = .bool false := (hD 20 (Nat.le_of_ble_eq_true rfl))
    have dD64 : σ 64 = .bool true := (hD 21 (Nat.le_of_ble_eq_true rfl))
    have dD65 : σ 65 = .bool true := (hD 22 (Nat.le_of_ble_eq_true rfl))
    have dD66 : σ 66 = undef := (hD 23 (Nat.le_of_ble_eq_true rfl))
    have dD67 : σ 67 = undef := (hD 24 (Nat.le_of_ble_eq_true rfl))
    have dD68 : σ 68 = undef := (hD 25 (Nat.le_of_ble_eq_true rfl))
    have dD69 : σ 69 = undef := (hD 26 (Nat.le_of_ble_eq_true rfl))
    have dD70 : σ 70 = undef := (hD 27 (Nat.le_of_ble_eq_true rfl))
    have dD71 : σ 71 = undef := (hD 28 (Nat.le_of_ble_eq_true rfl))
    have dD72 : σ 72 = undef := (hD 29 (Nat.le_of_ble_eq_true rfl))
    have dD73 : σ 73 = .bool true := (hD 30 (Nat.le_of_ble_eq_true rfl))
    have dD74 : σ 74 = .bool true := (hD 31 (Nat.le_of_ble_eq_true rfl))
    have dD2 : σ 2 = .bool true := (hD 32 (Nat.le_of_ble_eq_true rfl))
    have xX0 : X 0 = eB B1_1 24 #[.int .i64 kA, .int .i64 lA, .slice A sa.length c] := hX 0 _ rfl
    have xX1 : X 1 = eO 9 1 (.slice A15_3 I1.length c15_3) I1.length (I1.map Value.string) := hX 1 _ rfl
    have xX2 : X 2 = eB B4_3 26 #[.int .i64 k1, .int .i64 l1, .slice A15_3 I1.length c15_3] := hX 2 _ rfl
    have xX3 : X 3 = eO 9 1 (.slice A23_5 I1.length c23_5) I1.length (I1.map Value.string) := hX 3 _ rfl
    have xX4 : X 4 = eB B7_5 26 #[.int .i64 k1, .int .i64 l1, .slice A23_5 I1.length c23_5] := hX 4 _ rfl
    have xX5 : X 5 = eO 9 1 (.slice A31_7 1 1) 1 ([.string ⟨#[]⟩]) := hX 5 _ rfl
    have xX6 : X 6 = eO 9 1 (.slice A32_7 (I1.length + 1) c32_7) (I1.length + 1) ((I1.map Value.string) ++ [.string ⟨#[]⟩]) := hX 6 _ rfl
    have xX7 : X 7 = eB B9_6 26 #[.int .i64 k1, .int .i64 l1, .slice A32_7 (I1.length + 1) c32_7] := hX 7 _ rfl
    have hst11 : St w [] [eB B1_1 24 #[.int .i64 kA, .int .i64 lA, .slice A sa.length c], eO 9 1 (.slice A15_3 I1.length c15_3) I1.length (I1.map Value.string), eB B4_3 26 #[.int .i64 k1, .int .i64 l1, .slice A15_3 I1.length c15_3], eO 9 1 (.slice A23_5 I1.length c23_5) I1.length (I1.map Value.string), eB B7_5 26 #[.int .i64 k1, .int .i64 l1, .slice A23_5 I1.length c23_5], eO 9 1 (.slice A31_7 1 1) 1 ([.string ⟨#[]⟩]), eO 9 1 (.slice A32_7 (I1.length + 1) c32_7) (I1.length + 1) ((I1.map Value.string) ++ [.string ⟨#[]⟩]), eB B9_6 26 #[.int .i64 k1, .int .i64 l1, .slice A32_7 (I1.length + 1) c32_7]] W11 := by
      have h := hst11q
      simp only [List.map_cons, List.map_nil, xX0, xX1, xX2, xX3, xX4, xX5, xX6, xX7] at h
      exact h
    have hfr2 : fr = #[.agg #[.int .i64 kA, .int .i64 lA, .slice A sa.length c], .pointer (some ⟨B1_1, 0, none⟩), .bool true, .bool true, .pointer (some ⟨B4_3, 0, none⟩), .string S1, .int .i64 0, .pointer (some ⟨B7_5, 0, none⟩), .int .i64 0, .pointer (some ⟨B9_6, 0, none⟩), .string T2, .int .i64 E2, .bool false, .bool true, .agg #[.int .i64 kA, .int .i64 lA, .slice A sa.length c], .agg #[.int .i64 k1, .int .i64 l1, .slice A15_3 I1.length c15_3], .tuple #[.string S1, .int .i64 0], .agg #[.int .i64 k1, .int .i64 l1, .slice A15_3 I1.length c15_3], .tuple #[.string S1, .int .i64 0], .string S1, .int .i64 0, .tuple #[.agg #[.int .i64 k1, .int .i64 l1, .slice A23_5 I1.length c23_5], .int .i64 0], .string S1, .tuple #[.agg #[.int .i64 k1, .int .i64 l1, .slice A23_5 I1.length c23_5], .int .i64 0], .agg #[.int .i64 k1, .int .i64 l1, .slice A23_5 I1.length c23_5], .int .i64 0, .agg #[.int .i64 k1, .int .i64 l1, .slice A15_3 I1.length c15_3], .slice A27_7 0 0, .pointer (some ⟨B4_3, 2, none⟩), .slice A15_3 I1.length c15_3, .slice A30_7 I1.length c30_7, .slice A31_7 1 1, .slice A32_7 (I1.length + 1) c32_7, .pointer (some ⟨B9_6, 2, none⟩), .tuple #[.string T2, .int .i64 E2], .agg #[.int .i64 k1, .int .i64 l1, .slice A32_7 (I1.length + 1) c32_7], .tuple #[.string T2, .int .i64 E2], .string T2, .int .i64 E2, .pointer (some ⟨B4_3, 2, none⟩), .slice A15_3 I1.length c15_3, .int .i64 ((I1.length : Int)), .bool (decide ((I1.length : Int) < 24)), .bool true, .bool true, .int .i64 0, .bool true, .bool true, .bool true, .int .i64 0, .bool true, .bool true, .bool true, .string S1, .int .i64 ((S1.size : Int)), .bool ((S1.size : Int) == 512), .bool true, .bool true, .agg #[.int .i64 k1, .int .i64 l1, .slice A15_3 I1.length c15_3], .agg #[.int .i64 k1, .int .i64 l1, .slice A23_5 I1.length c23_5], .bool true, .bool true, .bool true, .bool false, .bool true, .bool true, undef, undef, undef, undef, undef, undef, undef, .bool true, .bool true] := hfr.trans (by rw [show dstsU _ = [43, 44, 45, 46, 47, 48, 49, 50, 51, 52, 53, 54, 55, 56, 57, 58, 59, 60, 61, 62, 63, 64, 65, 66, 67, 68, 69, 70, 71, 72, 73, 74, 2] by kernel_rfl]; simp only [List.map_cons, List.map_nil, putAll, List.setIfInBounds_toArray, List.set_cons_succ, List.set_cons_zero, dD43, dD44, dD45, dD46, dD47, dD48, dD49, dD50, dD51, dD52, dD53, dD54, dD55, dD56, dD57, dD58, dD59, dD60, dD61, dD62, dD63, dD64, dD65, dD66, dD67, dD68, dD69, dD70, dD71, dD72, dD73, dD74, dD2])
    clear hfr hX hD hst11q dD43 dD44 dD45 dD46 dD47 dD48 dD49 dD50 dD51 dD52 dD53 dD54 dD55 dD56 dD57 dD58 dD59 dD60 dD61 dD62 dD63 dD64 dD65 dD66 dD67 dD68 dD69 dD70 dD71 dD72 dD73 dD74 dD2 xX0 xX1 xX2 xX3 xX4 xX5 xX6 xX7
    subst hfr2
    clear σ β X
    refine then_normal ?_
    refine wp_ret ?_
    refine bodyPost_ret (v := .bool true) (by simp [results, Try.results11, go_sem]) rfl ?_
    exact ⟨rfl, hst11.ext⟩
end Go.Proofs.Ytkkldciofndedaa

/- the reference's Read. -/
import Derived.Test.YtkkldciofndedaaReadPlain
import Derived.Test.YtkkldciofndedaaVo
namespace Go.Proofs.Ytkkldciofndedaa
open Go.RowKit
set_option linter.unusedVariables false

theorem numS_sum (s : ByteArray) (hs : s.size = 512) (m : Nat) (h : m < 4294967296) : ((putS (m : Int) 4).toList == (s.extract 0 4).toList) = decide (numS s 0 4 = m) := by
  have h1 := putS_iff4 (m : Int) (by omega) (by omega) (s.extract 0 4) (by rw [ByteArray.size_extract]; omega)
  have h2 : ((putS (m : Int) 4).toList == (s.extract 0 4).toList) = decide (putS (m : Int) 4 = s.extract 0 4) := by
    rw [Bool.eq_iff_iff, decide_eq_true_eq, beq_iff_eq]
    exact ⟨fun h => ba_inj h, fun h => by rw [h]⟩
  rw [h2, decide_eq_decide, h1]
  rw [show numS s 0 4 = numL (bl (s.extract 0 4)) from rfl]
  exact ⟨fun h => by omega, fun h => by omega⟩
theorem str_dec (a b : ByteArray) : (a.toList == b.toList) = decide (a = b) := by
  rw [Bool.eq_iff_iff, decide_eq_true_eq, beq_iff_eq]
  exact ⟨fun h => ba_inj h, fun h => by rw [h]⟩

theorem tx_step' {s : ByteArray} {j p : Nat} {xs : List ByteArray} {f : Bool} (h : txSt s j xs p f) (hs : s.size = 512) (hp : p ≤ s.size) : ∃ x p' f', TxStep s j xs p f x p' f' ∧ p' ≤ s.size := by
  obtain ⟨h1, h2, h3⟩ := h
  have hm : ∀ y : ByteArray, y.size ≤ 512 → ∀ x ∈ xs ++ [y], x.size ≤ 512 := fun y hy x hx => by
    rcases List.mem_append.1 hx with hx | hx
    · exact h2 x hx
    · rw [List.mem_singleton.1 hx]; exact hy
  have hlen : ∀ y : ByteArray, (xs ++ [y]).length = j + 1 := fun y => by rw [List.length_append, h1]; rfl
  rcases h3 with ⟨rfl, h3⟩ | ⟨rfl, h3⟩
  · by_cases hc : p + 2 ≤ s.size ∧ p + 2 + numS s p 2 ≤ s.size
    · exact ⟨textS s p, p + 2 + numS s p 2, false, ⟨⟨hlen _, hm _ (textS_le s p hs), .inl ⟨rfl, by rw [rtx, h3]; simp only; rw [if_pos hc]⟩⟩, fun B W h => text_ok B s p W h hc.1 hc.2, fun B W h => rtext_ok B s p W h hc.1 hc.2⟩, hc.2⟩
    · have hb : s.size < p + 2 ∨ s.size < p + 2 + numS s p 2 := by omega
      exact ⟨ByteArray.empty, p, true, ⟨⟨hlen _, hm _ (Nat.zero_le _), .inr ⟨rfl, by rw [rtx, h3]; simp only; rw [if_neg hc]⟩⟩, fun B W h => text_bad B s p false W h (.inr hb), fun B W h => rtext_bad B s p false W h (.inr hb)⟩, hp⟩
  · exact ⟨ByteArray.empty, p, true, ⟨⟨hlen _, hm _ (Nat.zero_le _), .inr ⟨rfl, by rw [rtx, h3]⟩⟩, fun B W h => text_bad B s p true W h (.inl rfl), fun B W h => rtext_bad B s p true W h (.inl rfl)⟩, hp⟩
theorem right_len {k l : Int} {xs : List ByteArray} (h : rightB k l xs = true) : xs.length ≤ 24 := (right_parts h).2.2.1.1
theorem rtx_length {s : ByteArray} {p n q : Nat} {xs : List ByteArray} (h : rtx s p n = some (xs, q)) : xs.length = n := rtx_len h
theorem readX_many {s : ByteArray} (hs : s.size = 512) (h2 : numS s 0 4 = sumF (s.extract 4 512) ∧ s.extract 5 9 = s.extract 508 512) (h : 30 ≤ numS s 9 1) : readX s = ((0, 0), ([], 22)) := by
  rw [readX, if_pos hs, if_pos h2]
  split
  · rename_i xs q e
    rw [if_neg]
    rintro ⟨h3, _⟩
    have h4 := right_len h3
    have h5 := rtx_length e
    omega
  · rfl
section
variable {s T : ByteArray} {kk ll E : Int} {xs : List ByteArray} {f : Bool} {n : Nat}
def RX (s : ByteArray) (kk ll : Int) (xs : List ByteArray) (f : Bool) : Prop := readX s = if f = false ∧ rightB kk ll xs = true ∧ bytesF kk ll (plainL xs) = s then ((kk, ll), (plainL xs, (0 : Int))) else ((0, 0), ([], 22))
def TE (T : ByteArray) (E kk ll : Int) (xs : List ByteArray) : Prop := (rightB kk ll xs = true ∧ T = bytesF kk ll (plainL xs) ∧ E = 0) ∨ (rightB kk ll xs = false ∧ E = 22)
theorem hbad_f (h : RX s kk ll xs f) (hf : f = true) : readX s = ((0, 0), ([], 22)) := by
  unfold RX at h; rw [h, if_neg]; rintro ⟨h1, _⟩; rw [hf] at h1; cases h1
theorem hbad_n (h : RX s kk ll xs f) (hl : xs.length = n) (hn : 24 < n) : readX s = ((0, 0), ([], 22)) := by
  unfold RX at h; rw [h, if_neg]; rintro ⟨_, h1, _⟩; have := right_len h1; omega
theorem hbad_e (h : RX s kk ll xs f) (ht : TE T E kk ll xs) (he : (E != 0) = true) : readX s = ((0, 0), ([], 22)) := by
  unfold RX at h; rw [h, if_neg]
  rintro ⟨_, h1, _⟩
  rcases ht with ⟨_, _, rfl⟩ | ⟨h2, _⟩
  · simp at he
  · rw [h1] at h2; cases h2
theorem hbad_t (h : RX s kk ll xs f) (ht : TE T E kk ll xs) (he : (!(T.toList == s.toList)) = true) : readX s = ((0, 0), ([], 22)) := by
  unfold RX at h; rw [h, if_neg]
  rintro ⟨_, h1, h3⟩
  rcases ht with ⟨_, rfl, _⟩ | ⟨h2, _⟩
  · rw [h3] at he; simp at he
  · rw [h1] at h2; cases h2
theorem hgood (h : RX s kk ll xs f) (hf : f = false) (ht : TE T E kk ll xs) (he : (E != 0) = false) (hb : (!(T.toList == s.toList)) = false) : readX s = ((kk, ll), (plainL xs, 0)) := by
  unfold RX at h; rw [h, if_pos]
  rcases ht with ⟨h1, rfl, _⟩ | ⟨_, rfl⟩
  · refine ⟨hf, h1, ba_inj ?_⟩
    simpa using hb
  · simp at he
end
theorem ways4 (a b c d : Bool) : a = true ∨ (a = false ∧ b = true) ∨ (a = false ∧ b = false ∧ c = true) ∨ (a = false ∧ b = false ∧ c = false ∧ d = true) ∨ (a = false ∧ b = false ∧ c = false ∧ d = false) := by
  cases a <;> cases b <;> cases c <;> cases d <;> simp


set_option maxRecDepth 100000 in
set_option maxHeartbeats 2000000 in
theorem rread_form (s : ByteArray) (w : World) (h : ¬ s.size = 512) :
    Calls Try.prog 38 #[.string s] w (GotPost (readX s).1.1 (readX s).1.2 (readX s).2.1 (readX s).2.2 w) := by
  have HX := Lib.hid (readX_form h)
  go_enter Try.func38, Try.ntmps38
  have hst0 := St.start w
  refine wp_seq ?_
  refine wp_region_W (by kernel_rfl) [0] [[]] [[0]] [[]] (fun ix σ β X => match ix with | 0 => σ 2 = .pointer (some ⟨(pb (β 2)), 0, none⟩) ∧ X 0 = eB (pb (β 2)) 49 #[.int .i64 0, .int .i64 0, .slice none 0 0, .int .i64 0] | _ => True) [0] (by kernel_rfl) (by kernel_rfl) (by kernel_rfl) (by kernel_rfl) ?_ hst0 ?_ ?_
  · exact fun ix _ _ _ _ _ _ hs hb hx h => match ix, h with
      | 0, h => by dsimp only at h ⊢; rw [← hs 2 rfl, ← hb 2 rfl, ← hx 0 rfl]; exact h
      | _ + 1, _ => trivial
  · refine ⟨trivial, ?_⟩
    · refine sv_any rfl rfl fun ρ β W X cx => ?_
      exact dv_alloc (cs := #[.int .i64 0, .int .i64 0, .slice none 0 0, .int .i64 0]) rfl (by kernel_rfl) rfl rfl (fun σ β' X' hs hb hv hx => ⟨hv, hx⟩)
  intro σ β X W1 hD hX hst1 fr hfr
  obtain ⟨B2_1, hu_B2_1⟩ : ∃ z, pb (β 2) = z := ⟨_, rfl⟩
  have dD2 : σ 2 = _ := (hD 0 lq).1
  have xX0 : X 0 = _ := (hD 0 lq).2
  simp only [List.map_cons, List.map_nil, xX0, hu_B2_1] at hst1
  rw [show dstsU _ = [2] by kernel_rfl] at hfr
  simp only [List.map_cons, List.map_nil, putAll, List.setIfInBounds_toArray, List.set_cons_succ, List.set_cons_zero, dD2, hu_B2_1] at hfr
  clear hX hD dD2 xX0 hu_B2_1
  subst hfr
  clear σ β X
  refine then_normal ?_
  refine wp_seq ?_
  refine wp_seq ?_
  refine wp_region_W (by kernel_rfl) [0, 1, 3] [[], [], []] [[], [], []] [[], [], []] (fun ix σ β X => match ix with | 0 => σ 8 = .string s | 1 => σ 9 = .int .i64 ((s.size : Int)) | 2 => σ 10 = .bool ((s.size : Int) != 512) | _ => True) [0] (by kernel_rfl) (by kernel_rfl) (by kernel_rfl) (by kernel_rfl) ?_ hst1 ?_ ?_
  · exact fun ix _ _ _ _ _ _ hs hb hx h => match ix, h with
      | 0, h => (hs 8 rfl).symm.trans h
      | 1, h => (hs 9 rfl).symm.trans h
      | 2, h => (hs 10 rfl).symm.trans h
      | _ + 3, _ => trivial
  · refine ⟨⟨⟨trivial, ?_⟩, ?_⟩, ?_⟩
    · exact sv0 rfl rfl rfl rfl rfl (fun _ _ _ h => h) fun ρ β W X cx => run_move' rfl (cx.out 0 rfl)
    · exact sv0 rfl rfl rfl rfl rfl (fun _ _ _ h => h) fun ρ β W X cx => run_len_s rfl (by kernel_rfl) (cx.anc 0 rfl)
    · exact sv0 rfl rfl rfl rfl rfl (fun _ _ _ h => h) fun ρ β W X cx => run_bin rfl (cx.anc 1 rfl) (cx.sees.const _) rfl
  intro σ β X W2 hD hX hst2 fr hfr
  have dD8 : σ 8 = _ := hD 0 lq
  have dD9 : σ 9 = _ := hD 1 lq
  have dD10 : σ 10 = _ := hD 2 lq
  have xX0 : X 0 = _ := hX 0 _ rfl
  simp only [List.map_cons, List.map_nil, xX0] at hst2
  rw [show dstsU _ = [8, 9, 10] by kernel_rfl] at hfr
  simp only [List.map_cons, List.map_nil, putAll, List.setIfInBounds_toArray, List.set_cons_succ, List.set_cons_zero, dD8, dD9, dD10] at hfr
  clear hX hD dD8 dD9 dD10 xX0
  subst hfr
  clear σ β X
  refine then_normal ?_
  have hd3 : ((s.size : Int) != 512) = true := by simp; omega
  refine wp_cond_true (show Act.eval _ _ = .bool true from (congrArg Value.bool hd3)) ?_
  refine wp_seq ?_
  refine wp_region_W (by kernel_rfl) [0, 1] [[], [0]] [[], [1]] [[], [0]] (fun ix σ β X => match ix with | 0 => σ 11 = .agg #[.int .i64 0, .int .i64 0, .slice none 0 0, .int .i64 11] | 1 => X 1 = eB B2_1 49 #[.int .i64 0, .int .i64 0, .slice none 0 0, .int .i64 11] | _ => True) [1] (by kernel_rfl) (by kernel_rfl) (by kernel_rfl) (by kernel_rfl) ?_ hst2 ?_ ?_
  · exact fun ix _ _ _ _ _ _ hs hb hx h => match ix, h with
      | 0, h => (hs 11 rfl).symm.trans h
      | 1, h => by dsimp only at h ⊢; rw [← hx 1 rfl]; exact h
      | _ + 2, _ => trivial
  · refine ⟨⟨trivial, ?_⟩, ?_⟩
    · exact sv0 rfl rfl rfl rfl rfl (fun _ _ _ h => h) fun ρ β W X cx => by
        simp [go_sem, cx.sees.const] <;> rfl
    · refine sv_any rfl rfl fun ρ β W X cx => ?_
      exact dv_store (n := 4) rfl (cx.out 2 rfl) (cx.anc 0 rfl) (by kernel_rfl) rfl rfl cx (cx.init 0 _ rfl) rfl (Nat.le_of_ble_eq_true rfl) rfl rfl rfl rfl (fun σ β' X' hs hb hx => hx)
  intro σ β X W4 hD hX hst4 fr hfr
  have dD11 : σ 11 = _ := hD 0 lq
  have xX1 : X 1 = _ := (hD 1 lq)
  simp only [List.map_cons, List.map_nil, xX1] at hst4
  rw [show dstsU _ = [11] by kernel_rfl] at hfr
  simp only [List.map_cons, List.map_nil, putAll, List.setIfInBounds_toArray, List.set_cons_succ, List.set_cons_zero, dD11] at hfr
  clear hX hD dD11 xX1
  subst hfr
  clear σ β X
  refine then_normal ?_
  refine wp_ret ?_
  refine then_ret ?_
  have hr5 : W4.cell? ⟨B2_1, 0, none⟩ = some (.int .i64 0) := (hst4.blk 0 rfl).cell 0
  have hr6 : W4.cell? ⟨B2_1, 1, none⟩ = some (.int .i64 0) := (hst4.blk 0 rfl).cell 1
  have hr7 : W4.cell? ⟨B2_1, 2, none⟩ = some (.slice none 0 0) := (hst4.blk 0 rfl).cell 2
  have hr8 : W4.cell? ⟨B2_1, 3, none⟩ = some (.int .i64 11) := (hst4.blk 0 rfl).cell 3
  refine bodyPost_ret (v := .agg #[.int .i64 0, .int .i64 0, .slice none 0 0, .int .i64 11]) (by simp [results, Try.results38, go_sem, hr5, hr6, hr7, hr8]) rfl ?_
  rw [HX.out]; exact GotPost.zero hst4.ext

set_option maxRecDepth 100000 in
set_option maxHeartbeats 4000000 in
theorem rread_sum (s : ByteArray) (w : World) (hs : s.size = 512) (h2 : ¬ (numS s 0 4 = sumF (s.extract 4 512) ∧ s.extract 5 9 = s.extract 508 512)) :
    Calls Try.prog 38 #[.string s] w (GotPost (readX s).1.1 (readX s).1.2 (readX s).2.1 (readX s).2.2 w) := by
  have HX := Lib.hid (readX_sum hs h2)
  obtain ⟨q, hq⟩ : ∃ z, z = sumF (s.extract 4 s.size) := ⟨_, rfl⟩
  have HSM := Lib.hid (show ∀ w, Calls Try.prog 58 #[.string (s.extract 4 s.size)] w (Ret1 (.int .u32 (q : Int)) w) by
    rw [hq]; exact fun w => rsum_any _ w (by rw [ByteArray.size_extract]; omega))
  have hq32 : q < 4294967296 := by rw [hq]; exact sumF_lt _
  have h3 : ¬ (numS s 0 4 = q ∧ s.extract 5 9 = s.extract 508 s.size) := by rw [hq, hs]; exact h2
  have e1 := numS_sum s hs q hq32
  have e2 := str_dec (s.extract 5 9) (s.extract 508 s.size)
  clear hq h2
  by_cases hq0 : numS s 0 4 = q
  · have h5 : ((s.extract 5 9).toList == (s.extract 508 s.size).toList) = false := by rw [e2]; exact decide_eq_false fun h => h3 ⟨hq0, h⟩
    have h4 : ((putS (q : Int) 4).toList == (s.extract 0 4).toList) = true := by rw [e1]; exact decide_eq_true hq0
    have H5 := Lib.hid h5
    have H4 := Lib.hid h4
    clear e1 e2 h3 hq0 h4 h5
    go_enter Try.func38, Try.ntmps38
    have hst0 := St.start w
    refine wp_seq ?_
    refine wp_region_W (by kernel_rfl) [0] [[]] [[0]] [[]] (fun ix σ β X => match ix with | 0 => σ 2 = .pointer (some ⟨(pb (β 2)), 0, none⟩) ∧ X 0 = eB (pb (β 2)) 49 #[.int .i64 0, .int .i64 0, .slice none 0 0, .int .i64 0] | _ => True) [0] (by kernel_rfl) (by kernel_rfl) (by kernel_rfl) (by kernel_rfl) ?_ hst0 ?_ ?_
    · exact fun ix _ _ _ _ _ _ hs hb hx h => match ix, h with
        | 0, h => by dsimp only at h ⊢; rw [← hs 2 rfl, ← hb 2 rfl, ← hx 0 rfl]; exact h
        | _ + 1, _ => trivial
    · refine ⟨trivial, ?_⟩
      · refine sv_any rfl rfl fun ρ β W X cx => ?_
        exact dv_alloc (cs := #[.int .i64 0, .int .i64 0, .slice none 0 0, .int .i64 0]) rfl (by kernel_rfl) rfl rfl (fun σ β' X' hs hb hv hx => ⟨hv, hx⟩)
    intro σ β X W1 hD hX hst1 fr hfr
    obtain ⟨B2_1, hu_B2_1⟩ : ∃ z, pb (β 2) = z := ⟨_, rfl⟩
    have dD2 : σ 2 = _ := (hD 0 lq).1
    have xX0 : X 0 = _ := (hD 0 lq).2
    simp only [List.map_cons, List.map_nil, xX0, hu_B2_1] at hst1
    rw [show dstsU _ = [2] by kernel_rfl] at hfr
    simp only [List.map_cons, List.map_nil, putAll, List.setIfInBounds_toArray, List.set_cons_succ, List.set_cons_zero, dD2, hu_B2_1] at hfr
    clear hX hD dD2 xX0 hu_B2_1
    subst hfr
    clear σ β X
    refine then_normal ?_
    refine wp_seq ?_
    refine wp_seq ?_
    refine wp_region_W (by kernel_rfl) [0, 1, 3] [[], [], []] [[], [], []] [[], [], []] (fun ix σ β X => match ix with | 0 => σ 8 = .string s | 1 => σ 9 = .int .i64 ((s.size : Int)) | 2 => σ 10 = .bool ((s.size : Int) != 512) | _ => True) [0] (by kernel_rfl) (by kernel_rfl) (by kernel_rfl) (by kernel_rfl) ?_ hst1 ?_ ?_
    · exact fun ix _ _ _ _ _ _ hs hb hx h => match ix, h with
        | 0, h => (hs 8 rfl).symm.trans h
        | 1, h => (hs 9 rfl).symm.trans h
        | 2, h => (hs 10 rfl).symm.trans h
        | _ + 3, _ => trivial
    · refine ⟨⟨⟨trivial, ?_⟩, ?_⟩, ?_⟩
      · exact sv0 rfl rfl rfl rfl rfl (fun _ _ _ h => h) fun ρ β W X cx => run_move' rfl (cx.out 0 rfl)
      · exact sv0 rfl rfl rfl rfl rfl (fun _ _ _ h => h) fun ρ β W X cx => run_len_s rfl (by kernel_rfl) (cx.anc 0 rfl)
      · exact sv0 rfl rfl rfl rfl rfl (fun _ _ _ h => h) fun ρ β W X cx => run_bin rfl (cx.anc 1 rfl) (cx.sees.const _) rfl
    intro σ β X W2 hD hX hst2 fr hfr
    have dD8 : σ 8 = _ := hD 0 lq
    have dD9 : σ 9 = _ := hD 1 lq
    have dD10 : σ 10 = _ := hD 2 lq
    have xX0 : X 0 = _ := hX 0 _ rfl
    simp only [List.map_cons, List.map_nil, xX0] at hst2
    rw [show dstsU _ = [8, 9, 10] by kernel_rfl] at hfr
    simp only [List.map_cons, List.map_nil, putAll, List.setIfInBounds_toArray, List.set_cons_succ, List.set_cons_zero, dD8, dD9, dD10] at hfr
    clear hX hD dD8 dD9 dD10 xX0
    subst hfr
    clear σ β X
    refine then_normal ?_
    have hd3 : ((s.size : Int) != 512) = false := by rw [hs]; rfl
    refine wp_cond_false (show Act.eval _ _ = .bool false from (congrArg Value.bool hd3)) ?_
    refine wp_skip ?_
    refine then_normal ?_
    refine wp_seq ?_
    refine wp_seq ?_
    have hd5 : (!((putS (q : Int) 4).toList == (s.extract 0 4).toList)) = false := by rw [H4.out]; rfl
    have hd6 : (!((s.extract 5 9).toList == (s.extract 508 s.size).toList)) = true := by rw [H5.out]; rfl
    refine wp_region_W (by kernel_rfl) [0, 1, 3, 7, 15, 0, 32, 127, 255, 511, 1023, 511, 2559, 8191, 16383] [[], [], [], [], [], [], [], [], [], [], [], [], [], [], []] [[], [], [], [], [], [], [], [], [], [], [], [], [], [], []] [[], [], [], [], [], [], [], [], [], [], [], [], [], [], []] (fun ix σ β X => match ix with | 0 => σ 12 = .string s | 1 => σ 13 = .string (s.extract 4 s.size) | 2 => σ 14 = .int .u32 ((q : Int)) | 3 => σ 15 = .int .i64 ((q : Int)) | 4 => σ 16 = .string (putS (q : Int) 4) | 5 => σ 17 = .string s | 6 => σ 18 = .string (s.extract 0 4) | 7 => σ 19 = .bool (!((putS (q : Int) 4).toList == (s.extract 0 4).toList)) | 8 => σ 20 = .bool false | 9 => σ 21 = .string s | 10 => σ 22 = .string (s.extract 5 9) | 11 => σ 23 = .string s | 12 => σ 24 = .string (s.extract 508 s.size) | 13 => σ 25 = .bool (!((s.extract 5 9).toList == (s.extract 508 s.size).toList)) | 14 => σ 26 = .bool true | _ => True) [0] (by kernel_rfl) (by kernel_rfl) (by kernel_rfl) (by kernel_rfl) ?_ hst2 ?_ ?_
    · exact fun ix _ _ _ _ _ _ hs hb hx h => match ix, h with
        | 0, h => (hs 12 rfl).symm.trans h
        | 1, h => (hs 13 rfl).symm.trans h
        | 2, h => (hs 14 rfl).symm.trans h
        | 3, h => (hs 15 rfl).symm.trans h
        | 4, h => (hs 16 rfl).symm.trans h
        | 5, h => (hs 17 rfl).symm.trans h
        | 6, h => (hs 18 rfl).symm.trans h
        | 7, h => (hs 19 rfl).symm.trans h
        | 8, h => (hs 20 rfl).symm.trans h
        | 9, h => (hs 21 rfl).symm.trans h
        | 10, h => (hs 22 rfl).symm.trans h
        | 11, h => (hs 23 rfl).symm.trans h
        | 12, h => (hs 24 rfl).symm.trans h
        | 13, h => (hs 25 rfl).symm.trans h
        | 14, h => (hs 26 rfl).symm.trans h
        | _ + 15, _ => trivial
    · refine ⟨⟨⟨⟨⟨⟨⟨⟨⟨⟨⟨⟨⟨⟨⟨trivial, ?_⟩, ?_⟩, ?_⟩, ?_⟩, ?_⟩, ?_⟩, ?_⟩, ?_⟩, ?_⟩, ?_⟩, ?_⟩, ?_⟩, ?_⟩, ?_⟩, ?_⟩
      · exact sv0 rfl rfl rfl rfl rfl (fun _ _ _ h => h) fun ρ β W X cx => run_move' rfl (cx.out 0 rfl)
      · exact sv0 rfl rfl rfl rfl rfl (fun _ _ _ h => h) fun ρ β W X cx => run_slice_lo (l := 4) rfl (by kernel_rfl) (cx.anc 0 rfl) (cx.sees.const _) (by omega) (by omega)
      · exact sv_call rfl rfl rfl rfl rfl (fun _ _ _ h => h) fun ρ β W X cx => ⟨_, _, run_callF (args := #[.string (s.extract 4 s.size)]) rfl cx.sees rfl (by kernel_rfl) (map1 (cx.anc 1 rfl)), HSM.out _⟩
      · exact sv0 rfl rfl rfl rfl rfl (fun _ _ _ h => h) fun ρ β W X cx => run_convI rfl (by kernel_rfl) (by kernel_rfl) (cx.anc 2 rfl) (IntWalk.i64_in _ (by omega))
      · exact sv_call rfl rfl rfl rfl rfl (fun _ _ _ h => h) fun ρ β W X cx => ⟨_, _, run_callF (args := #[.int .i64 ((q : Int)), .int .i64 4]) rfl cx.sees rfl (by kernel_rfl) (map2 (cx.anc 3 rfl) (cx.sees.const _)), rput4_any _ _⟩
      · exact sv0 rfl rfl rfl rfl rfl (fun _ _ _ h => h) fun ρ β W X cx => run_move' rfl (cx.out 0 rfl)
      · exact sv0 rfl rfl rfl rfl rfl (fun _ _ _ h => h) fun ρ β W X cx => run_slice_hi (l := 4) rfl (by kernel_rfl) (cx.anc 5 rfl) (cx.sees.const _) (by omega) (by omega)
      · exact sv0 rfl rfl rfl rfl rfl (fun _ _ _ h => h) fun ρ β W X cx => run_strne rfl (cx.anc 4 rfl) (cx.anc 6 rfl)
      · exact sv0 rfl rfl rfl rfl rfl (fun _ _ _ h => h) fun ρ β W X cx => run_move' rfl (Eq.trans (cx.anc 7 rfl) (congrArg Value.bool hd5))
      · exact sv0_on rfl rfl rfl rfl rfl rfl (fun _ _ _ h => h) (fun _ _ _ _ cx => (cx.anc 8 rfl)) fun ρ β W X cx => run_move' rfl (cx.out 0 rfl)
      · exact sv0_on rfl rfl rfl rfl rfl rfl (fun _ _ _ h => h) (fun _ _ _ _ cx => (cx.anc 8 rfl)) fun ρ β W X cx => run_slice_lh (l := 5) (m := 9) rfl (by kernel_rfl) (cx.anc 9 rfl) (cx.sees.const _) (cx.sees.const _) (by omega) (by omega) (by omega) (by omega)
      · exact sv0_on rfl rfl rfl rfl rfl rfl (fun _ _ _ h => h) (fun _ _ _ _ cx => (cx.anc 8 rfl)) fun ρ β W X cx => run_move' rfl (cx.out 0 rfl)
      · exact sv0_on rfl rfl rfl rfl rfl rfl (fun _ _ _ h => h) (fun _ _ _ _ cx => (cx.anc 8 rfl)) fun ρ β W X cx => run_slice_lo (l := 508) rfl (by kernel_rfl) (cx.anc 11 rfl) (cx.sees.const _) (by omega) (by omega)
      · exact sv0_on rfl rfl rfl rfl rfl rfl (fun _ _ _ h => h) (fun _ _ _ _ cx => (cx.anc 8 rfl)) fun ρ β W X cx => run_strne rfl (cx.anc 10 rfl) (cx.anc 12 rfl)
      · exact sv0 rfl rfl rfl rfl rfl (fun _ _ _ h => h) fun ρ β W X cx => run_pick_f rfl (cx.anc 8 rfl) (Eq.trans (cx.anc 13 rfl) (congrArg Value.bool hd6))
    intro σ β X W4 hD hX hst4 fr hfr
    have dD12 : σ 12 = _ := hD 0 lq
    have dD13 : σ 13 = _ := hD 1 lq
    have dD14 : σ 14 = _ := hD 2 lq
    have dD15 : σ 15 = _ := hD 3 lq
    have dD16 : σ 16 = _ := hD 4 lq
    have dD17 : σ 17 = _ := hD 5 lq
    have dD18 : σ 18 = _ := hD 6 lq
    have dD19 : σ 19 = _ := hD 7 lq
    have dD20 : σ 20 = _ := hD 8 lq
    have dD21 : σ 21 = _ := hD 9 lq
    have dD22 : σ 22 = _ := hD 10 lq
    have dD23 : σ 23 = _ := hD 11 lq
    have dD24 : σ 24 = _ := hD 12 lq
    have dD25 : σ 25 = _ := hD 13 lq
    have dD26 : σ 26 = _ := hD 14 lq
    have xX0 : X 0 = _ := hX 0 _ rfl
    simp only [List.map_cons, List.map_nil, xX0] at hst4
    rw [show dstsU _ = [12, 13, 14, 15, 16, 17, 18, 19, 20, 21, 22, 23, 24, 25, 26] by kernel_rfl] at hfr
    simp only [List.map_cons, List.map_nil, putAll, List.setIfInBounds_toArray, List.set_cons_succ, List.set_cons_zero, dD12, dD13, dD14, dD15, dD16, dD17, dD18, dD19, dD20, dD21, dD22, dD23, dD24, dD25, dD26] at hfr
    clear hX hD dD12 dD13 dD14 dD15 dD16 dD17 dD18 dD19 dD20 dD21 dD22 dD23 dD24 dD25 dD26 xX0
    subst hfr
    clear σ β X
    refine then_normal ?_
    refine wp_cond_true (show Act.eval _ _ = .bool true from rfl) ?_
    refine wp_seq ?_
    refine wp_region_W (by kernel_rfl) [0, 1] [[], [0]] [[], [1]] [[], [0]] (fun ix σ β X => match ix with | 0 => σ 27 = .agg #[.int .i64 0, .int .i64 0, .slice none 0 0, .int .i64 12] | 1 => X 1 = eB B2_1 49 #[.int .i64 0, .int .i64 0, .slice none 0 0, .int .i64 12] | _ => True) [1] (by kernel_rfl) (by kernel_rfl) (by kernel_rfl) (by kernel_rfl) ?_ hst4 ?_ ?_
    · exact fun ix _ _ _ _ _ _ hs hb hx h => match ix, h with
        | 0, h => (hs 27 rfl).symm.trans h
        | 1, h => by dsimp only at h ⊢; rw [← hx 1 rfl]; exact h
        | _ + 2, _ => trivial
    · refine ⟨⟨trivial, ?_⟩, ?_⟩
      · exact sv0 rfl rfl rfl rfl rfl (fun _ _ _ h => h) fun ρ β W X cx => by
          simp [go_sem, cx.sees.const] <;> rfl
      · refine sv_any rfl rfl fun ρ β W X cx => ?_
        exact dv_store (n := 4) rfl (cx.out 2 rfl) (cx.anc 0 rfl) (by kernel_rfl) rfl rfl cx (cx.init 0 _ rfl) rfl (Nat.le_of_ble_eq_true rfl) rfl rfl rfl rfl (fun σ β' X' hs hb hx => hx)
    intro σ β X W7 hD hX hst7 fr hfr
    have dD27 : σ 27 = _ := hD 0 lq
    have xX1 : X 1 = _ := (hD 1 lq)
    simp only [List.map_cons, List.map_nil, xX1] at hst7
    rw [show dstsU _ = [27] by kernel_rfl] at hfr
    simp only [List.map_cons, List.map_nil, putAll, List.setIfInBounds_toArray, List.set_cons_succ, List.set_cons_zero, dD27] at hfr
    clear hX hD dD27 xX1
    subst hfr
    clear σ β X
    refine then_normal ?_
    refine wp_ret ?_
    refine then_ret ?_
    have hr8 : W7.cell? ⟨B2_1, 0, none⟩ = some (.int .i64 0) := (hst7.blk 0 rfl).cell 0
    have hr9 : W7.cell? ⟨B2_1, 1, none⟩ = some (.int .i64 0) := (hst7.blk 0 rfl).cell 1
    have hr10 : W7.cell? ⟨B2_1, 2, none⟩ = some (.slice none 0 0) := (hst7.blk 0 rfl).cell 2
    have hr11 : W7.cell? ⟨B2_1, 3, none⟩ = some (.int .i64 12) := (hst7.blk 0 rfl).cell 3
    refine bodyPost_ret (v := .agg #[.int .i64 0, .int .i64 0, .slice none 0 0, .int .i64 12]) (by simp [results, Try.results38, go_sem, hr8, hr9, hr10, hr11]) rfl ?_
    rw [HX.out]; exact GotPost.zero hst7.ext
  · have h4 : ((putS (q : Int) 4).toList == (s.extract 0 4).toList) = false := by rw [e1]; exact decide_eq_false hq0
    have H4 := Lib.hid h4
    clear e1 e2 h3 hq0 h4
    go_enter Try.func38, Try.ntmps38
    have hst0 := St.start w
    refine wp_seq ?_
    refine wp_region_W (by kernel_rfl) [0] [[]] [[0]] [[]] (fun ix σ β X => match ix with | 0 => σ 2 = .pointer (some ⟨(pb (β 2)), 0, none⟩) ∧ X 0 = eB (pb (β 2)) 49 #[.int .i64 0, .int .i64 0, .slice none 0 0, .int .i64 0] | _ => True) [0] (by kernel_rfl) (by kernel_rfl) (by kernel_rfl) (by kernel_rfl) ?_ hst0 ?_ ?_
    · exact fun ix _ _ _ _ _ _ hs hb hx h => match ix, h with
        | 0, h => by dsimp only at h ⊢; rw [← hs 2 rfl, ← hb 2 rfl, ← hx 0 rfl]; exact h
        | _ + 1, _ => trivial
    · refine ⟨trivial, ?_⟩
      · refine sv_any rfl rfl fun ρ β W X cx => ?_
        exact dv_alloc (cs := #[.int .i64 0, .int .i64 0, .slice none 0 0, .int .i64 0]) rfl (by kernel_rfl) rfl rfl (fun σ β' X' hs hb hv hx => ⟨hv, hx⟩)
    intro σ β X W1 hD hX hst1 fr hfr
    obtain ⟨B2_1, hu_B2_1⟩ : ∃ z, pb (β 2) = z := ⟨_, rfl⟩
    have dD2 : σ 2 = _ := (hD 0 lq).1
    have xX0 : X 0 = _ := (hD 0 lq).2
    simp only [List.map_cons, List.map_nil, xX0, hu_B2_1] at hst1
    rw [show dstsU _ = [2] by kernel_rfl] at hfr
    simp only [List.map_cons, List.map_nil, putAll, List.setIfInBounds_toArray, List.set_cons_succ, List.set_cons_zero, dD2, hu_B2_1] at hfr
    clear hX hD dD2 xX0 hu_B2_1
    subst hfr
    clear σ β X
    refine then_normal ?_
    refine wp_seq ?_
    refine wp_seq ?_
    refine wp_region_W (by kernel_rfl) [0, 1, 3] [[], [], []] [[], [], []] [[], [], []] (fun ix σ β X => match ix with | 0 => σ 8 = .string s | 1 => σ 9 = .int .i64 ((s.size : Int)) | 2 => σ 10 = .bool ((s.size : Int) != 512) | _ => True) [0] (by kernel_rfl) (by kernel_rfl) (by kernel_rfl) (by kernel_rfl) ?_ hst1 ?_ ?_
    · exact fun ix _ _ _ _ _ _ hs hb hx h => match ix, h with
        | 0, h => (hs 8 rfl).symm.trans h
        | 1, h => (hs 9 rfl).symm.trans h
        | 2, h => (hs 10 rfl).symm.trans h
        | _ + 3, _ => trivial
    · refine ⟨⟨⟨trivial, ?_⟩, ?_⟩, ?_⟩
      · exact sv0 rfl rfl rfl rfl rfl (fun _ _ _ h => h) fun ρ β W X cx => run_move' rfl (cx.out 0 rfl)
      · exact sv0 rfl rfl rfl rfl rfl (fun _ _ _ h => h) fun ρ β W X cx => run_len_s rfl (by kernel_rfl) (cx.anc 0 rfl)
      · exact sv0 rfl rfl rfl rfl rfl (fun _ _ _ h => h) fun ρ β W X cx => run_bin rfl (cx.anc 1 rfl) (cx.sees.const _) rfl
    intro σ β X W2 hD hX hst2 fr hfr
    have dD8 : σ 8 = _ := hD 0 lq
    have dD9 : σ 9 = _ := hD 1 lq
    have dD10 : σ 10 = _ := hD 2 lq
    have xX0 : X 0 = _ := hX 0 _ rfl
    simp only [List.map_cons, List.map_nil, xX0] at hst2
    rw [show dstsU _ = [8, 9, 10] by kernel_rfl] at hfr
    simp only [List.map_cons, List.map_nil, putAll, List.setIfInBounds_toArray, List.set_cons_succ, List.set_cons_zero, dD8, dD9, dD10] at hfr
    clear hX hD dD8 dD9 dD10 xX0
    subst hfr
    clear σ β X
    refine then_normal ?_
    have hd3 : ((s.size : Int) != 512) = false := by rw [hs]; rfl
    refine wp_cond_false (show Act.eval _ _ = .bool false from (congrArg Value.bool hd3)) ?_
    refine wp_skip ?_
    refine then_normal ?_
    refine wp_seq ?_
    refine wp_seq ?_
    have hd5 : (!((putS (q : Int) 4).toList == (s.extract 0 4).toList)) = true := by rw [H4.out]; rfl
    refine wp_region_W (by kernel_rfl) [0, 1, 3, 7, 15, 0, 32, 127, 255, 511, 1023, 511, 2559, 8191, 16383] [[], [], [], [], [], [], [], [], [], [], [], [], [], [], []] [[], [], [], [], [], [], [], [], [], [], [], [], [], [], []] [[], [], [], [], [], [], [], [], [], [], [], [], [], [], []] (fun ix σ β X => match ix with | 0 => σ 12 = .string s | 1 => σ 13 = .string (s.extract 4 s.size) | 2 => σ 14 = .int .u32 ((q : Int)) | 3 => σ 15 = .int .i64 ((q : Int)) | 4 => σ 16 = .string (putS (q : Int) 4) | 5 => σ 17 = .string s | 6 => σ 18 = .string (s.extract 0 4) | 7 => σ 19 = .bool (!((putS (q : Int) 4).toList == (s.extract 0 4).toList)) | 8 => σ 20 = .bool true | 9 => σ 21 = undef | 10 => σ 22 = undef | 11 => σ 23 = undef | 12 => σ 24 = undef | 13 => σ 25 = undef | 14 => σ 26 = .bool true | _ => True) [0] (by kernel_rfl) (by kernel_rfl) (by kernel_rfl) (by kernel_rfl) ?_ hst2 ?_ ?_
    · exact fun ix _ _ _ _ _ _ hs hb hx h => match ix, h with
        | 0, h => (hs 12 rfl).symm.trans h
        | 1, h => (hs 13 rfl).symm.trans h
        | 2, h => (hs 14 rfl).symm.trans h
        | 3, h => (hs 15 rfl).symm.trans h
        | 4, h => (hs 16 rfl).symm.trans h
        | 5, h => (hs 17 rfl).symm.trans h
        | 6, h => (hs 18 rfl).symm.trans h
        | 7, h => (hs 19 rfl).symm.trans h
        | 8, h => (hs 20 rfl).symm.trans h
        | 9, h => (hs 21 rfl).symm.trans h
        | 10, h => (hs 22 rfl).symm.trans h
        | 11, h => (hs 23 rfl).symm.trans h
        | 12, h => (hs 24 rfl).symm.trans h
        | 13, h => (hs 25 rfl).symm.trans h
        | 14, h => (hs 26 rfl).symm.trans h
        | _ + 15, _ => trivial
    · refine ⟨⟨⟨⟨⟨⟨⟨⟨⟨⟨⟨⟨⟨⟨⟨trivial, ?_⟩, ?_⟩, ?_⟩, ?_⟩, ?_⟩, ?_⟩, ?_⟩, ?_⟩, ?_⟩, ?_⟩, ?_⟩, ?_⟩, ?_⟩, ?_⟩, ?_⟩
      · exact sv0 rfl rfl rfl rfl rfl (fun _ _ _ h => h) fun ρ β W X cx => run_move' rfl (cx.out 0 rfl)
      · exact sv0 rfl rfl rfl rfl rfl (fun _ _ _ h => h) fun ρ β W X cx => run_slice_lo (l := 4) rfl (by kernel_rfl) (cx.anc 0 rfl) (cx.sees.const _) (by omega) (by omega)
      · exact sv_call rfl rfl rfl rfl rfl (fun _ _ _ h => h) fun ρ β W X cx => ⟨_, _, run_callF (args := #[.string (s.extract 4 s.size)]) rfl cx.sees rfl (by kernel_rfl) (map1 (cx.anc 1 rfl)), HSM.out _⟩
      · exact sv0 rfl rfl rfl rfl rfl (fun _ _ _ h => h) fun ρ β W X cx => run_convI rfl (by kernel_rfl) (by kernel_rfl) (cx.anc 2 rfl) (IntWalk.i64_in _ (by omega))
      · exact sv_call rfl rfl rfl rfl rfl (fun _ _ _ h => h) fun ρ β W X cx => ⟨_, _, run_callF (args := #[.int .i64 ((q : Int)), .int .i64 4]) rfl cx.sees rfl (by kernel_rfl) (map2 (cx.anc 3 rfl) (cx.sees.const _)), rput4_any _ _⟩
      · exact sv0 rfl rfl rfl rfl rfl (fun _ _ _ h => h) fun ρ β W X cx => run_move' rfl (cx.out 0 rfl)
      · exact sv0 rfl rfl rfl rfl rfl (fun _ _ _ h => h) fun ρ β W X cx => run_slice_hi (l := 4) rfl (by kernel_rfl) (cx.anc 5 rfl) (cx.sees.const _) (by omega) (by omega)
      · exact sv0 rfl rfl rfl rfl rfl (fun _ _ _ h => h) fun ρ β W X cx => run_strne rfl (cx.anc 4 rfl) (cx.anc 6 rfl)
      · exact sv0 rfl rfl rfl rfl rfl (fun _ _ _ h => h) fun ρ β W X cx => run_move' rfl (Eq.trans (cx.anc 7 rfl) (congrArg Value.bool hd5))
      · exact sv_off rfl rfl rfl (by decide) rfl rfl (fun _ _ _ h => h _ rfl) (fun _ _ _ _ cx => (cx.anc 8 rfl))
      · exact sv_off rfl rfl rfl (by decide) rfl rfl (fun _ _ _ h => h _ rfl) (fun _ _ _ _ cx => (cx.anc 8 rfl))
      · exact sv_off rfl rfl rfl (by decide) rfl rfl (fun _ _ _ h => h _ rfl) (fun _ _ _ _ cx => (cx.anc 8 rfl))
      · exact sv_off rfl rfl rfl (by decide) rfl rfl (fun _ _ _ h => h _ rfl) (fun _ _ _ _ cx => (cx.anc 8 rfl))
      · exact sv_off rfl rfl rfl (by decide) rfl rfl (fun _ _ _ h => h _ rfl) (fun _ _ _ _ cx => (cx.anc 8 rfl))
      · exact sv0 rfl rfl rfl rfl rfl (fun _ _ _ h => h) fun ρ β W X cx => run_pick_t rfl (cx.anc 8 rfl) (cx.sees.const _)
    intro σ β X W4 hD hX hst4 fr hfr
    have dD12 : σ 12 = _ := hD 0 lq
    have dD13 : σ 13 = _ := hD 1 lq
    have dD14 : σ 14 = _ := hD 2 lq
    have dD15 : σ 15 = _ := hD 3 lq
    have dD16 : σ 16 = _ := hD 4 lq
    have dD17 : σ 17 = _ := hD 5 lq
    have dD18 : σ 18 = _ := hD 6 lq
    have dD19 : σ 19 = _ := hD 7 lq
    have dD20 : σ 20 = _ := hD 8 lq
    have dD21 : σ 21 = _ := hD 9 lq
    have dD22 : σ 22 = _ := hD 10 lq
    have dD23 : σ 23 = _ := hD 11 lq
    have dD24 : σ 24 = _ := hD 12 lq
    have dD25 : σ 25 = _ := hD 13 lq
    have dD26 : σ 26 = _ := hD 14 lq
    have xX0 : X 0 = _ := hX 0 _ rfl
    simp only [List.map_cons, List.map_nil, xX0] at hst4
    rw [show dstsU _ = [12, 13, 14, 15, 16, 17, 18, 19, 20, 21, 22, 23, 24, 25, 26] by kernel_rfl] at hfr
    simp only [List.map_cons, List.map_nil, putAll, List.setIfInBounds_toArray, List.set_cons_succ, List.set_cons_zero, dD12, dD13, dD14, dD15, dD16, dD17, dD18, dD19, dD20, dD21, dD22, dD23, dD24, dD25, dD26] at hfr
    clear hX hD dD12 dD13 dD14 dD15 dD16 dD17 dD18 dD19 dD20 dD21 dD22 dD23 dD24 dD25 dD26 xX0
    subst hfr
    clear σ β X
    refine then_normal ?_
    refine wp_cond_true (show Act.eval _ _ = .bool true from rfl) ?_
    refine wp_seq ?_
    refine wp_region_W (by kernel_rfl) [0, 1] [[], [0]] [[], [1]] [[], [0]] (fun ix σ β X => match ix with | 0 => σ 27 = .agg #[.int .i64 0, .int .i64 0, .slice none 0 0, .int .i64 12] | 1 => X 1 = eB B2_1 49 #[.int .i64 0, .int .i64 0, .slice none 0 0, .int .i64 12] | _ => True) [1] (by kernel_rfl) (by kernel_rfl) (by kernel_rfl) (by kernel_rfl) ?_ hst4 ?_ ?_
    · exact fun ix _ _ _ _ _ _ hs hb hx h => match ix, h with
        | 0, h => (hs 27 rfl).symm.trans h
        | 1, h => by dsimp only at h ⊢; rw [← hx 1 rfl]; exact h
        | _ + 2, _ => trivial
    · refine ⟨⟨trivial, ?_⟩, ?_⟩
      · exact sv0 rfl rfl rfl rfl rfl (fun _ _ _ h => h) fun ρ β W X cx => by
          simp [go_sem, cx.sees.const] <;> rfl
      · refine sv_any rfl rfl fun ρ β W X cx => ?_
        exact dv_store (n := 4) rfl (cx.out 2 rfl) (cx.anc 0 rfl) (by kernel_rfl) rfl rfl cx (cx.init 0 _ rfl) rfl (Nat.le_of_ble_eq_true rfl) rfl rfl rfl rfl (fun σ β' X' hs hb hx => hx)
    intro σ β X W6 hD hX hst6 fr hfr
    have dD27 : σ 27 = _ := hD 0 lq
    have xX1 : X 1 = _ := (hD 1 lq)
    simp only [List.map_cons, List.map_nil, xX1] at hst6
    rw [show dstsU _ = [27] by kernel_rfl] at hfr
    simp only [List.map_cons, List.map_nil, putAll, List.setIfInBounds_toArray, List.set_cons_succ, List.set_cons_zero, dD27] at hfr
    clear hX hD dD27 xX1
    subst hfr
    clear σ β X
    refine then_normal ?_
    refine wp_ret ?_
    refine then_ret ?_
    have hr7 : W6.cell? ⟨B2_1, 0, none⟩ = some (.int .i64 0) := (hst6.blk 0 rfl).cell 0
    have hr8 : W6.cell? ⟨B2_1, 1, none⟩ = some (.int .i64 0) := (hst6.blk 0 rfl).cell 1
    have hr9 : W6.cell? ⟨B2_1, 2, none⟩ = some (.slice none 0 0) := (hst6.blk 0 rfl).cell 2
    have hr10 : W6.cell? ⟨B2_1, 3, none⟩ = some (.int .i64 12) := (hst6.blk 0 rfl).cell 3
    refine bodyPost_ret (v := .agg #[.int .i64 0, .int .i64 0, .slice none 0 0, .int .i64 12]) (by simp [results, Try.results38, go_sem, hr7, hr8, hr9, hr10]) rfl ?_
    rw [HX.out]; exact GotPost.zero hst6.ext

set_option maxRecDepth 100000 in
set_option maxHeartbeats 8000000 in
theorem rread_page (s : ByteArray) (w : World) (hs : s.size = 512) (h2 : numS s 0 4 = sumF (s.extract 4 512) ∧ s.extract 5 9 = s.extract 508 512) :
    Calls Try.prog 38 #[.string s] w (GotPost (readX s).1.1 (readX s).1.2 (readX s).2.1 (readX s).2.2 w) := by
  have HX := Lib.hid (fun (xs : List ByteArray) (p : Nat) (f : Bool) (h : txSt s (numS s 9 1) xs p f) => readX_st hs h2 h)
  have HX30 := Lib.hid (fun (h : 30 ≤ numS s 9 1) => readX_many hs h2 h)
  obtain ⟨q, hq⟩ : ∃ z, z = sumF (s.extract 4 s.size) := ⟨_, rfl⟩
  have HSM := Lib.hid (show ∀ w, Calls Try.prog 58 #[.string (s.extract 4 s.size)] w (Ret1 (.int .u32 (q : Int)) w) by
    rw [hq]; exact fun w => rsum_any _ w (by rw [ByteArray.size_extract]; omega))
  have hq32 : q < 4294967296 := by rw [hq]; exact sumF_lt _
  have h3 : numS s 0 4 = q ∧ s.extract 5 9 = s.extract 508 s.size := by rw [hq, hs]; exact h2
  have H5 := Lib.hid (show ((s.extract 5 9).toList == (s.extract 508 s.size).toList) = true by rw [str_dec]; exact decide_eq_true h3.2)
  have H4 := Lib.hid (show ((putS (q : Int) 4).toList == (s.extract 0 4).toList) = true by rw [numS_sum s hs q hq32]; exact decide_eq_true h3.1)
  clear hq h2 h3
  obtain ⟨kk, hkk⟩ : ∃ x, x = ((numS s 4 1 : Nat) : Int) := ⟨_, rfl⟩
  obtain ⟨ll, hll⟩ : ∃ x, x = ((numS s 5 4 : Nat) : Int) := ⟨_, rfl⟩
  obtain ⟨n, hn⟩ : ∃ x, x = numS s 9 1 := ⟨_, rfl⟩
  have N1 := Lib.hid (fun (B : Nat) (w : World) (h : Rd 103 w B s 4 false) => rnum_ok B s 4 1 w h (by omega) (by omega))
  have N2 := Lib.hid (fun (B : Nat) (w : World) (h : Rd 103 w B s 5 false) => rnum_ok B s 5 4 w h (by omega) (by omega))
  have N3 := Lib.hid (fun (B : Nat) (w : World) (h : Rd 103 w B s 9 false) => rnum_ok B s 9 1 w h (by omega) (by omega))
  rw [← hkk] at N1 HX
  rw [← hll] at N2 HX
  rw [← hn] at N3 HX HX30
  clear hkk hll hn
  go_enter Try.func38, Try.ntmps38
  have hst0 := St.start w
  refine wp_seq ?_
  refine wp_region_W (by kernel_rfl) [0] [[]] [[0]] [[]] (fun ix σ β X => match ix with | 0 => σ 2 = .pointer (some ⟨(pb (β 2)), 0, none⟩) ∧ X 0 = eB (pb (β 2)) 49 #[.int .i64 0, .int .i64 0, .slice none 0 0, .int .i64 0] | _ => True) [0] (by kernel_rfl) (by kernel_rfl) (by kernel_rfl) (by kernel_rfl) ?_ hst0 ?_ ?_
  · exact fun ix _ _ _ _ _ _ hs hb hx h => match ix, h with
      | 0, h => by dsimp only at h ⊢; rw [← hs 2 rfl, ← hb 2 rfl, ← hx 0 rfl]; exact h
      | _ + 1, _ => trivial
  · refine ⟨trivial, ?_⟩
    · refine sv_any rfl rfl fun ρ β W X cx => ?_
      exact dv_alloc (cs := #[.int .i64 0, .int .i64 0, .slice none 0 0, .int .i64 0]) rfl (by kernel_rfl) rfl rfl (fun σ β' X' hs hb hv hx => ⟨hv, hx⟩)
  intro σ β X W1 hD hX hst1 fr hfr
  obtain ⟨B2_1, hu_B2_1⟩ : ∃ z, pb (β 2) = z := ⟨_, rfl⟩
  have dD2 : σ 2 = _ := (hD 0 lq).1
  have xX0 : X 0 = _ := (hD 0 lq).2
  simp only [List.map_cons, List.map_nil, xX0, hu_B2_1] at hst1
  rw [show dstsU _ = [2] by kernel_rfl] at hfr
  simp only [List.map_cons, List.map_nil, putAll, List.setIfInBounds_toArray, List.set_cons_succ, List.set_cons_zero, dD2, hu_B2_1] at hfr
  clear hX hD dD2 xX0 hu_B2_1
  subst hfr
  clear σ β X
  refine then_normal ?_
  refine wp_seq ?_
  refine wp_seq ?_
  refine wp_region_W (by kernel_rfl) [0, 1, 3] [[], [], []] [[], [], []] [[], [], []] (fun ix σ β X => match ix with | 0 => σ 8 = .string s | 1 => σ 9 = .int .i64 ((s.size : Int)) | 2 => σ 10 = .bool ((s.size : Int) != 512) | _ => True) [0] (by kernel_rfl) (by kernel_rfl) (by kernel_rfl) (by kernel_rfl) ?_ hst1 ?_ ?_
  · exact fun ix _ _ _ _ _ _ hs hb hx h => match ix, h with
      | 0, h => (hs 8 rfl).symm.trans h
      | 1, h => (hs 9 rfl).symm.trans h
      | 2, h => (hs 10 rfl).symm.trans h
      | _ + 3, _ => trivial
  · refine ⟨⟨⟨trivial, ?_⟩, ?_⟩, ?_⟩
    · exact sv0 rfl rfl rfl rfl rfl (fun _ _ _ h => h) fun ρ β W X cx => run_move' rfl (cx.out 0 rfl)
    · exact sv0 rfl rfl rfl rfl rfl (fun _ _ _ h => h) fun ρ β W X cx => run_len_s rfl (by kernel_rfl) (cx.anc 0 rfl)
    · exact sv0 rfl rfl rfl rfl rfl (fun _ _ _ h => h) fun ρ β W X cx => run_bin rfl (cx.anc 1 rfl) (cx.sees.const _) rfl
  intro σ β X W2 hD hX hst2 fr hfr
  have dD8 : σ 8 = _ := hD 0 lq
  have dD9 : σ 9 = _ := hD 1 lq
  have dD10 : σ 10 = _ := hD 2 lq
  have xX0 : X 0 = _ := hX 0 _ rfl
  simp only [List.map_cons, List.map_nil, xX0] at hst2
  rw [show dstsU _ = [8, 9, 10] by kernel_rfl] at hfr
  simp only [List.map_cons, List.map_nil, putAll, List.setIfInBounds_toArray, List.set_cons_succ, List.set_cons_zero, dD8, dD9, dD10] at hfr
  clear hX hD dD8 dD9 dD10 xX0
  subst hfr
  clear σ β X
  refine then_normal ?_
  have hd3 : ((s.size : Int) != 512) = false := by rw [hs]; rfl
  refine wp_cond_false (show Act.eval _ _ = .bool false from (congrArg Value.bool hd3)) ?_
  refine wp_skip ?_
  refine then_normal ?_
  refine wp_seq ?_
  refine wp_seq ?_
  have hd5 : (!((putS (q : Int) 4).toList == (s.extract 0 4).toList)) = false := by rw [H4.out]; rfl
  have hd6 : (!((s.extract 5 9).toList == (s.extract 508 s.size).toList)) = false := by rw [H5.out]; rfl
  refine wp_region_W (by kernel_rfl) [0, 1, 3, 7, 15, 0, 32, 127, 255, 511, 1023, 511, 2559, 8191, 16383] [[], [], [], [], [], [], [], [], [], [], [], [], [], [], []] [[], [], [], [], [], [], [], [], [], [], [], [], [], [], []] [[], [], [], [], [], [], [], [], [], [], [], [], [], [], []] (fun ix σ β X => match ix with | 0 => σ 12 = .string s | 1 => σ 13 = .string (s.extract 4 s.size) | 2 => σ 14 = .int .u32 ((q : Int)) | 3 => σ 15 = .int .i64 ((q : Int)) | 4 => σ 16 = .string (putS (q : Int) 4) | 5 => σ 17 = .string s | 6 => σ 18 = .string (s.extract 0 4) | 7 => σ 19 = .bool (!((putS (q : Int) 4).toList == (s.extract 0 4).toList)) | 8 => σ 20 = .bool false | 9 => σ 21 = .string s | 10 => σ 22 = .string (s.extract 5 9) | 11 => σ 23 = .string s | 12 => σ 24 = .string (s.extract 508 s.size) | 13 => σ 25 = .bool (!((s.extract 5 9).toList == (s.extract 508 s.size).toList)) | 14 => σ 26 = .bool false | _ => True) [0] (by kernel_rfl) (by kernel_rfl) (by kernel_rfl) (by kernel_rfl) ?_ hst2 ?_ ?_
  · exact fun ix _ _ _ _ _ _ hs hb hx h => match ix, h with
      | 0, h => (hs 12 rfl).symm.trans h
      | 1, h => (hs 13 rfl).symm.trans h
      | 2, h => (hs 14 rfl).symm.trans h
      | 3, h => (hs 15 rfl).symm.trans h
      | 4, h => (hs 16 rfl).symm.trans h
      | 5, h => (hs 17 rfl).symm.trans h
      | 6, h => (hs 18 rfl).symm.trans h
      | 7, h => (hs 19 rfl).symm.trans h
      | 8, h => (hs 20 rfl).symm.trans h
      | 9, h => (hs 21 rfl).symm.trans h
      | 10, h => (hs 22 rfl).symm.trans h
      | 11, h => (hs 23 rfl).symm.trans h
      | 12, h => (hs 24 rfl).symm.trans h
      | 13, h => (hs 25 rfl).symm.trans h
      | 14, h => (hs 26 rfl).symm.trans h
      | _ + 15, _ => trivial
  · refine ⟨⟨⟨⟨⟨⟨⟨⟨⟨⟨⟨⟨⟨⟨⟨trivial, ?_⟩, ?_⟩, ?_⟩, ?_⟩, ?_⟩, ?_⟩, ?_⟩, ?_⟩, ?_⟩, ?_⟩, ?_⟩, ?_⟩, ?_⟩, ?_⟩, ?_⟩
    · exact sv0 rfl rfl rfl rfl rfl (fun _ _ _ h => h) fun ρ β W X cx => run_move' rfl (cx.out 0 rfl)
    · exact sv0 rfl rfl rfl rfl rfl (fun _ _ _ h => h) fun ρ β W X cx => run_slice_lo (l := 4) rfl (by kernel_rfl) (cx.anc 0 rfl) (cx.sees.const _) (by omega) (by omega)
    · exact sv_call rfl rfl rfl rfl rfl (fun _ _ _ h => h) fun ρ β W X cx => ⟨_, _, run_callF (args := #[.string (s.extract 4 s.size)]) rfl cx.sees rfl (by kernel_rfl) (map1 (cx.anc 1 rfl)), HSM.out _⟩
    · exact sv0 rfl rfl rfl rfl rfl (fun _ _ _ h => h) fun ρ β W X cx => run_convI rfl (by kernel_rfl) (by kernel_rfl) (cx.anc 2 rfl) (IntWalk.i64_in _ (by omega))
    · exact sv_call rfl rfl rfl rfl rfl (fun _ _ _ h => h) fun ρ β W X cx => ⟨_, _, run_callF (args := #[.int .i64 ((q : Int)), .int .i64 4]) rfl cx.sees rfl (by kernel_rfl) (map2 (cx.anc 3 rfl) (cx.sees.const _)), rput4_any _ _⟩
    · exact sv0 rfl rfl rfl rfl rfl (fun _ _ _ h => h) fun ρ β W X cx => run_move' rfl (cx.out 0 rfl)
    · exact sv0 rfl rfl rfl rfl rfl (fun _ _ _ h => h) fun ρ β W X cx => run_slice_hi (l := 4) rfl (by kernel_rfl) (cx.anc 5 rfl) (cx.sees.const _) (by omega) (by omega)
    · exact sv0 rfl rfl rfl rfl rfl (fun _ _ _ h => h) fun ρ β W X cx => run_strne rfl (cx.anc 4 rfl) (cx.anc 6 rfl)
    · exact sv0 rfl rfl rfl rfl rfl (fun _ _ _ h => h) fun ρ β W X cx => run_move' rfl (Eq.trans (cx.anc 7 rfl) (congrArg Value.bool hd5))
    · exact sv0_on rfl rfl rfl rfl rfl rfl (fun _ _ _ h => h) (fun _ _ _ _ cx => (cx.anc 8 rfl)) fun ρ β W X cx => run_move' rfl (cx.out 0 rfl)
    · exact sv0_on rfl rfl rfl rfl rfl rfl (fun _ _ _ h => h) (fun _ _ _ _ cx => (cx.anc 8 rfl)) fun ρ β W X cx => run_slice_lh (l := 5) (m := 9) rfl (by kernel_rfl) (cx.anc 9 rfl) (cx.sees.const _) (cx.sees.const _) (by omega) (by omega) (by omega) (by omega)
    · exact sv0_on rfl rfl rfl rfl rfl rfl (fun _ _ _ h => h) (fun _ _ _ _ cx => (cx.anc 8 rfl)) fun ρ β W X cx => run_move' rfl (cx.out 0 rfl)
    · exact sv0_on rfl rfl rfl rfl rfl rfl (fun _ _ _ h => h) (fun _ _ _ _ cx => (cx.anc 8 rfl)) fun ρ β W X cx => run_slice_lo (l := 508) rfl (by kernel_rfl) (cx.anc 11 rfl) (cx.sees.const _) (by omega) (by omega)
    · exact sv0_on rfl rfl rfl rfl rfl rfl (fun _ _ _ h => h) (fun _ _ _ _ cx => (cx.anc 8 rfl)) fun ρ β W X cx => run_strne rfl (cx.anc 10 rfl) (cx.anc 12 rfl)
    · exact sv0 rfl rfl rfl rfl rfl (fun _ _ _ h => h) fun ρ β W X cx => run_pick_f rfl (cx.anc 8 rfl) (Eq.trans (cx.anc 13 rfl) (congrArg Value.bool hd6))
  intro σ β X W4 hD hX hst4 fr hfr
  have dD12 : σ 12 = _ := hD 0 lq
  have dD13 : σ 13 = _ := hD 1 lq
  have dD14 : σ 14 = _ := hD 2 lq
  have dD15 : σ 15 = _ := hD 3 lq
  have dD16 : σ 16 = _ := hD 4 lq
  have dD17 : σ 17 = _ := hD 5 lq
  have dD18 : σ 18 = _ := hD 6 lq
  have dD19 : σ 19 = _ := hD 7 lq
  have dD20 : σ 20 = _ := hD 8 lq
  have dD21 : σ 21 = _ := hD 9 lq
  have dD22 : σ 22 = _ := hD 10 lq
  have dD23 : σ 23 = _ := hD 11 lq
  have dD24 : σ 24 = _ := hD 12 lq
  have dD25 : σ 25 = _ := hD 13 lq
  have dD26 : σ 26 = _ := hD 14 lq
  have xX0 : X 0 = _ := hX 0 _ rfl
  simp only [List.map_cons, List.map_nil, xX0] at hst4
  rw [show dstsU _ = [12, 13, 14, 15, 16, 17, 18, 19, 20, 21, 22, 23, 24, 25, 26] by kernel_rfl] at hfr
  simp only [List.map_cons, List.map_nil, putAll, List.setIfInBounds_toArray, List.set_cons_succ, List.set_cons_zero, dD12, dD13, dD14, dD15, dD16, dD17, dD18, dD19, dD20, dD21, dD22, dD23, dD24, dD25, dD26] at hfr
  clear hX hD dD12 dD13 dD14 dD15 dD16 dD17 dD18 dD19 dD20 dD21 dD22 dD23 dD24 dD25 dD26 xX0
  subst hfr
  clear σ β X
  refine then_normal ?_
  refine wp_cond_false (show Act.eval _ _ = .bool false from rfl) ?_
  refine wp_skip ?_
  refine then_normal ?_
  refine wp_seq ?_
  refine wp_region_W (by kernel_rfl) [0, 1, 3, 7] [[], [], [], []] [[], [], [1], []] [[], [], [], []] (fun ix σ β X => match ix with | 0 => σ 28 = .string s | 1 => σ 29 = .agg #[.string s, .int .i64 4, .bool false] | 2 => σ 30 = .pointer (some ⟨(pb (β 30)), 0, none⟩) ∧ X 1 = eB (pb (β 30)) 103 #[.string s, .int .i64 4, .bool false] | 3 => σ 3 = .pointer (some ⟨(pb (β 30)), 0, none⟩) | _ => True) [0, 1] (by kernel_rfl) (by kernel_rfl) (by kernel_rfl) (by kernel_rfl) ?_ hst4 ?_ ?_
  · exact fun ix _ _ _ _ _ _ hs hb hx h => match ix, h with
      | 0, h => (hs 28 rfl).symm.trans h
      | 1, h => (hs 29 rfl).symm.trans h
      | 2, h => by dsimp only at h ⊢; rw [← hs 30 rfl, ← hb 30 rfl, ← hx 1 rfl]; exact h
      | 3, h => by dsimp only at h ⊢; rw [← hs 3 rfl, ← hb 30 rfl]; exact h
      | _ + 4, _ => trivial
  · refine ⟨⟨⟨⟨trivial, ?_⟩, ?_⟩, ?_⟩, ?_⟩
    · exact sv0 rfl rfl rfl rfl rfl (fun _ _ _ h => h) fun ρ β W X cx => run_move' rfl (cx.out 0 rfl)
    · exact sv0 rfl rfl rfl rfl rfl (fun _ _ _ h => h) fun ρ β W X cx => by
        have fF28 : ρ (.tmp 28) = .string s := (cx.anc 0 rfl)
        simp [go_sem, cx.sees.const, fF28] <;> rfl
    · refine sv_any rfl rfl fun ρ β W X cx => ?_
      exact dv_box (cs := #[.string s, .int .i64 4, .bool false]) rfl (cx.anc 1 rfl) rfl rfl rfl (fun σ β' X' hs hb hv hx => ⟨hv, hx⟩)
    · exact sv rfl rfl rfl rfl rfl _ (fun _ _ _ h => h) (fun β β' h => by rw [h 30 (by decide)]) fun ρ β W X cx => run_assign' rfl (cx.anc 2 rfl).1
  intro σ β X W7 hD hX hst7 fr hfr
  obtain ⟨B30_7, hu_B30_7⟩ : ∃ z, pb (β 30) = z := ⟨_, rfl⟩
  have dD28 : σ 28 = _ := hD 0 lq
  have dD29 : σ 29 = _ := hD 1 lq
  have dD30 : σ 30 = _ := (hD 2 lq).1
  have dD3 : σ 3 = _ := hD 3 lq
  have xX0 : X 0 = _ := hX 0 _ rfl
  have xX1 : X 1 = _ := (hD 2 lq).2
  simp only [List.map_cons, List.map_nil, xX0, xX1, hu_B30_7] at hst7
  rw [show dstsU _ = [28, 29, 30, 3] by kernel_rfl] at hfr
  simp only [List.map_cons, List.map_nil, putAll, List.setIfInBounds_toArray, List.set_cons_succ, List.set_cons_zero, dD28, dD29, dD30, dD3, hu_B30_7] at hfr
  clear hX hD dD28 dD29 dD30 dD3 xX0 xX1 hu_B30_7
  subst hfr
  clear σ β X
  refine then_normal ?_
  refine wp_seq ?_
  refine wp_region_W (by kernel_rfl) [0, 1, 0, 7, 15, 0, 63] [[], [1], [], [2], [], [], [4]] [[], [2], [], [3], [], [4], [5]] [[], [1], [], [2], [], [], [4]] (fun ix σ β X => match ix with | 0 => σ 31 = .pointer (some ⟨B30_7, 0, none⟩) | 1 => σ 32 = .int .i64 kk ∧ X 2 = eB B30_7 103 #[.string s, .int .i64 5, .bool false] | 2 => σ 33 = .pointer (some ⟨B30_7, 0, none⟩) | 3 => σ 34 = .int .i64 ll ∧ X 3 = eB B30_7 103 #[.string s, .int .i64 9, .bool false] | 4 => σ 35 = .agg #[.int .i64 kk, .int .i64 ll, .slice none 0 0] | 5 => σ 4 = .pointer (some ⟨(pb (β 4)), 0, none⟩) ∧ X 4 = eB (pb (β 4)) 26 #[.int .i64 0, .int .i64 0, .slice none 0 0] | 6 => X 5 = eB (pb (β 4)) 26 #[.int .i64 kk, .int .i64 ll, .slice none 0 0] | _ => True) [0, 3, 5] (by kernel_rfl) (by kernel_rfl) (by kernel_rfl) (by kernel_rfl) ?_ hst7 ?_ ?_
  · exact fun ix _ _ _ _ _ _ hs hb hx h => match ix, h with
      | 0, h => (hs 31 rfl).symm.trans h
      | 1, h => by dsimp only at h ⊢; rw [← hs 32 rfl, ← hx 2 rfl]; exact h
      | 2, h => (hs 33 rfl).symm.trans h
      | 3, h => by dsimp only at h ⊢; rw [← hs 34 rfl, ← hx 3 rfl]; exact h
      | 4, h => (hs 35 rfl).symm.trans h
      | 5, h => by dsimp only at h ⊢; rw [← hs 4 rfl, ← hb 4 rfl, ← hx 4 rfl]; exact h
      | 6, h => by dsimp only at h ⊢; rw [← hb 4 rfl, ← hx 5 rfl]; exact h
      | _ + 7, _ => trivial
  · refine ⟨⟨⟨⟨⟨⟨⟨trivial, ?_⟩, ?_⟩, ?_⟩, ?_⟩, ?_⟩, ?_⟩, ?_⟩
    · exact sv0 rfl rfl rfl rfl rfl (fun _ _ _ h => h) fun ρ β W X cx => run_move' rfl (cx.out 3 rfl)
    · refine sv_any rfl rfl fun ρ β W X cx => ?_
      refine DoesU.call (run_callF (args := #[.pointer (some ⟨B30_7, 0, none⟩), .int .i64 1]) rfl cx.sees rfl (by kernel_rfl) (map2 (cx.anc 0 rfl) (cx.sees.const _))) ?_
      refine (N1.out _ _ ⟨(cx.blk (cx.init 1 _ rfl) rfl), by omega, by omega⟩).mono ?_
      rintro e W1 ⟨rfl, hrd, hu⟩
      refine ⟨_, rfl, post_mut (cx.init 1 _ rfl) rfl rfl hu hrd.1 (fun σ β' X' hs hb hv hx => ?_)⟩
      exact ⟨(hv 32 rfl).1.trans rfl, hx⟩
    · exact sv0 rfl rfl rfl rfl rfl (fun _ _ _ h => h) fun ρ β W X cx => run_move' rfl (cx.out 3 rfl)
    · refine sv_any rfl rfl fun ρ β W X cx => ?_
      refine DoesU.call (run_callF (args := #[.pointer (some ⟨B30_7, 0, none⟩), .int .i64 4]) rfl cx.sees rfl (by kernel_rfl) (map2 (cx.anc 2 rfl) (cx.sees.const _))) ?_
      refine (N2.out _ _ ⟨(cx.blk (cx.anc 1 rfl).2 rfl), by omega, by omega⟩).mono ?_
      rintro e W1 ⟨rfl, hrd, hu⟩
      refine ⟨_, rfl, post_mut (cx.anc 1 rfl).2 rfl rfl hu hrd.1 (fun σ β' X' hs hb hv hx => ?_)⟩
      exact ⟨(hv 34 rfl).1.trans rfl, hx⟩
    · exact sv0 rfl rfl rfl rfl rfl (fun _ _ _ h => h) fun ρ β W X cx => by
        have fF32 : ρ (.tmp 32) = .int .i64 kk := (cx.anc 1 rfl).1
        have fF34 : ρ (.tmp 34) = .int .i64 ll := (cx.anc 3 rfl).1
        simp [go_sem, cx.sees.const, fF32, fF34] <;> rfl
    · refine sv_any rfl rfl fun ρ β W X cx => ?_
      exact dv_alloc (cs := #[.int .i64 0, .int .i64 0, .slice none 0 0]) rfl (by kernel_rfl) rfl rfl (fun σ β' X' hs hb hv hx => ⟨hv, hx⟩)
    · refine sv_any rfl rfl fun ρ β W X cx => ?_
      exact dv_store (n := 3) rfl (cx.anc 5 rfl).1 (cx.anc 4 rfl) (by kernel_rfl) rfl rfl cx (cx.anc 5 rfl).2 rfl (Nat.le_of_ble_eq_true rfl) rfl rfl rfl rfl (fun σ β' X' hs hb hx => by rw [hb 4]; exact hx)
  intro σ β X W8 hD hX hst8 fr hfr
  obtain ⟨B4_8, hu_B4_8⟩ : ∃ z, pb (β 4) = z := ⟨_, rfl⟩
  have dD31 : σ 31 = _ := hD 0 lq
  have dD32 : σ 32 = _ := (hD 1 lq).1
  have dD33 : σ 33 = _ := hD 2 lq
  have dD34 : σ 34 = _ := (hD 3 lq).1
  have dD35 : σ 35 = _ := hD 4 lq
  have dD4 : σ 4 = _ := (hD 5 lq).1
  have xX0 : X 0 = _ := hX 0 _ rfl
  have xX3 : X 3 = _ := (hD 3 lq).2
  have xX5 : X 5 = _ := (hD 6 lq)
  simp only [List.map_cons, List.map_nil, xX0, xX3, xX5, hu_B4_8] at hst8
  rw [show dstsU _ = [31, 32, 33, 34, 35, 4] by kernel_rfl] at hfr
  simp only [List.map_cons, List.map_nil, putAll, List.setIfInBounds_toArray, List.set_cons_succ, List.set_cons_zero, dD31, dD32, dD33, dD34, dD35, dD4, hu_B4_8] at hfr
  clear hX hD dD31 dD32 dD33 dD34 dD35 dD4 xX0 xX3 xX5 hu_B4_8
  subst hfr
  clear σ β X
  refine then_normal ?_
  refine wp_seq ?_
  refine wp_region_W (by kernel_rfl) [0, 1, 3] [[], [1], []] [[], [3], []] [[], [1], []] (fun ix σ β X => match ix with | 0 => σ 36 = .pointer (some ⟨B30_7, 0, none⟩) | 1 => σ 37 = .int .i64 ((n : Int)) ∧ X 3 = eB B30_7 103 #[.string s, .int .i64 10, .bool false] | 2 => σ 5 = .int .i64 ((n : Int)) | _ => True) [0, 2, 3] (by kernel_rfl) (by kernel_rfl) (by kernel_rfl) (by kernel_rfl) ?_ hst8 ?_ ?_
  · exact fun ix _ _ _ _ _ _ hs hb hx h => match ix, h with
      | 0, h => (hs 36 rfl).symm.trans h
      | 1, h => by dsimp only at h ⊢; rw [← hs 37 rfl, ← hx 3 rfl]; exact h
      | 2, h => (hs 5 rfl).symm.trans h
      | _ + 3, _ => trivial
  · refine ⟨⟨⟨trivial, ?_⟩, ?_⟩, ?_⟩
    · exact sv0 rfl rfl rfl rfl rfl (fun _ _ _ h => h) fun ρ β W X cx => run_move' rfl (cx.out 3 rfl)
    · refine sv_any rfl rfl fun ρ β W X cx => ?_
      refine DoesU.call (run_callF (args := #[.pointer (some ⟨B30_7, 0, none⟩), .int .i64 1]) rfl cx.sees rfl (by kernel_rfl) (map2 (cx.anc 0 rfl) (cx.sees.const _))) ?_
      refine (N3.out _ _ ⟨(cx.blk (cx.init 1 _ rfl) rfl), by omega, by omega⟩).mono ?_
      rintro e W1 ⟨rfl, hrd, hu⟩
      refine ⟨_, rfl, post_mut (cx.init 1 _ rfl) rfl rfl hu hrd.1 (fun σ β' X' hs hb hv hx => ?_)⟩
      exact ⟨(hv 37 rfl).1.trans rfl, hx⟩
    · exact sv0 rfl rfl rfl rfl rfl (fun _ _ _ h => h) fun ρ β W X cx => run_assign' rfl (cx.anc 1 rfl).1
  intro σ β X W9 hD hX hst9 fr hfr
  have dD36 : σ 36 = _ := hD 0 lq
  have dD37 : σ 37 = _ := (hD 1 lq).1
  have dD5 : σ 5 = _ := hD 2 lq
  have xX0 : X 0 = _ := hX 0 _ rfl
  have xX2 : X 2 = _ := hX 2 _ rfl
  have xX3 : X 3 = _ := (hD 1 lq).2
  simp only [List.map_cons, List.map_nil, xX0, xX2, xX3] at hst9
  rw [show dstsU _ = [36, 37, 5] by kernel_rfl] at hfr
  simp only [List.map_cons, List.map_nil, putAll, List.setIfInBounds_toArray, List.set_cons_succ, List.set_cons_zero, dD36, dD37, dD5] at hfr
  clear hX hD dD36 dD37 dD5 xX0 xX2 xX3
  subst hfr
  clear σ β X
  refine then_normal ?_
  refine wp_seq ?_
  refine wp_seq ?_
  refine wp_region_W (by kernel_rfl) [0] [[]] [[]] [[]] (fun ix σ β X => match ix with | 0 => σ 6 = .int .i64 0 | _ => True) [0, 1, 2] (by kernel_rfl) (by kernel_rfl) (by kernel_rfl) (by kernel_rfl) ?_ hst9 ?_ ?_
  · exact fun ix _ _ _ _ _ _ hs hb hx h => match ix, h with
      | 0, h => (hs 6 rfl).symm.trans h
      | _ + 1, _ => trivial
  · refine ⟨trivial, ?_⟩
    · exact sv0 rfl rfl rfl rfl rfl (fun _ _ _ h => h) fun ρ β W X cx => run_assign' rfl (cx.sees.const _)
  intro σ β X W10 hD hX hst10 fr hfr
  have dD6 : σ 6 = _ := hD 0 lq
  have xX0 : X 0 = _ := hX 0 _ rfl
  have xX1 : X 1 = _ := hX 1 _ rfl
  have xX2 : X 2 = _ := hX 2 _ rfl
  simp only [List.map_cons, List.map_nil, xX0, xX1, xX2] at hst10
  rw [show dstsU _ = [6] by kernel_rfl] at hfr
  simp only [List.map_cons, List.map_nil, putAll, List.setIfInBounds_toArray, List.set_cons_succ, List.set_cons_zero, dD6] at hfr
  clear hX hD dD6 xX0 xX1 xX2
  subst hfr
  clear σ β X
  refine then_normal ?_
  refine wp_block ?_
  have hn11 := St.nilrow hst10 9
  refine wp_loopN (fun mz a W => ∃ j : Nat, ∃ xs : List ByteArray, ∃ p : Nat, ∃ f : Bool, ∃ A : Option Addr, ∃ c : Nat, ∃ u12_38 : Value, ∃ u12_39 : Value, ∃ u12_40 : Value, ∃ u12_41 : Value, ∃ u12_42 : Value, ∃ u12_43 : Value, ∃ u12_44 : Value, ∃ u12_45 : Value, ∃ u12_46 : Value, ∃ u12_47 : Value, ∃ u12_48 : Value, ∃ u12_49 : Value, ∃ u12_50 : Value, ∃ u12_51 : Value, ∃ u12_52 : Value, ∃ u12_53 : Value, j ≤ n ∧ j ≤ 30 ∧ txSt s j xs p f ∧ p ≤ s.size ∧ xs.length = j ∧ mz = 30 - j ∧ a = ⟨#[.string s, undef, .pointer (some ⟨B2_1, 0, none⟩), .pointer (some ⟨B30_7, 0, none⟩), .pointer (some ⟨B4_8, 0, none⟩), .int .i64 ((n : Int)), .int .i64 ((j : Int)), undef, .string s, .int .i64 ((s.size : Int)), .bool ((s.size : Int) != 512), undef, .string s, .string (s.extract 4 s.size), .int .u32 ((q : Int)), .int .i64 ((q : Int)), .string (putS (q : Int) 4), .string s, .string (s.extract 0 4), .bool (!((putS (q : Int) 4).toList == (s.extract 0 4).toList)), .bool false, .string s, .string (s.extract 5 9), .string s, .string (s.extract 508 s.size), .bool (!((s.extract 5 9).toList == (s.extract 508 s.size).toList)), .bool false, undef, .string s, .agg #[.string s, .int .i64 4, .bool false], .pointer (some ⟨B30_7, 0, none⟩), .pointer (some ⟨B30_7, 0, none⟩), .int .i64 kk, .pointer (some ⟨B30_7, 0, none⟩), .int .i64 ll, .agg #[.int .i64 kk, .int .i64 ll, .slice none 0 0], .pointer (some ⟨B30_7, 0, none⟩), .int .i64 ((n : Int)), u12_38, u12_39, u12_40, u12_41, u12_42, u12_43, u12_44, u12_45, u12_46, u12_47, u12_48, u12_49, u12_50, u12_51, u12_52, u12_53, undef, undef, undef, undef, undef, undef, undef, undef, undef, undef, undef, undef, undef, undef, undef, undef, undef, undef, undef, undef, undef, undef, undef, undef, undef], []⟩ ∧ St w [] [eB B2_1 49 #[.int .i64 0, .int .i64 0, .slice none 0 0, .int .i64 0], eB B30_7 103 #[.string s, .int .i64 ((p : Int)), .bool f], eB B4_8 26 #[.int .i64 kk, .int .i64 ll, .slice A j c], eO 9 1 (.slice A j c) j (xs.map Value.string)] W) (30 - 0) ?_ ?_
  · -- the loop begins
    have hp13 := hn11.pick [0, 2, 1, 3] (by decide) rfl
    exact ⟨0, [], 10, false, none, 0, (undef), (undef), (undef), (undef), (undef), (undef), (undef), (undef), (undef), (undef), (undef), (undef), (undef), (undef), (undef), (undef), Nat.zero_le _, Nat.zero_le _, txSt.zero s, by omega, rfl, rfl, rfl, hp13⟩
  · -- a round
    rintro n12 a12 W12 ⟨j, xs, p, f, A, c, u12_38, u12_39, u12_40, u12_41, u12_42, u12_43, u12_44, u12_45, u12_46, u12_47, u12_48, u12_49, u12_50, u12_51, u12_52, u12_53, hjn, hj30, hTX, hp, hln, rfl, rfl, hst12⟩
    rcases (show (j < n ∧ j < 30) ∨ (j < n ∧ 30 ≤ j) ∨ n ≤ j by omega) with hcs | hcs | hcs
    · skip
      obtain ⟨x, p', f', TS, hp2⟩ := tx_step' hTX hs hp
      refine wp_seq ?_
      refine wp_seq ?_
      have hd15 : (decide ((j : Int) < (n : Int))) = true := decide_eq_true (by omega)
      have hd16 : (decide ((j : Int) < 30)) = true := decide_eq_true (by omega)
      refine wp_region_W (by kernel_rfl) [0, 0, 3, 7, 15, 31, 63] [[], [], [], [], [], [], []] [[], [], [], [], [], [], []] [[], [], [], [], [], [], []] (fun ix σ β X => match ix with | 0 => σ 38 = .int .i64 ((j : Int)) | 1 => σ 39 = .int .i64 ((n : Int)) | 2 => σ 40 = .bool (decide ((j : Int) < (n : Int))) | 3 => σ 41 = .bool true | 4 => σ 42 = .int .i64 ((j : Int)) | 5 => σ 43 = .bool (decide ((j : Int) < 30)) | 6 => σ 44 = .bool true | _ => True) [0, 1, 2, 3] (by kernel_rfl) (by kernel_rfl) (by kernel_rfl) (by kernel_rfl) ?_ hst12 ?_ ?_
      · exact fun ix _ _ _ _ _ _ hs hb hx h => match ix, h with
          | 0, h => (hs 38 rfl).symm.trans h
          | 1, h => (hs 39 rfl).symm.trans h
          | 2, h => (hs 40 rfl).symm.trans h
          | 3, h => (hs 41 rfl).symm.trans h
          | 4, h => (hs 42 rfl).symm.trans h
          | 5, h => (hs 43 rfl).symm.trans h
          | 6, h => (hs 44 rfl).symm.trans h
          | _ + 7, _ => trivial
      · refine ⟨⟨⟨⟨⟨⟨⟨trivial, ?_⟩, ?_⟩, ?_⟩, ?_⟩, ?_⟩, ?_⟩, ?_⟩
        · exact sv0 rfl rfl rfl rfl rfl (fun _ _ _ h => h) fun ρ β W X cx => run_move' rfl (cx.out 6 rfl)
        · exact sv0 rfl rfl rfl rfl rfl (fun _ _ _ h => h) fun ρ β W X cx => run_move' rfl (cx.out 5 rfl)
        · exact sv0 rfl rfl rfl rfl rfl (fun _ _ _ h => h) fun ρ β W X cx => run_bin rfl (cx.anc 0 rfl) (cx.anc 1 rfl) rfl
        · exact sv0 rfl rfl rfl rfl rfl (fun _ _ _ h => h) fun ρ β W X cx => run_move' rfl (Eq.trans (cx.anc 2 rfl) (congrArg Value.bool hd15))
        · exact sv0_on rfl rfl rfl rfl rfl rfl (fun _ _ _ h => h) (fun _ _ _ _ cx => (cx.anc 3 rfl)) fun ρ β W X cx => run_move' rfl (cx.out 6 rfl)
        · exact sv0_on rfl rfl rfl rfl rfl rfl (fun _ _ _ h => h) (fun _ _ _ _ cx => (cx.anc 3 rfl)) fun ρ β W X cx => run_bin rfl (cx.anc 4 rfl) (cx.sees.const _) rfl
        · exact sv0 rfl rfl rfl rfl rfl (fun _ _ _ h => h) fun ρ β W X cx => run_pick_t rfl (cx.anc 3 rfl) (Eq.trans (cx.anc 5 rfl) (congrArg Value.bool hd16))
      intro σ β X W14 hD hX hst14 fr hfr
      have dD38 : σ 38 = _ := hD 0 lq
      have dD39 : σ 39 = _ := hD 1 lq
      have dD40 : σ 40 = _ := hD 2 lq
      have dD41 : σ 41 = _ := hD 3 lq
      have dD42 : σ 42 = _ := hD 4 lq
      have dD43 : σ 43 = _ := hD 5 lq
      have dD44 : σ 44 = _ := hD 6 lq
      have xX0 : X 0 = _ := hX 0 _ rfl
      have xX1 : X 1 = _ := hX 1 _ rfl
      have xX2 : X 2 = _ := hX 2 _ rfl
      have xX3 : X 3 = _ := hX 3 _ rfl
      simp only [List.map_cons, List.map_nil, xX0, xX1, xX2, xX3] at hst14
      rw [show dstsU _ = [38, 39, 40, 41, 42, 43, 44] by kernel_rfl] at hfr
      simp only [List.map_cons, List.map_nil, putAll, List.setIfInBounds_toArray, List.set_cons_succ, List.set_cons_zero, dD38, dD39, dD40, dD41, dD42, dD43, dD44] at hfr
      clear hX hD dD38 dD39 dD40 dD41 dD42 dD43 dD44 xX0 xX1 xX2 xX3
      subst hfr
      clear σ β X
      refine then_normal ?_
      refine wp_cond_true (show Act.eval _ _ = .bool true from rfl) ?_
      refine wp_skip ?_
      refine then_normal ?_
      refine wp_seq ?_
      refine wp_block ?_
      refine wp_region_W (by kernel_rfl) [0, 1, 0, 4, 12, 31, 63, 127] [[], [2], [], [1], [], [5, 3], [], [2]] [[], [], [], [4], [5], [6], [], [7]] [[], [], [], [1], [], [3], [], [2]] (fun ix σ β X => match ix with | 0 => σ 47 = .pointer (some ⟨B4_8, 2, none⟩) | 1 => σ 48 = .slice A j c | 2 => σ 49 = .pointer (some ⟨B30_7, 0, none⟩) | 3 => σ 50 = .string x ∧ X 4 = eB B30_7 103 #[.string s, .int .i64 ((p' : Int)), .bool (f')] | 4 => σ 51 = .slice (sA (β 51)) 1 1 ∧ X 5 = eO 9 1 (.slice (sA (β 51)) 1 1) 1 ([.string x]) | 5 => σ 52 = .slice (sA (β 52)) (j + 1) (sC (β 52)) ∧ X 6 = eO 9 1 (.slice (sA (β 52)) (j + 1) (sC (β 52))) (j + 1) ((xs ++ [x]).map Value.string) | 6 => σ 53 = .pointer (some ⟨B4_8, 2, none⟩) | 7 => X 7 = eB B4_8 26 #[.int .i64 kk, .int .i64 ll, .slice (sA (β 52)) (j + 1) (sC (β 52))] | _ => True) [0, 4, 5, 6, 7] (by kernel_rfl) (by kernel_rfl) (by kernel_rfl) (by kernel_rfl) ?_ hst14 ?_ ?_
      · exact fun ix _ _ _ _ _ _ hs hb hx h => match ix, h with
          | 0, h => (hs 47 rfl).symm.trans h
          | 1, h => (hs 48 rfl).symm.trans h
          | 2, h => (hs 49 rfl).symm.trans h
          | 3, h => by dsimp only at h ⊢; rw [← hs 50 rfl, ← hx 4 rfl]; exact h
          | 4, h => by dsimp only at h ⊢; rw [← hs 51 rfl, ← hb 51 rfl, ← hx 5 rfl]; exact h
          | 5, h => by dsimp only at h ⊢; rw [← hs 52 rfl, ← hb 52 rfl, ← hx 6 rfl]; exact h
          | 6, h => (hs 53 rfl).symm.trans h
          | 7, h => by dsimp only at h ⊢; rw [← hb 52 rfl, ← hx 7 rfl]; exact h
          | _ + 8, _ => trivial
      · refine ⟨⟨⟨⟨⟨⟨⟨⟨trivial, ?_⟩, ?_⟩, ?_⟩, ?_⟩, ?_⟩, ?_⟩, ?_⟩, ?_⟩
        · exact sv0 rfl rfl rfl rfl rfl (fun _ _ _ h => h) fun ρ β W X cx => run_fieldAddr' (k := 2) (n := 2) rfl (by kernel_rfl) (cx.out 4 rfl) rfl
        · exact sv0 rfl rfl rfl rfl rfl (fun _ _ _ h => h) fun ρ β W X cx => run_load1 rfl (by kernel_rfl) (cx.anc 0 rfl) ((cx.blk (cx.init 2 _ rfl) rfl).cell 2)
        · exact sv0 rfl rfl rfl rfl rfl (fun _ _ _ h => h) fun ρ β W X cx => run_move' rfl (cx.out 3 rfl)
        · refine sv_any rfl rfl fun ρ β W X cx => ?_
          refine DoesU.call (run_callF (args := #[.pointer (some ⟨B30_7, 0, none⟩)]) rfl cx.sees rfl (by kernel_rfl) (map1 (cx.anc 2 rfl))) ?_
          refine (TS.ref _ _ ⟨(cx.blk (cx.init 1 _ rfl) rfl), hp, by omega⟩).mono ?_
          rintro e W1 ⟨rfl, hrd, hu⟩
          refine ⟨_, rfl, post_mut (cx.init 1 _ rfl) rfl rfl hu hrd.1 (fun σ β' X' hs hb hv hx => ?_)⟩
          exact ⟨(hv 50 rfl).1.trans rfl, hx⟩
        · refine sv_any rfl rfl fun ρ β W X cx => ?_
          have fF50 : ρ (.tmp 50) = .string x := (cx.anc 3 rfl).1
          exact dv_lit (e := 9) (xs := [.string x]) rfl (by simp [go_sem, fF50, cx.sees.const]) rfl (by decide) rfl rfl (fun σ β' X' hs hb hv hx => ⟨hv, hx⟩)
        · refine sv_any rfl rfl fun ρ β W X cx => ?_
          obtain ⟨i0, hi0, hz0, hz1, hz2⟩ := info_parts Try.infoStr
          refine dv_append (n := j) (m := 1) (nm := j + 1) (xs := xs.map Value.string) (news := [.string x]) (xs' := (xs ++ [x]).map Value.string) rfl (ty := 22) rfl (by kernel_rfl) hi0 hz0 hz1 hz2 rfl (cx.anc 1 rfl) cx (cx.init 3 _ rfl) rfl (cx.anc 4 rfl).1 (by first | (simp; done) | (simp; omega)) (At.of_own (cx.row (cx.anc 4 rfl).2 rfl)) (by simp [Value.oneCell']) (by simp only [maxLen]; omega) (by omega) rfl rfl rfl (by omega) (by simp) (fun σ β' X' hs hb hv hx => ?_)
          exact ⟨hv, hx⟩
        · exact sv0 rfl rfl rfl rfl rfl (fun _ _ _ h => h) fun ρ β W X cx => run_fieldAddr' (k := 2) (n := 2) rfl (by kernel_rfl) (cx.out 4 rfl) rfl
        · refine sv_any rfl rfl fun ρ β W X cx => ?_
          exact dv_store (n := 1) rfl (cx.anc 6 rfl) (cx.anc 5 rfl).1 (by kernel_rfl) rfl rfl cx (cx.init 2 _ rfl) rfl (Nat.le_of_ble_eq_true rfl) rfl rfl rfl rfl (fun σ β' X' hs hb hx => by rw [hb 52]; exact hx)
      intro σ β X W17 hD hX hst17 fr hfr
      obtain ⟨A51_17, hu_A51_17⟩ : ∃ z, sA (β 51) = z := ⟨_, rfl⟩
      obtain ⟨A52_17, hu_A52_17⟩ : ∃ z, sA (β 52) = z := ⟨_, rfl⟩
      obtain ⟨c52_17, hu_c52_17⟩ : ∃ z, sC (β 52) = z := ⟨_, rfl⟩
      have dD47 : σ 47 = _ := hD 0 lq
      have dD48 : σ 48 = _ := hD 1 lq
      have dD49 : σ 49 = _ := hD 2 lq
      have dD50 : σ 50 = _ := (hD 3 lq).1
      have dD51 : σ 51 = _ := (hD 4 lq).1
      have dD52 : σ 52 = _ := (hD 5 lq).1
      have dD53 : σ 53 = _ := hD 6 lq
      have xX0 : X 0 = _ := hX 0 _ rfl
      have xX4 : X 4 = _ := (hD 3 lq).2
      have xX5 : X 5 = _ := (hD 4 lq).2
      have xX6 : X 6 = _ := (hD 5 lq).2
      have xX7 : X 7 = _ := (hD 7 lq)
      simp only [List.map_cons, List.map_nil, xX0, xX4, xX5, xX6, xX7, hu_A51_17, hu_A52_17, hu_c52_17] at hst17
      rw [show dstsU _ = [47, 48, 49, 50, 51, 52, 53] by kernel_rfl] at hfr
      simp only [List.map_cons, List.map_nil, putAll, List.setIfInBounds_toArray, List.set_cons_succ, List.set_cons_zero, dD47, dD48, dD49, dD50, dD51, dD52, dD53, hu_A51_17, hu_A52_17, hu_c52_17] at hfr
      clear hX hD dD47 dD48 dD49 dD50 dD51 dD52 dD53 xX0 xX4 xX5 xX6 xX7 hu_A51_17 hu_A52_17 hu_c52_17
      subst hfr
      clear σ β X
      refine blk_normal ?_
      refine then_normal ?_
      refine wp_region_W (by kernel_rfl) [0, 1, 3] [[], [], []] [[], [], []] [[], [], []] (fun ix σ β X => match ix with | 0 => σ 45 = .int .i64 ((j : Int)) | 1 => σ 46 = .int .i64 ((j : Int) + 1) | 2 => σ 6 = .int .i64 ((j : Int) + 1) | _ => True) [0, 1, 2, 3, 4] (by kernel_rfl) (by kernel_rfl) (by kernel_rfl) (by kernel_rfl) ?_ hst17 ?_ ?_
      · exact fun ix _ _ _ _ _ _ hs hb hx h => match ix, h with
          | 0, h => (hs 45 rfl).symm.trans h
          | 1, h => (hs 46 rfl).symm.trans h
          | 2, h => (hs 6 rfl).symm.trans h
          | _ + 3, _ => trivial
      · refine ⟨⟨⟨trivial, ?_⟩, ?_⟩, ?_⟩
        · exact sv0 rfl rfl rfl rfl rfl (fun _ _ _ h => h) fun ρ β W X cx => run_move' rfl (cx.out 6 rfl)
        · exact sv0 rfl rfl rfl rfl rfl (fun _ _ _ h => h) fun ρ β W X cx => run_bin rfl (cx.anc 0 rfl) (cx.sees.const _) (congrArg (fun z => some (Value.int .i64 z)) ((IntWalk.i64_in _ (by omega)).trans (by omega)))
        · exact sv0 rfl rfl rfl rfl rfl (fun _ _ _ h => h) fun ρ β W X cx => run_assign' rfl (cx.anc 1 rfl)
      intro σ β X W18 hD hX hst18 fr hfr
      have dD45 : σ 45 = _ := hD 0 lq
      have dD46 : σ 46 = _ := hD 1 lq
      have dD6 : σ 6 = _ := hD 2 lq
      have xX0 : X 0 = _ := hX 0 _ rfl
      have xX1 : X 1 = _ := hX 1 _ rfl
      have xX2 : X 2 = _ := hX 2 _ rfl
      have xX3 : X 3 = _ := hX 3 _ rfl
      have xX4 : X 4 = _ := hX 4 _ rfl
      simp only [List.map_cons, List.map_nil, xX0, xX1, xX2, xX3, xX4] at hst18
      rw [show dstsU _ = [45, 46, 6] by kernel_rfl] at hfr
      simp only [List.map_cons, List.map_nil, putAll, List.setIfInBounds_toArray, List.set_cons_succ, List.set_cons_zero, dD45, dD46, dD6] at hfr
      clear hX hD dD45 dD46 dD6 xX0 xX1 xX2 xX3 xX4
      subst hfr
      clear σ β X
      refine then_normal ?_
      refine ⟨30 - ((j + 1)), by omega, ?_⟩
      have hp19 := hst18.pick [0, 1, 4, 3] (by decide) rfl
      exact ⟨(j + 1), (xs ++ [x]), p', f', A52_17, c52_17, (.int .i64 ((j : Int))), (.int .i64 ((n : Int))), (.bool (decide ((j : Int) < (n : Int)))), (.bool true), (.int .i64 ((j : Int))), (.bool (decide ((j : Int) < 30))), (.bool true), (.int .i64 ((j : Int))), (.int .i64 ((j : Int) + 1)), (.pointer (some ⟨B4_8, 2, none⟩)), (.slice A j c), (.pointer (some ⟨B30_7, 0, none⟩)), (.string x), (.slice A51_17 1 1), (.slice A52_17 (j + 1) c52_17), (.pointer (some ⟨B4_8, 2, none⟩)), by omega, by omega, TS.st, hp2, by rw [List.length_append, hln]; rfl, rfl, rfl, hp19⟩
    · skip
      have hj3 : j = 30 := by omega
      have hsm : Small xs := hTX.small (by omega)
      clear hTX
      refine wp_seq ?_
      refine wp_seq ?_
      have hd21 : (decide ((j : Int) < (n : Int))) = true := decide_eq_true (by omega)
      have hd22 : (decide ((j : Int) < 30)) = false := decide_eq_false (by omega)
      refine wp_region_W (by kernel_rfl) [0, 0, 3, 7, 15, 31, 63] [[], [], [], [], [], [], []] [[], [], [], [], [], [], []] [[], [], [], [], [], [], []] (fun ix σ β X => match ix with | 0 => σ 38 = .int .i64 ((j : Int)) | 1 => σ 39 = .int .i64 ((n : Int)) | 2 => σ 40 = .bool (decide ((j : Int) < (n : Int))) | 3 => σ 41 = .bool true | 4 => σ 42 = .int .i64 ((j : Int)) | 5 => σ 43 = .bool (decide ((j : Int) < 30)) | 6 => σ 44 = .bool false | _ => True) [0, 1, 2, 3] (by kernel_rfl) (by kernel_rfl) (by kernel_rfl) (by kernel_rfl) ?_ hst12 ?_ ?_
      · exact fun ix _ _ _ _ _ _ hs hb hx h => match ix, h with
          | 0, h => (hs 38 rfl).symm.trans h
          | 1, h => (hs 39 rfl).symm.trans h
          | 2, h => (hs 40 rfl).symm.trans h
          | 3, h => (hs 41 rfl).symm.trans h
          | 4, h => (hs 42 rfl).symm.trans h
          | 5, h => (hs 43 rfl).symm.trans h
          | 6, h => (hs 44 rfl).symm.trans h
          | _ + 7, _ => trivial
      · refine ⟨⟨⟨⟨⟨⟨⟨trivial, ?_⟩, ?_⟩, ?_⟩, ?_⟩, ?_⟩, ?_⟩, ?_⟩
        · exact sv0 rfl rfl rfl rfl rfl (fun _ _ _ h => h) fun ρ β W X cx => run_move' rfl (cx.out 6 rfl)
        · exact sv0 rfl rfl rfl rfl rfl (fun _ _ _ h => h) fun ρ β W X cx => run_move' rfl (cx.out 5 rfl)
        · exact sv0 rfl rfl rfl rfl rfl (fun _ _ _ h => h) fun ρ β W X cx => run_bin rfl (cx.anc 0 rfl) (cx.anc 1 rfl) rfl
        · exact sv0 rfl rfl rfl rfl rfl (fun _ _ _ h => h) fun ρ β W X cx => run_move' rfl (Eq.trans (cx.anc 2 rfl) (congrArg Value.bool hd21))
        · exact sv0_on rfl rfl rfl rfl rfl rfl (fun _ _ _ h => h) (fun _ _ _ _ cx => (cx.anc 3 rfl)) fun ρ β W X cx => run_move' rfl (cx.out 6 rfl)
        · exact sv0_on rfl rfl rfl rfl rfl rfl (fun _ _ _ h => h) (fun _ _ _ _ cx => (cx.anc 3 rfl)) fun ρ β W X cx => run_bin rfl (cx.anc 4 rfl) (cx.sees.const _) rfl
        · exact sv0 rfl rfl rfl rfl rfl (fun _ _ _ h => h) fun ρ β W X cx => run_pick_t rfl (cx.anc 3 rfl) (Eq.trans (cx.anc 5 rfl) (congrArg Value.bool hd22))
      intro σ β X W20 hD hX hst20 fr hfr
      have dD38 : σ 38 = _ := hD 0 lq
      have dD39 : σ 39 = _ := hD 1 lq
      have dD40 : σ 40 = _ := hD 2 lq
      have dD41 : σ 41 = _ := hD 3 lq
      have dD42 : σ 42 = _ := hD 4 lq
      have dD43 : σ 43 = _ := hD 5 lq
      have dD44 : σ 44 = _ := hD 6 lq
      have xX0 : X 0 = _ := hX 0 _ rfl
      have xX1 : X 1 = _ := hX 1 _ rfl
      have xX2 : X 2 = _ := hX 2 _ rfl
      have xX3 : X 3 = _ := hX 3 _ rfl
      simp only [List.map_cons, List.map_nil, xX0, xX1, xX2, xX3] at hst20
      rw [show dstsU _ = [38, 39, 40, 41, 42, 43, 44] by kernel_rfl] at hfr
      simp only [List.map_cons, List.map_nil, putAll, List.setIfInBounds_toArray, List.set_cons_succ, List.set_cons_zero, dD38, dD39, dD40, dD41, dD42, dD43, dD44] at hfr
      clear hX hD dD38 dD39 dD40 dD41 dD42 dD43 dD44 xX0 xX1 xX2 xX3
      subst hfr
      clear σ β X
      refine then_normal ?_
      refine wp_cond_false (show Act.eval _ _ = .bool false from rfl) ?_
      refine wp_exit ?_
      refine then_exit ?_
      refine then_exit ?_
      refine blk_eq ?_
      refine then_normal ?_
      refine wp_seq ?_
      obtain ⟨T, E, hBY, hTE⟩ : ∃ (T : ByteArray) (E : Int), (∀ (W : World), At W A (xs.map Value.string) → j ≤ c → Calls Try.prog 35 #[.agg #[.int .i64 kk, .int .i64 ll, .slice A j c]] W (Ret1 (.agg #[.string T, .int .i64 E]) W)) ∧ TE T E kk ll xs := by
        rcases hr : rightB kk ll xs with _ | _
        · exact ⟨_, _, fun W h hc => rbytes_not kk ll A j c xs W hln.symm h hsm hc hr, .inr ⟨hr, rfl⟩⟩
        · exact ⟨_, _, fun W h hc => rbytes_right kk ll A j c xs W hln.symm h hc hr, .inl ⟨hr, rfl, rfl⟩⟩
      have HBY := Lib.hid hBY
      have HTE := Lib.hid hTE
      clear hBY hTE
      refine wp_region_W (by kernel_rfl) [0, 1, 0, 7] [[2], [3], [], [4]] [[], [], [4], [5]] [[], [], [], [4]] (fun ix σ β X => match ix with | 0 => σ 54 = .agg #[.int .i64 kk, .int .i64 ll, .slice A j c] | 1 => σ 55 = .agg #[.string T, .int .i64 E] | 2 => σ 7 = .pointer (some ⟨(pb (β 7)), 0, none⟩) ∧ X 4 = eB (pb (β 7)) 72 #[.string ByteArray.empty, .int .i64 0] | 3 => X 5 = eB (pb (β 7)) 72 #[.string T, .int .i64 E] | _ => True) [0, 1, 2, 3, 5] (by kernel_rfl) (by kernel_rfl) (by kernel_rfl) (by kernel_rfl) ?_ hst20 ?_ ?_
      · exact fun ix _ _ _ _ _ _ hs hb hx h => match ix, h with
          | 0, h => (hs 54 rfl).symm.trans h
          | 1, h => (hs 55 rfl).symm.trans h
          | 2, h => by dsimp only at h ⊢; rw [← hs 7 rfl, ← hb 7 rfl, ← hx 4 rfl]; exact h
          | 3, h => by dsimp only at h ⊢; rw [← hb 7 rfl, ← hx 5 rfl]; exact h
          | _ + 4, _ => trivial
      · refine ⟨⟨⟨⟨trivial, ?_⟩, ?_⟩, ?_⟩, ?_⟩
        · exact sv0 rfl rfl rfl rfl rfl (fun _ _ _ h => h) fun ρ β W X cx => run_loadB (n := 3) rfl (by kernel_rfl) (by kernel_rfl) (cx.out 4 rfl) (cx.blk (cx.init 2 _ rfl) rfl) (Nat.le_of_ble_eq_true rfl) rfl
        · exact sv_call rfl rfl rfl rfl rfl (fun _ _ _ h => h) fun ρ β W X cx => ⟨_, _, run_callF (args := #[.agg #[.int .i64 kk, .int .i64 ll, .slice A j c]]) rfl cx.sees rfl (by kernel_rfl) (map1 (cx.anc 0 rfl)), HBY.out _ (At.of_own (cx.row (cx.init 3 _ rfl) rfl)) (eown_cap (cx.row (cx.init 3 _ rfl) rfl))⟩
        · refine sv_any rfl rfl fun ρ β W X cx => ?_
          exact dv_alloc (cs := #[.string ByteArray.empty, .int .i64 0]) rfl (by kernel_rfl) rfl rfl (fun σ β' X' hs hb hv hx => ⟨hv, hx⟩)
        · refine sv_any rfl rfl fun ρ β W X cx => ?_
          exact dv_store (n := 2) rfl (cx.anc 2 rfl).1 (cx.anc 1 rfl) (by kernel_rfl) rfl rfl cx (cx.anc 2 rfl).2 rfl (Nat.le_of_ble_eq_true rfl) rfl rfl rfl rfl (fun σ β' X' hs hb hx => by rw [hb 7]; exact hx)
      intro σ β X W23 hD hX hst23 fr hfr
      obtain ⟨B7_23, hu_B7_23⟩ : ∃ z, pb (β 7) = z := ⟨_, rfl⟩
      have dD54 : σ 54 = _ := hD 0 lq
      have dD55 : σ 55 = _ := hD 1 lq
      have dD7 : σ 7 = _ := (hD 2 lq).1
      have xX0 : X 0 = _ := hX 0 _ rfl
      have xX1 : X 1 = _ := hX 1 _ rfl
      have xX2 : X 2 = _ := hX 2 _ rfl
      have xX3 : X 3 = _ := hX 3 _ rfl
      have xX5 : X 5 = _ := (hD 3 lq)
      simp only [List.map_cons, List.map_nil, xX0, xX1, xX2, xX3, xX5, hu_B7_23] at hst23
      rw [show dstsU _ = [54, 55, 7] by kernel_rfl] at hfr
      simp only [List.map_cons, List.map_nil, putAll, List.setIfInBounds_toArray, List.set_cons_succ, List.set_cons_zero, dD54, dD55, dD7, hu_B7_23] at hfr
      clear hX hD dD54 dD55 dD7 xX0 xX1 xX2 xX3 xX5 hu_B7_23
      subst hfr
      clear σ β X
      refine then_normal ?_
      refine wp_seq ?_
      refine wp_seq ?_
      rcases Bool.eq_false_or_eq_true f with hb1 | hb1
      · skip
        have HB0 := Lib.hid (HX30.out (by omega))
        have hd25 : (f) = true := hb1
        refine wp_region_W (by kernel_rfl) [0, 1, 3, 7, 15, 31, 63, 127, 255, 511, 1023, 2047, 4095, 8191, 16383, 32767, 16383, 131071, 262143] [[], [], [], [1], [], [], [], [], [], [], [], [], [], [], [], [], [], [], []] [[], [], [], [], [], [], [], [], [], [], [], [], [], [], [], [], [], [], []] [[], [], [], [], [], [], [], [], [], [], [], [], [], [], [], [], [], [], []] (fun ix σ β X => match ix with | 0 => σ 56 = .pointer (some ⟨B30_7, 0, none⟩) | 1 => σ 57 = .pointer (some ⟨B30_7, 0, none⟩) | 2 => σ 58 = .pointer (some ⟨B30_7, 2, none⟩) | 3 => σ 59 = .bool f | 4 => σ 60 = .bool true | 5 => σ 61 = undef | 6 => σ 62 = undef | 7 => σ 63 = .bool true | 8 => σ 64 = .bool true | 9 => σ 65 = undef | 10 => σ 66 = undef | 11 => σ 67 = undef | 12 => σ 68 = .bool true | 13 => σ 69 = .bool true | 14 => σ 70 = undef | 15 => σ 71 = undef | 16 => σ 72 = undef | 17 => σ 73 = undef | 18 => σ 74 = .bool true | _ => True) [0, 1, 2, 3, 4] (by kernel_rfl) (by kernel_rfl) (by kernel_rfl) (by kernel_rfl) ?_ hst23 ?_ ?_
        · exact fun ix _ _ _ _ _ _ hs hb hx h => match ix, h with
            | 0, h => (hs 56 rfl).symm.trans h
            | 1, h => (hs 57 rfl).symm.trans h
            | 2, h => (hs 58 rfl).symm.trans h
            | 3, h => (hs 59 rfl).symm.trans h
            | 4, h => (hs 60 rfl).symm.trans h
            | 5, h => (hs 61 rfl).symm.trans h
            | 6, h => (hs 62 rfl).symm.trans h
            | 7, h => (hs 63 rfl).symm.trans h
            | 8, h => (hs 64 rfl).symm.trans h
            | 9, h => (hs 65 rfl).symm.trans h
            | 10, h => (hs 66 rfl).symm.trans h
            | 11, h => (hs 67 rfl).symm.trans h
            | 12, h => (hs 68 rfl).symm.trans h
            | 13, h => (hs 69 rfl).symm.trans h
            | 14, h => (hs 70 rfl).symm.trans h
            | 15, h => (hs 71 rfl).symm.trans h
            | 16, h => (hs 72 rfl).symm.trans h
            | 17, h => (hs 73 rfl).symm.trans h
            | 18, h => (hs 74 rfl).symm.trans h
            | _ + 19, _ => trivial
        · refine ⟨⟨⟨⟨⟨⟨⟨⟨⟨⟨⟨⟨⟨⟨⟨⟨⟨⟨⟨trivial, ?_⟩, ?_⟩, ?_⟩, ?_⟩, ?_⟩, ?_⟩, ?_⟩, ?_⟩, ?_⟩, ?_⟩, ?_⟩, ?_⟩, ?_⟩, ?_⟩, ?_⟩, ?_⟩, ?_⟩, ?_⟩, ?_⟩
          · exact sv0 rfl rfl rfl rfl rfl (fun _ _ _ h => h) fun ρ β W X cx => run_move' rfl (cx.out 3 rfl)
          · exact sv0 rfl rfl rfl rfl rfl (fun _ _ _ h => h) fun ρ β W X cx => run_nilCheck rfl (cx.anc 0 rfl)
          · exact sv0 rfl rfl rfl rfl rfl (fun _ _ _ h => h) fun ρ β W X cx => run_fieldAddr' (k := 2) (n := 2) rfl (by kernel_rfl) (cx.anc 1 rfl) rfl
          · exact sv0 rfl rfl rfl rfl rfl (fun _ _ _ h => h) fun ρ β W X cx => run_load1 rfl (by kernel_rfl) (cx.anc 2 rfl) ((cx.blk (cx.init 1 _ rfl) rfl).cell 2)
          · exact sv0 rfl rfl rfl rfl rfl (fun _ _ _ h => h) fun ρ β W X cx => run_move' rfl (Eq.trans (cx.anc 3 rfl) (congrArg Value.bool hd25))
          · exact sv_off rfl rfl rfl (by decide) rfl rfl (fun _ _ _ h => h _ rfl) (fun _ _ _ _ cx => (cx.anc 4 rfl))
          · exact sv_off rfl rfl rfl (by decide) rfl rfl (fun _ _ _ h => h _ rfl) (fun _ _ _ _ cx => (cx.anc 4 rfl))
          · exact sv0 rfl rfl rfl rfl rfl (fun _ _ _ h => h) fun ρ β W X cx => run_pick_t rfl (cx.anc 4 rfl) (cx.sees.const _)
          · exact sv0 rfl rfl rfl rfl rfl (fun _ _ _ h => h) fun ρ β W X cx => run_move' rfl (cx.anc 7 rfl)
          · exact sv_off rfl rfl rfl (by decide) rfl rfl (fun _ _ _ h => h _ rfl) (fun _ _ _ _ cx => (cx.anc 8 rfl))
          · exact sv_off rfl rfl rfl (by decide) rfl rfl (fun _ _ _ h => h _ rfl) (fun _ _ _ _ cx => (cx.anc 8 rfl))
          · exact sv_off rfl rfl rfl (by decide) rfl rfl (fun _ _ _ h => h _ rfl) (fun _ _ _ _ cx => (cx.anc 8 rfl))
          · exact sv0 rfl rfl rfl rfl rfl (fun _ _ _ h => h) fun ρ β W X cx => run_pick_t rfl (cx.anc 8 rfl) (cx.sees.const _)
          · exact sv0 rfl rfl rfl rfl rfl (fun _ _ _ h => h) fun ρ β W X cx => run_move' rfl (cx.anc 12 rfl)
          · exact sv_off rfl rfl rfl (by decide) rfl rfl (fun _ _ _ h => h _ rfl) (fun _ _ _ _ cx => (cx.anc 13 rfl))
          · exact sv_off rfl rfl rfl (by decide) rfl rfl (fun _ _ _ h => h _ rfl) (fun _ _ _ _ cx => (cx.anc 13 rfl))
          · exact sv_off rfl rfl rfl (by decide) rfl rfl (fun _ _ _ h => h _ rfl) (fun _ _ _ _ cx => (cx.anc 13 rfl))
          · exact sv_off rfl rfl rfl (by decide) rfl rfl (fun _ _ _ h => h _ rfl) (fun _ _ _ _ cx => (cx.anc 13 rfl))
          · exact sv0 rfl rfl rfl rfl rfl (fun _ _ _ h => h) fun ρ β W X cx => run_pick_t rfl (cx.anc 13 rfl) (cx.sees.const _)
        intro σ β X W24 hD hX hst24 fr hfr
        have dD56 : σ 56 = _ := hD 0 lq
        have dD57 : σ 57 = _ := hD 1 lq
        have dD58 : σ 58 = _ := hD 2 lq
        have dD59 : σ 59 = _ := hD 3 lq
        have dD60 : σ 60 = _ := hD 4 lq
        have dD61 : σ 61 = _ := hD 5 lq
        have dD62 : σ 62 = _ := hD 6 lq
        have dD63 : σ 63 = _ := hD 7 lq
        have dD64 : σ 64 = _ := hD 8 lq
        have dD65 : σ 65 = _ := hD 9 lq
        have dD66 : σ 66 = _ := hD 10 lq
        have dD67 : σ 67 = _ := hD 11 lq
        have dD68 : σ 68 = _ := hD 12 lq
        have dD69 : σ 69 = _ := hD 13 lq
        have dD70 : σ 70 = _ := hD 14 lq
        have dD71 : σ 71 = _ := hD 15 lq
        have dD72 : σ 72 = _ := hD 16 lq
        have dD73 : σ 73 = _ := hD 17 lq
        have dD74 : σ 74 = _ := hD 18 lq
        have xX0 : X 0 = _ := hX 0 _ rfl
        have xX1 : X 1 = _ := hX 1 _ rfl
        have xX2 : X 2 = _ := hX 2 _ rfl
        have xX3 : X 3 = _ := hX 3 _ rfl
        have xX4 : X 4 = _ := hX 4 _ rfl
        simp only [List.map_cons, List.map_nil, xX0, xX1, xX2, xX3, xX4] at hst24
        rw [show dstsU _ = [56, 57, 58, 59, 60, 61, 62, 63, 64, 65, 66, 67, 68, 69, 70, 71, 72, 73, 74] by kernel_rfl] at hfr
        simp only [List.map_cons, List.map_nil, putAll, List.setIfInBounds_toArray, List.set_cons_succ, List.set_cons_zero, dD56, dD57, dD58, dD59, dD60, dD61, dD62, dD63, dD64, dD65, dD66, dD67, dD68, dD69, dD70, dD71, dD72, dD73, dD74] at hfr
        clear hX hD dD56 dD57 dD58 dD59 dD60 dD61 dD62 dD63 dD64 dD65 dD66 dD67 dD68 dD69 dD70 dD71 dD72 dD73 dD74 xX0 xX1 xX2 xX3 xX4
        subst hfr
        clear σ β X
        refine then_normal ?_
        refine wp_cond_true (show Act.eval _ _ = .bool true from rfl) ?_
        refine wp_seq ?_
        refine wp_region_W (by kernel_rfl) [0, 1] [[], [0]] [[], [5]] [[], [0]] (fun ix σ β X => match ix with | 0 => σ 75 = .agg #[.int .i64 0, .int .i64 0, .slice none 0 0, .int .i64 22] | 1 => X 5 = eB B2_1 49 #[.int .i64 0, .int .i64 0, .slice none 0 0, .int .i64 22] | _ => True) [1, 2, 3, 4, 5] (by kernel_rfl) (by kernel_rfl) (by kernel_rfl) (by kernel_rfl) ?_ hst24 ?_ ?_
        · exact fun ix _ _ _ _ _ _ hs hb hx h => match ix, h with
            | 0, h => (hs 75 rfl).symm.trans h
            | 1, h => by dsimp only at h ⊢; rw [← hx 5 rfl]; exact h
            | _ + 2, _ => trivial
        · refine ⟨⟨trivial, ?_⟩, ?_⟩
          · exact sv0 rfl rfl rfl rfl rfl (fun _ _ _ h => h) fun ρ β W X cx => by
              simp [go_sem, cx.sees.const] <;> rfl
          · refine sv_any rfl rfl fun ρ β W X cx => ?_
            exact dv_store (n := 4) rfl (cx.out 2 rfl) (cx.anc 0 rfl) (by kernel_rfl) rfl rfl cx (cx.init 0 _ rfl) rfl (Nat.le_of_ble_eq_true rfl) rfl rfl rfl rfl (fun σ β' X' hs hb hx => hx)
        intro σ β X W26 hD hX hst26 fr hfr
        have dD75 : σ 75 = _ := hD 0 lq
        have xX1 : X 1 = _ := hX 1 _ rfl
        have xX2 : X 2 = _ := hX 2 _ rfl
        have xX3 : X 3 = _ := hX 3 _ rfl
        have xX4 : X 4 = _ := hX 4 _ rfl
        have xX5 : X 5 = _ := (hD 1 lq)
        simp only [List.map_cons, List.map_nil, xX1, xX2, xX3, xX4, xX5] at hst26
        rw [show dstsU _ = [75] by kernel_rfl] at hfr
        simp only [List.map_cons, List.map_nil, putAll, List.setIfInBounds_toArray, List.set_cons_succ, List.set_cons_zero, dD75] at hfr
        clear hX hD dD75 xX1 xX2 xX3 xX4 xX5
        subst hfr
        clear σ β X
        refine then_normal ?_
        refine wp_ret ?_
        refine then_ret ?_
        have hr27 : W26.cell? ⟨B2_1, 0, none⟩ = some (.int .i64 0) := (hst26.blk 4 rfl).cell 0
        have hr28 : W26.cell? ⟨B2_1, 1, none⟩ = some (.int .i64 0) := (hst26.blk 4 rfl).cell 1
        have hr29 : W26.cell? ⟨B2_1, 2, none⟩ = some (.slice none 0 0) := (hst26.blk 4 rfl).cell 2
        have hr30 : W26.cell? ⟨B2_1, 3, none⟩ = some (.int .i64 22) := (hst26.blk 4 rfl).cell 3
        refine bodyPost_ret (v := .agg #[.int .i64 0, .int .i64 0, .slice none 0 0, .int .i64 22]) (by simp [results, Try.results38, go_sem, hr27, hr28, hr29, hr30]) rfl ?_
        rw [HB0.out]; exact GotPost.zero hst26.ext
      · skip
        have HB0 := Lib.hid (HX30.out (by omega))
        have hd32 : (f) = false := hb1
        have hd33 : (decide (24 < (n : Int))) = true := decide_eq_true (by omega)
        refine wp_region_W (by kernel_rfl) [0, 1, 3, 7, 15, 31, 63, 127, 255, 511, 1023, 2047, 4095, 8191, 16383, 32767, 16383, 131071, 262143] [[], [], [], [1], [], [], [], [], [], [], [], [], [], [], [], [], [], [], []] [[], [], [], [], [], [], [], [], [], [], [], [], [], [], [], [], [], [], []] [[], [], [], [], [], [], [], [], [], [], [], [], [], [], [], [], [], [], []] (fun ix σ β X => match ix with | 0 => σ 56 = .pointer (some ⟨B30_7, 0, none⟩) | 1 => σ 57 = .pointer (some ⟨B30_7, 0, none⟩) | 2 => σ 58 = .pointer (some ⟨B30_7, 2, none⟩) | 3 => σ 59 = .bool f | 4 => σ 60 = .bool false | 5 => σ 61 = .int .i64 ((n : Int)) | 6 => σ 62 = .bool (decide (24 < (n : Int))) | 7 => σ 63 = .bool true | 8 => σ 64 = .bool true | 9 => σ 65 = undef | 10 => σ 66 = undef | 11 => σ 67 = undef | 12 => σ 68 = .bool true | 13 => σ 69 = .bool true | 14 => σ 70 = undef | 15 => σ 71 = undef | 16 => σ 72 = undef | 17 => σ 73 = undef | 18 => σ 74 = .bool true | _ => True) [0, 1, 2, 3, 4] (by kernel_rfl) (by kernel_rfl) (by kernel_rfl) (by kernel_rfl) ?_ hst23 ?_ ?_
        · exact fun ix _ _ _ _ _ _ hs hb hx h => match ix, h with
            | 0, h => (hs 56 rfl).symm.trans h
            | 1, h => (hs 57 rfl).symm.trans h
            | 2, h => (hs 58 rfl).symm.trans h
            | 3, h => (hs 59 rfl).symm.trans h
            | 4, h => (hs 60 rfl).symm.trans h
            | 5, h => (hs 61 rfl).symm.trans h
            | 6, h => (hs 62 rfl).symm.trans h
            | 7, h => (hs 63 rfl).symm.trans h
            | 8, h => (hs 64 rfl).symm.trans h
            | 9, h => (hs 65 rfl).symm.trans h
            | 10, h => (hs 66 rfl).symm.trans h
            | 11, h => (hs 67 rfl).symm.trans h
            | 12, h => (hs 68 rfl).symm.trans h
            | 13, h => (hs 69 rfl).symm.trans h
            | 14, h => (hs 70 rfl).symm.trans h
            | 15, h => (hs 71 rfl).symm.trans h
            | 16, h => (hs 72 rfl).symm.trans h
            | 17, h => (hs 73 rfl).symm.trans h
            | 18, h => (hs 74 rfl).symm.trans h
            | _ + 19, _ => trivial
        · refine ⟨⟨⟨⟨⟨⟨⟨⟨⟨⟨⟨⟨⟨⟨⟨⟨⟨⟨⟨trivial, ?_⟩, ?_⟩, ?_⟩, ?_⟩, ?_⟩, ?_⟩, ?_⟩, ?_⟩, ?_⟩, ?_⟩, ?_⟩, ?_⟩, ?_⟩, ?_⟩, ?_⟩, ?_⟩, ?_⟩, ?_⟩, ?_⟩
          · exact sv0 rfl rfl rfl rfl rfl (fun _ _ _ h => h) fun ρ β W X cx => run_move' rfl (cx.out 3 rfl)
          · exact sv0 rfl rfl rfl rfl rfl (fun _ _ _ h => h) fun ρ β W X cx => run_nilCheck rfl (cx.anc 0 rfl)
          · exact sv0 rfl rfl rfl rfl rfl (fun _ _ _ h => h) fun ρ β W X cx => run_fieldAddr' (k := 2) (n := 2) rfl (by kernel_rfl) (cx.anc 1 rfl) rfl
          · exact sv0 rfl rfl rfl rfl rfl (fun _ _ _ h => h) fun ρ β W X cx => run_load1 rfl (by kernel_rfl) (cx.anc 2 rfl) ((cx.blk (cx.init 1 _ rfl) rfl).cell 2)
          · exact sv0 rfl rfl rfl rfl rfl (fun _ _ _ h => h) fun ρ β W X cx => run_move' rfl (Eq.trans (cx.anc 3 rfl) (congrArg Value.bool hd32))
          · exact sv0_on rfl rfl rfl rfl rfl rfl (fun _ _ _ h => h) (fun _ _ _ _ cx => (cx.anc 4 rfl)) fun ρ β W X cx => run_move' rfl (cx.out 5 rfl)
          · exact sv0_on rfl rfl rfl rfl rfl rfl (fun _ _ _ h => h) (fun _ _ _ _ cx => (cx.anc 4 rfl)) fun ρ β W X cx => run_bin rfl (cx.anc 5 rfl) (cx.sees.const _) rfl
          · exact sv0 rfl rfl rfl rfl rfl (fun _ _ _ h => h) fun ρ β W X cx => run_pick_f rfl (cx.anc 4 rfl) (Eq.trans (cx.anc 6 rfl) (congrArg Value.bool hd33))
          · exact sv0 rfl rfl rfl rfl rfl (fun _ _ _ h => h) fun ρ β W X cx => run_move' rfl (cx.anc 7 rfl)
          · exact sv_off rfl rfl rfl (by decide) rfl rfl (fun _ _ _ h => h _ rfl) (fun _ _ _ _ cx => (cx.anc 8 rfl))
          · exact sv_off rfl rfl rfl (by decide) rfl rfl (fun _ _ _ h => h _ rfl) (fun _ _ _ _ cx => (cx.anc 8 rfl))
          · exact sv_off rfl rfl rfl (by decide) rfl rfl (fun _ _ _ h => h _ rfl) (fun _ _ _ _ cx => (cx.anc 8 rfl))
          · exact sv0 rfl rfl rfl rfl rfl (fun _ _ _ h => h) fun ρ β W X cx => run_pick_t rfl (cx.anc 8 rfl) (cx.sees.const _)
          · exact sv0 rfl rfl rfl rfl rfl (fun _ _ _ h => h) fun ρ β W X cx => run_move' rfl (cx.anc 12 rfl)
          · exact sv_off rfl rfl rfl (by decide) rfl rfl (fun _ _ _ h => h _ rfl) (fun _ _ _ _ cx => (cx.anc 13 rfl))
          · exact sv_off rfl rfl rfl (by decide) rfl rfl (fun _ _ _ h => h _ rfl) (fun _ _ _ _ cx => (cx.anc 13 rfl))
          · exact sv_off rfl rfl rfl (by decide) rfl rfl (fun _ _ _ h => h _ rfl) (fun _ _ _ _ cx => (cx.anc 13 rfl))
          · exact sv_off rfl rfl rfl (by decide) rfl rfl (fun _ _ _ h => h _ rfl) (fun _ _ _ _ cx => (cx.anc 13 rfl))
          · exact sv0 rfl rfl rfl rfl rfl (fun _ _ _ h => h) fun ρ β W X cx => run_pick_t rfl (cx.anc 13 rfl) (cx.sees.const _)
        intro σ β X W31 hD hX hst31 fr hfr
        have dD56 : σ 56 = _ := hD 0 lq
        have dD57 : σ 57 = _ := hD 1 lq
        have dD58 : σ 58 = _ := hD 2 lq
        have dD59 : σ 59 = _ := hD 3 lq
        have dD60 : σ 60 = _ := hD 4 lq
        have dD61 : σ 61 = _ := hD 5 lq
        have dD62 : σ 62 = _ := hD 6 lq
        have dD63 : σ 63 = _ := hD 7 lq
        have dD64 : σ 64 = _ := hD 8 lq
        have dD65 : σ 65 = _ := hD 9 lq
        have dD66 : σ 66 = _ := hD 10 lq
        have dD67 : σ 67 = _ := hD 11 lq
        have dD68 : σ 68 = _ := hD 12 lq
        have dD69 : σ 69 = _ := hD 13 lq
        have dD70 : σ 70 = _ := hD 14 lq
        have dD71 : σ 71 = _ := hD 15 lq
        have dD72 : σ 72 = _ := hD 16 lq
        have dD73 : σ 73 = _ := hD 17 lq
        have dD74 : σ 74 = _ := hD 18 lq
        have xX0 : X 0 = _ := hX 0 _ rfl
        have xX1 : X 1 = _ := hX 1 _ rfl
        have xX2 : X 2 = _ := hX 2 _ rfl
        have xX3 : X 3 = _ := hX 3 _ rfl
        have xX4 : X 4 = _ := hX 4 _ rfl
        simp only [List.map_cons, List.map_nil, xX0, xX1, xX2, xX3, xX4] at hst31
        rw [show dstsU _ = [56, 57, 58, 59, 60, 61, 62, 63, 64, 65, 66, 67, 68, 69, 70, 71, 72, 73, 74] by kernel_rfl] at hfr
        simp only [List.map_cons, List.map_nil, putAll, List.setIfInBounds_toArray, List.set_cons_succ, List.set_cons_zero, dD56, dD57, dD58, dD59, dD60, dD61, dD62, dD63, dD64, dD65, dD66, dD67, dD68, dD69, dD70, dD71, dD72, dD73, dD74] at hfr
        clear hX hD dD56 dD57 dD58 dD59 dD60 dD61 dD62 dD63 dD64 dD65 dD66 dD67 dD68 dD69 dD70 dD71 dD72 dD73 dD74 xX0 xX1 xX2 xX3 xX4
        subst hfr
        clear σ β X
        refine then_normal ?_
        refine wp_cond_true (show Act.eval _ _ = .bool true from rfl) ?_
        refine wp_seq ?_
        refine wp_region_W (by kernel_rfl) [0, 1] [[], [0]] [[], [5]] [[], [0]] (fun ix σ β X => match ix with | 0 => σ 75 = .agg #[.int .i64 0, .int .i64 0, .slice none 0 0, .int .i64 22] | 1 => X 5 = eB B2_1 49 #[.int .i64 0, .int .i64 0, .slice none 0 0, .int .i64 22] | _ => True) [1, 2, 3, 4, 5] (by kernel_rfl) (by kernel_rfl) (by kernel_rfl) (by kernel_rfl) ?_ hst31 ?_ ?_
        · exact fun ix _ _ _ _ _ _ hs hb hx h => match ix, h with
            | 0, h => (hs 75 rfl).symm.trans h
            | 1, h => by dsimp only at h ⊢; rw [← hx 5 rfl]; exact h
            | _ + 2, _ => trivial
        · refine ⟨⟨trivial, ?_⟩, ?_⟩
          · exact sv0 rfl rfl rfl rfl rfl (fun _ _ _ h => h) fun ρ β W X cx => by
              simp [go_sem, cx.sees.const] <;> rfl
          · refine sv_any rfl rfl fun ρ β W X cx => ?_
            exact dv_store (n := 4) rfl (cx.out 2 rfl) (cx.anc 0 rfl) (by kernel_rfl) rfl rfl cx (cx.init 0 _ rfl) rfl (Nat.le_of_ble_eq_true rfl) rfl rfl rfl rfl (fun σ β' X' hs hb hx => hx)
        intro σ β X W34 hD hX hst34 fr hfr
        have dD75 : σ 75 = _ := hD 0 lq
        have xX1 : X 1 = _ := hX 1 _ rfl
        have xX2 : X 2 = _ := hX 2 _ rfl
        have xX3 : X 3 = _ := hX 3 _ rfl
        have xX4 : X 4 = _ := hX 4 _ rfl
        have xX5 : X 5 = _ := (hD 1 lq)
        simp only [List.map_cons, List.map_nil, xX1, xX2, xX3, xX4, xX5] at hst34
        rw [show dstsU _ = [75] by kernel_rfl] at hfr
        simp only [List.map_cons, List.map_nil, putAll, List.setIfInBounds_toArray, List.set_cons_succ, List.set_cons_zero, dD75] at hfr
        clear hX hD dD75 xX1 xX2 xX3 xX4 xX5
        subst hfr
        clear σ β X
        refine then_normal ?_
        refine wp_ret ?_
        refine then_ret ?_
        have hr35 : W34.cell? ⟨B2_1, 0, none⟩ = some (.int .i64 0) := (hst34.blk 4 rfl).cell 0
        have hr36 : W34.cell? ⟨B2_1, 1, none⟩ = some (.int .i64 0) := (hst34.blk 4 rfl).cell 1
        have hr37 : W34.cell? ⟨B2_1, 2, none⟩ = some (.slice none 0 0) := (hst34.blk 4 rfl).cell 2
        have hr38 : W34.cell? ⟨B2_1, 3, none⟩ = some (.int .i64 22) := (hst34.blk 4 rfl).cell 3
        refine bodyPost_ret (v := .agg #[.int .i64 0, .int .i64 0, .slice none 0 0, .int .i64 22]) (by simp [results, Try.results38, go_sem, hr35, hr36, hr37, hr38]) rfl ?_
        rw [HB0.out]; exact GotPost.zero hst34.ext
    · skip
      have hjn2 : j = n := by omega
      have hsm : Small xs := hTX.small (by omega)
      have HTX : Hid (txSt s n xs p f) := Lib.hid (hjn2 ▸ hTX)
      clear hTX
      refine wp_seq ?_
      refine wp_seq ?_
      have hd40 : (decide ((j : Int) < (n : Int))) = false := decide_eq_false (by omega)
      refine wp_region_W (by kernel_rfl) [0, 0, 3, 7, 15, 31, 63] [[], [], [], [], [], [], []] [[], [], [], [], [], [], []] [[], [], [], [], [], [], []] (fun ix σ β X => match ix with | 0 => σ 38 = .int .i64 ((j : Int)) | 1 => σ 39 = .int .i64 ((n : Int)) | 2 => σ 40 = .bool (decide ((j : Int) < (n : Int))) | 3 => σ 41 = .bool false | 4 => σ 42 = undef | 5 => σ 43 = undef | 6 => σ 44 = .bool false | _ => True) [0, 1, 2, 3] (by kernel_rfl) (by kernel_rfl) (by kernel_rfl) (by kernel_rfl) ?_ hst12 ?_ ?_
      · exact fun ix _ _ _ _ _ _ hs hb hx h => match ix, h with
          | 0, h => (hs 38 rfl).symm.trans h
          | 1, h => (hs 39 rfl).symm.trans h
          | 2, h => (hs 40 rfl).symm.trans h
          | 3, h => (hs 41 rfl).symm.trans h
          | 4, h => (hs 42 rfl).symm.trans h
          | 5, h => (hs 43 rfl).symm.trans h
          | 6, h => (hs 44 rfl).symm.trans h
          | _ + 7, _ => trivial
      · refine ⟨⟨⟨⟨⟨⟨⟨trivial, ?_⟩, ?_⟩, ?_⟩, ?_⟩, ?_⟩, ?_⟩, ?_⟩
        · exact sv0 rfl rfl rfl rfl rfl (fun _ _ _ h => h) fun ρ β W X cx => run_move' rfl (cx.out 6 rfl)
        · exact sv0 rfl rfl rfl rfl rfl (fun _ _ _ h => h) fun ρ β W X cx => run_move' rfl (cx.out 5 rfl)
        · exact sv0 rfl rfl rfl rfl rfl (fun _ _ _ h => h) fun ρ β W X cx => run_bin rfl (cx.anc 0 rfl) (cx.anc 1 rfl) rfl
        · exact sv0 rfl rfl rfl rfl rfl (fun _ _ _ h => h) fun ρ β W X cx => run_move' rfl (Eq.trans (cx.anc 2 rfl) (congrArg Value.bool hd40))
        · exact sv_off rfl rfl rfl (by decide) rfl rfl (fun _ _ _ h => h _ rfl) (fun _ _ _ _ cx => (cx.anc 3 rfl))
        · exact sv_off rfl rfl rfl (by decide) rfl rfl (fun _ _ _ h => h _ rfl) (fun _ _ _ _ cx => (cx.anc 3 rfl))
        · exact sv0 rfl rfl rfl rfl rfl (fun _ _ _ h => h) fun ρ β W X cx => run_pick_f rfl (cx.anc 3 rfl) (cx.sees.const _)
      intro σ β X W39 hD hX hst39 fr hfr
      have dD38 : σ 38 = _ := hD 0 lq
      have dD39 : σ 39 = _ := hD 1 lq
      have dD40 : σ 40 = _ := hD 2 lq
      have dD41 : σ 41 = _ := hD 3 lq
      have dD42 : σ 42 = _ := hD 4 lq
      have dD43 : σ 43 = _ := hD 5 lq
      have dD44 : σ 44 = _ := hD 6 lq
      have xX0 : X 0 = _ := hX 0 _ rfl
      have xX1 : X 1 = _ := hX 1 _ rfl
      have xX2 : X 2 = _ := hX 2 _ rfl
      have xX3 : X 3 = _ := hX 3 _ rfl
      simp only [List.map_cons, List.map_nil, xX0, xX1, xX2, xX3] at hst39
      rw [show dstsU _ = [38, 39, 40, 41, 42, 43, 44] by kernel_rfl] at hfr
      simp only [List.map_cons, List.map_nil, putAll, List.setIfInBounds_toArray, List.set_cons_succ, List.set_cons_zero, dD38, dD39, dD40, dD41, dD42, dD43, dD44] at hfr
      clear hX hD dD38 dD39 dD40 dD41 dD42 dD43 dD44 xX0 xX1 xX2 xX3
      subst hfr
      clear σ β X
      refine then_normal ?_
      refine wp_cond_false (show Act.eval _ _ = .bool false from rfl) ?_
      refine wp_exit ?_
      refine then_exit ?_
      refine then_exit ?_
      refine blk_eq ?_
      refine then_normal ?_
      refine wp_seq ?_
      obtain ⟨T, E, hBY, hTE⟩ : ∃ (T : ByteArray) (E : Int), (∀ (W : World), At W A (xs.map Value.string) → j ≤ c → Calls Try.prog 35 #[.agg #[.int .i64 kk, .int .i64 ll, .slice A j c]] W (Ret1 (.agg #[.string T, .int .i64 E]) W)) ∧ TE T E kk ll xs := by
        rcases hr : rightB kk ll xs with _ | _
        · exact ⟨_, _, fun W h hc => rbytes_not kk ll A j c xs W hln.symm h hsm hc hr, .inr ⟨hr, rfl⟩⟩
        · exact ⟨_, _, fun W h hc => rbytes_right kk ll A j c xs W hln.symm h hc hr, .inl ⟨hr, rfl, rfl⟩⟩
      have HBY := Lib.hid hBY
      have HTE := Lib.hid hTE
      clear hBY hTE
      refine wp_region_W (by kernel_rfl) [0, 1, 0, 7] [[2], [3], [], [4]] [[], [], [4], [5]] [[], [], [], [4]] (fun ix σ β X => match ix with | 0 => σ 54 = .agg #[.int .i64 kk, .int .i64 ll, .slice A j c] | 1 => σ 55 = .agg #[.string T, .int .i64 E] | 2 => σ 7 = .pointer (some ⟨(pb (β 7)), 0, none⟩) ∧ X 4 = eB (pb (β 7)) 72 #[.string ByteArray.empty, .int .i64 0] | 3 => X 5 = eB (pb (β 7)) 72 #[.string T, .int .i64 E] | _ => True) [0, 1, 2, 3, 5] (by kernel_rfl) (by kernel_rfl) (by kernel_rfl) (by kernel_rfl) ?_ hst39 ?_ ?_
      · exact fun ix _ _ _ _ _ _ hs hb hx h => match ix, h with
          | 0, h => (hs 54 rfl).symm.trans h
          | 1, h => (hs 55 rfl).symm.trans h
          | 2, h => by dsimp only at h ⊢; rw [← hs 7 rfl, ← hb 7 rfl, ← hx 4 rfl]; exact h
          | 3, h => by dsimp only at h ⊢; rw [← hb 7 rfl, ← hx 5 rfl]; exact h
          | _ + 4, _ => trivial
      · refine ⟨⟨⟨⟨trivial, ?_⟩, ?_⟩, ?_⟩, ?_⟩
        · exact sv0 rfl rfl rfl rfl rfl (fun _ _ _ h => h) fun ρ β W X cx => run_loadB (n := 3) rfl (by kernel_rfl) (by kernel_rfl) (cx.out 4 rfl) (cx.blk (cx.init 2 _ rfl) rfl) (Nat.le_of_ble_eq_true rfl) rfl
        · exact sv_call rfl rfl rfl rfl rfl (fun _ _ _ h => h) fun ρ β W X cx => ⟨_, _, run_callF (args := #[.agg #[.int .i64 kk, .int .i64 ll, .slice A j c]]) rfl cx.sees rfl (by kernel_rfl) (map1 (cx.anc 0 rfl)), HBY.out _ (At.of_own (cx.row (cx.init 3 _ rfl) rfl)) (eown_cap (cx.row (cx.init 3 _ rfl) rfl))⟩
        · refine sv_any rfl rfl fun ρ β W X cx => ?_
          exact dv_alloc (cs := #[.string ByteArray.empty, .int .i64 0]) rfl (by kernel_rfl) rfl rfl (fun σ β' X' hs hb hv hx => ⟨hv, hx⟩)
        · refine sv_any rfl rfl fun ρ β W X cx => ?_
          exact dv_store (n := 2) rfl (cx.anc 2 rfl).1 (cx.anc 1 rfl) (by kernel_rfl) rfl rfl cx (cx.anc 2 rfl).2 rfl (Nat.le_of_ble_eq_true rfl) rfl rfl rfl rfl (fun σ β' X' hs hb hx => by rw [hb 7]; exact hx)
      intro σ β X W41 hD hX hst41 fr hfr
      obtain ⟨B7_41, hu_B7_41⟩ : ∃ z, pb (β 7) = z := ⟨_, rfl⟩
      have dD54 : σ 54 = _ := hD 0 lq
      have dD55 : σ 55 = _ := hD 1 lq
      have dD7 : σ 7 = _ := (hD 2 lq).1
      have xX0 : X 0 = _ := hX 0 _ rfl
      have xX1 : X 1 = _ := hX 1 _ rfl
      have xX2 : X 2 = _ := hX 2 _ rfl
      have xX3 : X 3 = _ := hX 3 _ rfl
      have xX5 : X 5 = _ := (hD 3 lq)
      simp only [List.map_cons, List.map_nil, xX0, xX1, xX2, xX3, xX5, hu_B7_41] at hst41
      rw [show dstsU _ = [54, 55, 7] by kernel_rfl] at hfr
      simp only [List.map_cons, List.map_nil, putAll, List.setIfInBounds_toArray, List.set_cons_succ, List.set_cons_zero, dD54, dD55, dD7, hu_B7_41] at hfr
      clear hX hD dD54 dD55 dD7 xX0 xX1 xX2 xX3 xX5 hu_B7_41
      subst hfr
      clear σ β X
      refine then_normal ?_
      refine wp_seq ?_
      refine wp_seq ?_
      rcases ways4 f (decide (24 < (n : Int))) (E != 0) (!(T.toList == s.toList)) with hb1 | ⟨hb1, hb2⟩ | ⟨hb1, hb2, hb3⟩ | ⟨hb1, hb2, hb3, hb4⟩ | ⟨hb1, hb2, hb3, hb4⟩
      · skip
        have HXX : Hid (RX s kk ll xs f) := Lib.hid (HX.out xs p f HTX.out)
        have HB0 := Lib.hid (hbad_f HXX.out hb1)
        have hd43 : (f) = true := hb1
        refine wp_region_W (by kernel_rfl) [0, 1, 3, 7, 15, 31, 63, 127, 255, 511, 1023, 2047, 4095, 8191, 16383, 32767, 16383, 131071, 262143] [[], [], [], [1], [], [], [], [], [], [], [], [], [], [], [], [], [], [], []] [[], [], [], [], [], [], [], [], [], [], [], [], [], [], [], [], [], [], []] [[], [], [], [], [], [], [], [], [], [], [], [], [], [], [], [], [], [], []] (fun ix σ β X => match ix with | 0 => σ 56 = .pointer (some ⟨B30_7, 0, none⟩) | 1 => σ 57 = .pointer (some ⟨B30_7, 0, none⟩) | 2 => σ 58 = .pointer (some ⟨B30_7, 2, none⟩) | 3 => σ 59 = .bool f | 4 => σ 60 = .bool true | 5 => σ 61 = undef | 6 => σ 62 = undef | 7 => σ 63 = .bool true | 8 => σ 64 = .bool true | 9 => σ 65 = undef | 10 => σ 66 = undef | 11 => σ 67 = undef | 12 => σ 68 = .bool true | 13 => σ 69 = .bool true | 14 => σ 70 = undef | 15 => σ 71 = undef | 16 => σ 72 = undef | 17 => σ 73 = undef | 18 => σ 74 = .bool true | _ => True) [0, 1, 2, 3, 4] (by kernel_rfl) (by kernel_rfl) (by kernel_rfl) (by kernel_rfl) ?_ hst41 ?_ ?_
        · exact fun ix _ _ _ _ _ _ hs hb hx h => match ix, h with
            | 0, h => (hs 56 rfl).symm.trans h
            | 1, h => (hs 57 rfl).symm.trans h
            | 2, h => (hs 58 rfl).symm.trans h
            | 3, h => (hs 59 rfl).symm.trans h
            | 4, h => (hs 60 rfl).symm.trans h
            | 5, h => (hs 61 rfl).symm.trans h
            | 6, h => (hs 62 rfl).symm.trans h
            | 7, h => (hs 63 rfl).symm.trans h
            | 8, h => (hs 64 rfl).symm.trans h
            | 9, h => (hs 65 rfl).symm.trans h
            | 10, h => (hs 66 rfl).symm.trans h
            | 11, h => (hs 67 rfl).symm.trans h
            | 12, h => (hs 68 rfl).symm.trans h
            | 13, h => (hs 69 rfl).symm.trans h
            | 14, h => (hs 70 rfl).symm.trans h
            | 15, h => (hs 71 rfl).symm.trans h
            | 16, h => (hs 72 rfl).symm.trans h
            | 17, h => (hs 73 rfl).symm.trans h
            | 18, h => (hs 74 rfl).symm.trans h
            | _ + 19, _ => trivial
        · refine ⟨⟨⟨⟨⟨⟨⟨⟨⟨⟨⟨⟨⟨⟨⟨⟨⟨⟨⟨trivial, ?_⟩, ?_⟩, ?_⟩, ?_⟩, ?_⟩, ?_⟩, ?_⟩, ?_⟩, ?_⟩, ?_⟩, ?_⟩, ?_⟩, ?_⟩, ?_⟩, ?_⟩, ?_⟩, ?_⟩, ?_⟩, ?_⟩
          · exact sv0 rfl rfl rfl rfl rfl (fun _ _ _ h => h) fun ρ β W X cx => run_move' rfl (cx.out 3 rfl)
          · exact sv0 rfl rfl rfl rfl rfl (fun _ _ _ h => h) fun ρ β W X cx => run_nilCheck rfl (cx.anc 0 rfl)
          · exact sv0 rfl rfl rfl rfl rfl (fun _ _ _ h => h) fun ρ β W X cx => run_fieldAddr' (k := 2) (n := 2) rfl (by kernel_rfl) (cx.anc 1 rfl) rfl
          · exact sv0 rfl rfl rfl rfl rfl (fun _ _ _ h => h) fun ρ β W X cx => run_load1 rfl (by kernel_rfl) (cx.anc 2 rfl) ((cx.blk (cx.init 1 _ rfl) rfl).cell 2)
          · exact sv0 rfl rfl rfl rfl rfl (fun _ _ _ h => h) fun ρ β W X cx => run_move' rfl (Eq.trans (cx.anc 3 rfl) (congrArg Value.bool hd43))
          · exact sv_off rfl rfl rfl (by decide) rfl rfl (fun _ _ _ h => h _ rfl) (fun _ _ _ _ cx => (cx.anc 4 rfl))
          · exact sv_off rfl rfl rfl (by decide) rfl rfl (fun _ _ _ h => h _ rfl) (fun _ _ _ _ cx => (cx.anc 4 rfl))
          · exact sv0 rfl rfl rfl rfl rfl (fun _ _ _ h => h) fun ρ β W X cx => run_pick_t rfl (cx.anc 4 rfl) (cx.sees.const _)
          · exact sv0 rfl rfl rfl rfl rfl (fun _ _ _ h => h) fun ρ β W X cx => run_move' rfl (cx.anc 7 rfl)
          · exact sv_off rfl rfl rfl (by decide) rfl rfl (fun _ _ _ h => h _ rfl) (fun _ _ _ _ cx => (cx.anc 8 rfl))
          · exact sv_off rfl rfl rfl (by decide) rfl rfl (fun _ _ _ h => h _ rfl) (fun _ _ _ _ cx => (cx.anc 8 rfl))
          · exact sv_off rfl rfl rfl (by decide) rfl rfl (fun _ _ _ h => h _ rfl) (fun _ _ _ _ cx => (cx.anc 8 rfl))
          · exact sv0 rfl rfl rfl rfl rfl (fun _ _ _ h => h) fun ρ β W X cx => run_pick_t rfl (cx.anc 8 rfl) (cx.sees.const _)
          · exact sv0 rfl rfl rfl rfl rfl (fun _ _ _ h => h) fun ρ β W X cx => run_move' rfl (cx.anc 12 rfl)
          · exact sv_off rfl rfl rfl (by decide) rfl rfl (fun _ _ _ h => h _ rfl) (fun _ _ _ _ cx => (cx.anc 13 rfl))
          · exact sv_off rfl rfl rfl (by decide) rfl rfl (fun _ _ _ h => h _ rfl) (fun _ _ _ _ cx => (cx.anc 13 rfl))
          · exact sv_off rfl rfl rfl (by decide) rfl rfl (fun _ _ _ h => h _ rfl) (fun _ _ _ _ cx => (cx.anc 13 rfl))
          · exact sv_off rfl rfl rfl (by decide) rfl rfl (fun _ _ _ h => h _ rfl) (fun _ _ _ _ cx => (cx.anc 13 rfl))
          · exact sv0 rfl rfl rfl rfl rfl (fun _ _ _ h => h) fun ρ β W X cx => run_pick_t rfl (cx.anc 13 rfl) (cx.sees.const _)
        intro σ β X W42 hD hX hst42 fr hfr
        have dD56 : σ 56 = _ := hD 0 lq
        have dD57 : σ 57 = _ := hD 1 lq
        have dD58 : σ 58 = _ := hD 2 lq
        have dD59 : σ 59 = _ := hD 3 lq
        have dD60 : σ 60 = _ := hD 4 lq
        have dD61 : σ 61 = _ := hD 5 lq
        have dD62 : σ 62 = _ := hD 6 lq
        have dD63 : σ 63 = _ := hD 7 lq
        have dD64 : σ 64 = _ := hD 8 lq
        have dD65 : σ 65 = _ := hD 9 lq
        have dD66 : σ 66 = _ := hD 10 lq
        have dD67 : σ 67 = _ := hD 11 lq
        have dD68 : σ 68 = _ := hD 12 lq
        have dD69 : σ 69 = _ := hD 13 lq
        have dD70 : σ 70 = _ := hD 14 lq
        have dD71 : σ 71 = _ := hD 15 lq
        have dD72 : σ 72 = _ := hD 16 lq
        have dD73 : σ 73 = _ := hD 17 lq
        have dD74 : σ 74 = _ := hD 18 lq
        have xX0 : X 0 = _ := hX 0 _ rfl
        have xX1 : X 1 = _ := hX 1 _ rfl
        have xX2 : X 2 = _ := hX 2 _ rfl
        have xX3 : X 3 = _ := hX 3 _ rfl
        have xX4 : X 4 = _ := hX 4 _ rfl
        simp only [List.map_cons, List.map_nil, xX0, xX1, xX2, xX3, xX4] at hst42
        rw [show dstsU _ = [56, 57, 58, 59, 60, 61, 62, 63, 64, 65, 66, 67, 68, 69, 70, 71, 72, 73, 74] by kernel_rfl] at hfr
        simp only [List.map_cons, List.map_nil, putAll, List.setIfInBounds_toArray, List.set_cons_succ, List.set_cons_zero, dD56, dD57, dD58, dD59, dD60, dD61, dD62, dD63, dD64, dD65, dD66, dD67, dD68, dD69, dD70, dD71, dD72, dD73, dD74] at hfr
        clear hX hD dD56 dD57 dD58 dD59 dD60 dD61 dD62 dD63 dD64 dD65 dD66 dD67 dD68 dD69 dD70 dD71 dD72 dD73 dD74 xX0 xX1 xX2 xX3 xX4
        subst hfr
        clear σ β X
        refine then_normal ?_
        refine wp_cond_true (show Act.eval _ _ = .bool true from rfl) ?_
        refine wp_seq ?_
        refine wp_region_W (by kernel_rfl) [0, 1] [[], [0]] [[], [5]] [[], [0]] (fun ix σ β X => match ix with | 0 => σ 75 = .agg #[.int .i64 0, .int .i64 0, .slice none 0 0, .int .i64 22] | 1 => X 5 = eB B2_1 49 #[.int .i64 0, .int .i64 0, .slice none 0 0, .int .i64 22] | _ => True) [1, 2, 3, 4, 5] (by kernel_rfl) (by kernel_rfl) (by kernel_rfl) (by kernel_rfl) ?_ hst42 ?_ ?_
        · exact fun ix _ _ _ _ _ _ hs hb hx h => match ix, h with
            | 0, h => (hs 75 rfl).symm.trans h
            | 1, h => by dsimp only at h ⊢; rw [← hx 5 rfl]; exact h
            | _ + 2, _ => trivial
        · refine ⟨⟨trivial, ?_⟩, ?_⟩
          · exact sv0 rfl rfl rfl rfl rfl (fun _ _ _ h => h) fun ρ β W X cx => by
              simp [go_sem, cx.sees.const] <;> rfl
          · refine sv_any rfl rfl fun ρ β W X cx => ?_
            exact dv_store (n := 4) rfl (cx.out 2 rfl) (cx.anc 0 rfl) (by kernel_rfl) rfl rfl cx (cx.init 0 _ rfl) rfl (Nat.le_of_ble_eq_true rfl) rfl rfl rfl rfl (fun σ β' X' hs hb hx => hx)
        intro σ β X W44 hD hX hst44 fr hfr
        have dD75 : σ 75 = _ := hD 0 lq
        have xX1 : X 1 = _ := hX 1 _ rfl
        have xX2 : X 2 = _ := hX 2 _ rfl
        have xX3 : X 3 = _ := hX 3 _ rfl
        have xX4 : X 4 = _ := hX 4 _ rfl
        have xX5 : X 5 = _ := (hD 1 lq)
        simp only [List.map_cons, List.map_nil, xX1, xX2, xX3, xX4, xX5] at hst44
        rw [show dstsU _ = [75] by kernel_rfl] at hfr
        simp only [List.map_cons, List.map_nil, putAll, List.setIfInBounds_toArray, List.set_cons_succ, List.set_cons_zero, dD75] at hfr
        clear hX hD dD75 xX1 xX2 xX3 xX4 xX5
        subst hfr
        clear σ β X
        refine then_normal ?_
        refine wp_ret ?_
        refine then_ret ?_
        have hr45 : W44.cell? ⟨B2_1, 0, none⟩ = some (.int .i64 0) := (hst44.blk 4 rfl).cell 0
        have hr46 : W44.cell? ⟨B2_1, 1, none⟩ = some (.int .i64 0) := (hst44.blk 4 rfl).cell 1
        have hr47 : W44.cell? ⟨B2_1, 2, none⟩ = some (.slice none 0 0) := (hst44.blk 4 rfl).cell 2
        have hr48 : W44.cell? ⟨B2_1, 3, none⟩ = some (.int .i64 22) := (hst44.blk 4 rfl).cell 3
        refine bodyPost_ret (v := .agg #[.int .i64 0, .int .i64 0, .slice none 0 0, .int .i64 22]) (by simp [results, Try.results38, go_sem, hr45, hr46, hr47, hr48]) rfl ?_
        rw [HB0.out]; exact GotPost.zero hst44.ext
      · skip
        have HXX : Hid (RX s kk ll xs f) := Lib.hid (HX.out xs p f HTX.out)
        have HB0 := Lib.hid (hbad_n HXX.out HTX.out.1 (by have := of_decide_eq_true hb2; omega))
        have hd50 : (f) = false := hb1
        have hd51 : (decide (24 < (n : Int))) = true := hb2
        refine wp_region_W (by kernel_rfl) [0, 1, 3, 7, 15, 31, 63, 127, 255, 511, 1023, 2047, 4095, 8191, 16383, 32767, 16383, 131071, 262143] [[], [], [], [1], [], [], [], [], [], [], [], [], [], [], [], [], [], [], []] [[], [], [], [], [], [], [], [], [], [], [], [], [], [], [], [], [], [], []] [[], [], [], [], [], [], [], [], [], [], [], [], [], [], [], [], [], [], []] (fun ix σ β X => match ix with | 0 => σ 56 = .pointer (some ⟨B30_7, 0, none⟩) | 1 => σ 57 = .pointer (some ⟨B30_7, 0, none⟩) | 2 => σ 58 = .pointer (some ⟨B30_7, 2, none⟩) | 3 => σ 59 = .bool f | 4 => σ 60 = .bool false | 5 => σ 61 = .int .i64 ((n : Int)) | 6 => σ 62 = .bool (decide (24 < (n : Int))) | 7 => σ 63 = .bool true | 8 => σ 64 = .bool true | 9 => σ 65 = undef | 10 => σ 66 = undef | 11 => σ 67 = undef | 12 => σ 68 = .bool true | 13 => σ 69 = .bool true | 14 => σ 70 = undef | 15 => σ 71 = undef | 16 => σ 72 = undef | 17 => σ 73 = undef | 18 => σ 74 = .bool true | _ => True) [0, 1, 2, 3, 4] (by kernel_rfl) (by kernel_rfl) (by kernel_rfl) (by kernel_rfl) ?_ hst41 ?_ ?_
        · exact fun ix _ _ _ _ _ _ hs hb hx h => match ix, h with
            | 0, h => (hs 56 rfl).symm.trans h
            | 1, h => (hs 57 rfl).symm.trans h
            | 2, h => (hs 58 rfl).symm.trans h
            | 3, h => (hs 59 rfl).symm.trans h
            | 4, h => (hs 60 rfl).symm.trans h
            | 5, h => (hs 61 rfl).symm.trans h
            | 6, h => (hs 62 rfl).symm.trans h
            | 7, h => (hs 63 rfl).symm.trans h
            | 8, h => (hs 64 rfl).symm.trans h
            | 9, h => (hs 65 rfl).symm.trans h
            | 10, h => (hs 66 rfl).symm.trans h
            | 11, h => (hs 67 rfl).symm.trans h
            | 12, h => (hs 68 rfl).symm.trans h
            | 13, h => (hs 69 rfl).symm.trans h
            | 14, h => (hs 70 rfl).symm.trans h
            | 15, h => (hs 71 rfl).symm.trans h
            | 16, h => (hs 72 rfl).symm.trans h
            | 17, h => (hs 73 rfl).symm.trans h
            | 18, h => (hs 74 rfl).symm.trans h
            | _ + 19, _ => trivial
        · refine ⟨⟨⟨⟨⟨⟨⟨⟨⟨⟨⟨⟨⟨⟨⟨⟨⟨⟨⟨trivial, ?_⟩, ?_⟩, ?_⟩, ?_⟩, ?_⟩, ?_⟩, ?_⟩, ?_⟩, ?_⟩, ?_⟩, ?_⟩, ?_⟩, ?_⟩, ?_⟩, ?_⟩, ?_⟩, ?_⟩, ?_⟩, ?_⟩
          · exact sv0 rfl rfl rfl rfl rfl (fun _ _ _ h => h) fun ρ β W X cx => run_move' rfl (cx.out 3 rfl)
          · exact sv0 rfl rfl rfl rfl rfl (fun _ _ _ h => h) fun ρ β W X cx => run_nilCheck rfl (cx.anc 0 rfl)
          · exact sv0 rfl rfl rfl rfl rfl (fun _ _ _ h => h) fun ρ β W X cx => run_fieldAddr' (k := 2) (n := 2) rfl (by kernel_rfl) (cx.anc 1 rfl) rfl
          · exact sv0 rfl rfl rfl rfl rfl (fun _ _ _ h => h) fun ρ β W X cx => run_load1 rfl (by kernel_rfl) (cx.anc 2 rfl) ((cx.blk (cx.init 1 _ rfl) rfl).cell 2)
          · exact sv0 rfl rfl rfl rfl rfl (fun _ _ _ h => h) fun ρ β W X cx => run_move' rfl (Eq.trans (cx.anc 3 rfl) (congrArg Value.bool hd50))
          · exact sv0_on rfl rfl rfl rfl rfl rfl (fun _ _ _ h => h) (fun _ _ _ _ cx => (cx.anc 4 rfl)) fun ρ β W X cx => run_move' rfl (cx.out 5 rfl)
          · exact sv0_on rfl rfl rfl rfl rfl rfl (fun _ _ _ h => h) (fun _ _ _ _ cx => (cx.anc 4 rfl)) fun ρ β W X cx => run_bin rfl (cx.anc 5 rfl) (cx.sees.const _) rfl
          · exact sv0 rfl rfl rfl rfl rfl (fun _ _ _ h => h) fun ρ β W X cx => run_pick_f rfl (cx.anc 4 rfl) (Eq.trans (cx.anc 6 rfl) (congrArg Value.bool hd51))
          · exact sv0 rfl rfl rfl rfl rfl (fun _ _ _ h => h) fun ρ β W X cx => run_move' rfl (cx.anc 7 rfl)
          · exact sv_off rfl rfl rfl (by decide) rfl rfl (fun _ _ _ h => h _ rfl) (fun _ _ _ _ cx => (cx.anc 8 rfl))
          · exact sv_off rfl rfl rfl (by decide) rfl rfl (fun _ _ _ h => h _ rfl) (fun _ _ _ _ cx => (cx.anc 8 rfl))
          · exact sv_off rfl rfl rfl (by decide) rfl rfl (fun _ _ _ h => h _ rfl) (fun _ _ _ _ cx => (cx.anc 8 rfl))
          · exact sv0 rfl rfl rfl rfl rfl (fun _ _ _ h => h) fun ρ β W X cx => run_pick_t rfl (cx.anc 8 rfl) (cx.sees.const _)
          · exact sv0 rfl rfl rfl rfl rfl (fun _ _ _ h => h) fun ρ β W X cx => run_move' rfl (cx.anc 12 rfl)
          · exact sv_off rfl rfl rfl (by decide) rfl rfl (fun _ _ _ h => h _ rfl) (fun _ _ _ _ cx => (cx.anc 13 rfl))
          · exact sv_off rfl rfl rfl (by decide) rfl rfl (fun _ _ _ h => h _ rfl) (fun _ _ _ _ cx => (cx.anc 13 rfl))
          · exact sv_off rfl rfl rfl (by decide) rfl rfl (fun _ _ _ h => h _ rfl) (fun _ _ _ _ cx => (cx.anc 13 rfl))
          · exact sv_off rfl rfl rfl (by decide) rfl rfl (fun _ _ _ h => h _ rfl) (fun _ _ _ _ cx => (cx.anc 13 rfl))
          · exact sv0 rfl rfl rfl rfl rfl (fun _ _ _ h => h) fun ρ β W X cx => run_pick_t rfl (cx.anc 13 rfl) (cx.sees.const _)
        intro σ β X W49 hD hX hst49 fr hfr
        have dD56 : σ 56 = _ := hD 0 lq
        have dD57 : σ 57 = _ := hD 1 lq
        have dD58 : σ 58 = _ := hD 2 lq
        have dD59 : σ 59 = _ := hD 3 lq
        have dD60 : σ 60 = _ := hD 4 lq
        have dD61 : σ 61 = _ := hD 5 lq
        have dD62 : σ 62 = _ := hD 6 lq
        have dD63 : σ 63 = _ := hD 7 lq
        have dD64 : σ 64 = _ := hD 8 lq
        have dD65 : σ 65 = _ := hD 9 lq
        have dD66 : σ 66 = _ := hD 10 lq
        have dD67 : σ 67 = _ := hD 11 lq
        have dD68 : σ 68 = _ := hD 12 lq
        have dD69 : σ 69 = _ := hD 13 lq
        have dD70 : σ 70 = _ := hD 14 lq
        have dD71 : σ 71 = _ := hD 15 lq
        have dD72 : σ 72 = _ := hD 16 lq
        have dD73 : σ 73 = _ := hD 17 lq
        have dD74 : σ 74 = _ := hD 18 lq
        have xX0 : X 0 = _ := hX 0 _ rfl
        have xX1 : X 1 = _ := hX 1 _ rfl
        have xX2 : X 2 = _ := hX 2 _ rfl
        have xX3 : X 3 = _ := hX 3 _ rfl
        have xX4 : X 4 = _ := hX 4 _ rfl
        simp only [List.map_cons, List.map_nil, xX0, xX1, xX2, xX3, xX4] at hst49
        rw [show dstsU _ = [56, 57, 58, 59, 60, 61, 62, 63, 64, 65, 66, 67, 68, 69, 70, 71, 72, 73, 74] by kernel_rfl] at hfr
        simp only [List.map_cons, List.map_nil, putAll, List.setIfInBounds_toArray, List.set_cons_succ, List.set_cons_zero, dD56, dD57, dD58, dD59, dD60, dD61, dD62, dD63, dD64, dD65, dD66, dD67, dD68, dD69, dD70, dD71, dD72, dD73, dD74] at hfr
        clear hX hD dD56 dD57 dD58 dD59 dD60 dD61 dD62 dD63 dD64 dD65 dD66 dD67 dD68 dD69 dD70 dD71 dD72 dD73 dD74 xX0 xX1 xX2 xX3 xX4
        subst hfr
        clear σ β X
        refine then_normal ?_
        refine wp_cond_true (show Act.eval _ _ = .bool true from rfl) ?_
        refine wp_seq ?_
        refine wp_region_W (by kernel_rfl) [0, 1] [[], [0]] [[], [5]] [[], [0]] (fun ix σ β X => match ix with | 0 => σ 75 = .agg #[.int .i64 0, .int .i64 0, .slice none 0 0, .int .i64 22] | 1 => X 5 = eB B2_1 49 #[.int .i64 0, .int .i64 0, .slice none 0 0, .int .i64 22] | _ => True) [1, 2, 3, 4, 5] (by kernel_rfl) (by kernel_rfl) (by kernel_rfl) (by kernel_rfl) ?_ hst49 ?_ ?_
        · exact fun ix _ _ _ _ _ _ hs hb hx h => match ix, h with
            | 0, h => (hs 75 rfl).symm.trans h
            | 1, h => by dsimp only at h ⊢; rw [← hx 5 rfl]; exact h
            | _ + 2, _ => trivial
        · refine ⟨⟨trivial, ?_⟩, ?_⟩
          · exact sv0 rfl rfl rfl rfl rfl (fun _ _ _ h => h) fun ρ β W X cx => by
              simp [go_sem, cx.sees.const] <;> rfl
          · refine sv_any rfl rfl fun ρ β W X cx => ?_
            exact dv_store (n := 4) rfl (cx.out 2 rfl) (cx.anc 0 rfl) (by kernel_rfl) rfl rfl cx (cx.init 0 _ rfl) rfl (Nat.le_of_ble_eq_true rfl) rfl rfl rfl rfl (fun σ β' X' hs hb hx => hx)
        intro σ β X W52 hD hX hst52 fr hfr
        have dD75 : σ 75 = _ := hD 0 lq
        have xX1 : X 1 = _ := hX 1 _ rfl
        have xX2 : X 2 = _ := hX 2 _ rfl
        have xX3 : X 3 = _ := hX 3 _ rfl
        have xX4 : X 4 = _ := hX 4 _ rfl
        have xX5 : X 5 = _ := (hD 1 lq)
        simp only [List.map_cons, List.map_nil, xX1, xX2, xX3, xX4, xX5] at hst52
        rw [show dstsU _ = [75] by kernel_rfl] at hfr
        simp only [List.map_cons, List.map_nil, putAll, List.setIfInBounds_toArray, List.set_cons_succ, List.set_cons_zero, dD75] at hfr
        clear hX hD dD75 xX1 xX2 xX3 xX4 xX5
        subst hfr
        clear σ β X
        refine then_normal ?_
        refine wp_ret ?_
        refine then_ret ?_
        have hr53 : W52.cell? ⟨B2_1, 0, none⟩ = some (.int .i64 0) := (hst52.blk 4 rfl).cell 0
        have hr54 : W52.cell? ⟨B2_1, 1, none⟩ = some (.int .i64 0) := (hst52.blk 4 rfl).cell 1
        have hr55 : W52.cell? ⟨B2_1, 2, none⟩ = some (.slice none 0 0) := (hst52.blk 4 rfl).cell 2
        have hr56 : W52.cell? ⟨B2_1, 3, none⟩ = some (.int .i64 22) := (hst52.blk 4 rfl).cell 3
        refine bodyPost_ret (v := .agg #[.int .i64 0, .int .i64 0, .slice none 0 0, .int .i64 22]) (by simp [results, Try.results38, go_sem, hr53, hr54, hr55, hr56]) rfl ?_
        rw [HB0.out]; exact GotPost.zero hst52.ext
      · skip
        have HXX : Hid (RX s kk ll xs f) := Lib.hid (HX.out xs p f HTX.out)
        have HB0 := Lib.hid (hbad_e HXX.out HTE.out hb3)
        have hd58 : (f) = false := hb1
        have hd59 : (decide (24 < (n : Int))) = false := hb2
        have hd60 : (E != 0) = true := hb3
        refine wp_region_W (by kernel_rfl) [0, 1, 3, 7, 15, 31, 63, 127, 255, 511, 1023, 2047, 4095, 8191, 16383, 32767, 16383, 131071, 262143] [[], [], [], [1], [], [], [], [], [], [], [4], [], [], [], [], [], [], [], []] [[], [], [], [], [], [], [], [], [], [], [], [], [], [], [], [], [], [], []] [[], [], [], [], [], [], [], [], [], [], [], [], [], [], [], [], [], [], []] (fun ix σ β X => match ix with | 0 => σ 56 = .pointer (some ⟨B30_7, 0, none⟩) | 1 => σ 57 = .pointer (some ⟨B30_7, 0, none⟩) | 2 => σ 58 = .pointer (some ⟨B30_7, 2, none⟩) | 3 => σ 59 = .bool f | 4 => σ 60 = .bool false | 5 => σ 61 = .int .i64 ((n : Int)) | 6 => σ 62 = .bool (decide (24 < (n : Int))) | 7 => σ 63 = .bool false | 8 => σ 64 = .bool false | 9 => σ 65 = .pointer (some ⟨B7_41, 1, none⟩) | 10 => σ 66 = .int .i64 E | 11 => σ 67 = .bool (E != 0) | 12 => σ 68 = .bool true | 13 => σ 69 = .bool true | 14 => σ 70 = undef | 15 => σ 71 = undef | 16 => σ 72 = undef | 17 => σ 73 = undef | 18 => σ 74 = .bool true | _ => True) [0, 1, 2, 3, 4] (by kernel_rfl) (by kernel_rfl) (by kernel_rfl) (by kernel_rfl) ?_ hst41 ?_ ?_
        · exact fun ix _ _ _ _ _ _ hs hb hx h => match ix, h with
            | 0, h => (hs 56 rfl).symm.trans h
            | 1, h => (hs 57 rfl).symm.trans h
            | 2, h => (hs 58 rfl).symm.trans h
            | 3, h => (hs 59 rfl).symm.trans h
            | 4, h => (hs 60 rfl).symm.trans h
            | 5, h => (hs 61 rfl).symm.trans h
            | 6, h => (hs 62 rfl).symm.trans h
            | 7, h => (hs 63 rfl).symm.trans h
            | 8, h => (hs 64 rfl).symm.trans h
            | 9, h => (hs 65 rfl).symm.trans h
            | 10, h => (hs 66 rfl).symm.trans h
            | 11, h => (hs 67 rfl).symm.trans h
            | 12, h => (hs 68 rfl).symm.trans h
            | 13, h => (hs 69 rfl).symm.trans h
            | 14, h => (hs 70 rfl).symm.trans h
            | 15, h => (hs 71 rfl).symm.trans h
            | 16, h => (hs 72 rfl).symm.trans h
            | 17, h => (hs 73 rfl).symm.trans h
            | 18, h => (hs 74 rfl).symm.trans h
            | _ + 19, _ => trivial
        · refine ⟨⟨⟨⟨⟨⟨⟨⟨⟨⟨⟨⟨⟨⟨⟨⟨⟨⟨⟨trivial, ?_⟩, ?_⟩, ?_⟩, ?_⟩, ?_⟩, ?_⟩, ?_⟩, ?_⟩, ?_⟩, ?_⟩, ?_⟩, ?_⟩, ?_⟩, ?_⟩, ?_⟩, ?_⟩, ?_⟩, ?_⟩, ?_⟩
          · exact sv0 rfl rfl rfl rfl rfl (fun _ _ _ h => h) fun ρ β W X cx => run_move' rfl (cx.out 3 rfl)
          · exact sv0 rfl rfl rfl rfl rfl (fun _ _ _ h => h) fun ρ β W X cx => run_nilCheck rfl (cx.anc 0 rfl)
          · exact sv0 rfl rfl rfl rfl rfl (fun _ _ _ h => h) fun ρ β W X cx => run_fieldAddr' (k := 2) (n := 2) rfl (by kernel_rfl) (cx.anc 1 rfl) rfl
          · exact sv0 rfl rfl rfl rfl rfl (fun _ _ _ h => h) fun ρ β W X cx => run_load1 rfl (by kernel_rfl) (cx.anc 2 rfl) ((cx.blk (cx.init 1 _ rfl) rfl).cell 2)
          · exact sv0 rfl rfl rfl rfl rfl (fun _ _ _ h => h) fun ρ β W X cx => run_move' rfl (Eq.trans (cx.anc 3 rfl) (congrArg Value.bool hd58))
          · exact sv0_on rfl rfl rfl rfl rfl rfl (fun _ _ _ h => h) (fun _ _ _ _ cx => (cx.anc 4 rfl)) fun ρ β W X cx => run_move' rfl (cx.out 5 rfl)
          · exact sv0_on rfl rfl rfl rfl rfl rfl (fun _ _ _ h => h) (fun _ _ _ _ cx => (cx.anc 4 rfl)) fun ρ β W X cx => run_bin rfl (cx.anc 5 rfl) (cx.sees.const _) rfl
          · exact sv0 rfl rfl rfl rfl rfl (fun _ _ _ h => h) fun ρ β W X cx => run_pick_f rfl (cx.anc 4 rfl) (Eq.trans (cx.anc 6 rfl) (congrArg Value.bool hd59))
          · exact sv0 rfl rfl rfl rfl rfl (fun _ _ _ h => h) fun ρ β W X cx => run_move' rfl (cx.anc 7 rfl)
          · exact sv0_on rfl rfl rfl rfl rfl rfl (fun _ _ _ h => h) (fun _ _ _ _ cx => (cx.anc 8 rfl)) fun ρ β W X cx => run_fieldAddr' (k := 1) (n := 1) rfl (by kernel_rfl) (cx.out 7 rfl) rfl
          · exact sv0_on rfl rfl rfl rfl rfl rfl (fun _ _ _ h => h) (fun _ _ _ _ cx => (cx.anc 8 rfl)) fun ρ β W X cx => run_load1 rfl (by kernel_rfl) (cx.anc 9 rfl) ((cx.blk (cx.init 4 _ rfl) rfl).cell 1)
          · exact sv0_on rfl rfl rfl rfl rfl rfl (fun _ _ _ h => h) (fun _ _ _ _ cx => (cx.anc 8 rfl)) fun ρ β W X cx => run_bin rfl (cx.anc 10 rfl) (cx.sees.const _) rfl
          · exact sv0 rfl rfl rfl rfl rfl (fun _ _ _ h => h) fun ρ β W X cx => run_pick_f rfl (cx.anc 8 rfl) (Eq.trans (cx.anc 11 rfl) (congrArg Value.bool hd60))
          · exact sv0 rfl rfl rfl rfl rfl (fun _ _ _ h => h) fun ρ β W X cx => run_move' rfl (cx.anc 12 rfl)
          · exact sv_off rfl rfl rfl (by decide) rfl rfl (fun _ _ _ h => h _ rfl) (fun _ _ _ _ cx => (cx.anc 13 rfl))
          · exact sv_off rfl rfl rfl (by decide) rfl rfl (fun _ _ _ h => h _ rfl) (fun _ _ _ _ cx => (cx.anc 13 rfl))
          · exact sv_off rfl rfl rfl (by decide) rfl rfl (fun _ _ _ h => h _ rfl) (fun _ _ _ _ cx => (cx.anc 13 rfl))
          · exact sv_off rfl rfl rfl (by decide) rfl rfl (fun _ _ _ h => h _ rfl) (fun _ _ _ _ cx => (cx.anc 13 rfl))
          · exact sv0 rfl rfl rfl rfl rfl (fun _ _ _ h => h) fun ρ β W X cx => run_pick_t rfl (cx.anc 13 rfl) (cx.sees.const _)
        intro σ β X W57 hD hX hst57 fr hfr
        have dD56 : σ 56 = _ := hD 0 lq
        have dD57 : σ 57 = _ := hD 1 lq
        have dD58 : σ 58 = _ := hD 2 lq
        have dD59 : σ 59 = _ := hD 3 lq
        have dD60 : σ 60 = _ := hD 4 lq
        have dD61 : σ 61 = _ := hD 5 lq
        have dD62 : σ 62 = _ := hD 6 lq
        have dD63 : σ 63 = _ := hD 7 lq
        have dD64 : σ 64 = _ := hD 8 lq
        have dD65 : σ 65 = _ := hD 9 lq
        have dD66 : σ 66 = _ := hD 10 lq
        have dD67 : σ 67 = _ := hD 11 lq
        have dD68 : σ 68 = _ := hD 12 lq
        have dD69 : σ 69 = _ := hD 13 lq
        have dD70 : σ 70 = _ := hD 14 lq
        have dD71 : σ 71 = _ := hD 15 lq
        have dD72 : σ 72 = _ := hD 16 lq
        have dD73 : σ 73 = _ := hD 17 lq
        have dD74 : σ 74 = _ := hD 18 lq
        have xX0 : X 0 = _ := hX 0 _ rfl
        have xX1 : X 1 = _ := hX 1 _ rfl
        have xX2 : X 2 = _ := hX 2 _ rfl
        have xX3 : X 3 = _ := hX 3 _ rfl
        have xX4 : X 4 = _ := hX 4 _ rfl
        simp only [List.map_cons, List.map_nil, xX0, xX1, xX2, xX3, xX4] at hst57
        rw [show dstsU _ = [56, 57, 58, 59, 60, 61, 62, 63, 64, 65, 66, 67, 68, 69, 70, 71, 72, 73, 74] by kernel_rfl] at hfr
        simp only [List.map_cons, List.map_nil, putAll, List.setIfInBounds_toArray, List.set_cons_succ, List.set_cons_zero, dD56, dD57, dD58, dD59, dD60, dD61, dD62, dD63, dD64, dD65, dD66, dD67, dD68, dD69, dD70, dD71, dD72, dD73, dD74] at hfr
        clear hX hD dD56 dD57 dD58 dD59 dD60 dD61 dD62 dD63 dD64 dD65 dD66 dD67 dD68 dD69 dD70 dD71 dD72 dD73 dD74 xX0 xX1 xX2 xX3 xX4
        subst hfr
        clear σ β X
        refine then_normal ?_
        refine wp_cond_true (show Act.eval _ _ = .bool true from rfl) ?_
        refine wp_seq ?_
        refine wp_region_W (by kernel_rfl) [0, 1] [[], [0]] [[], [5]] [[], [0]] (fun ix σ β X => match ix with | 0 => σ 75 = .agg #[.int .i64 0, .int .i64 0, .slice none 0 0, .int .i64 22] | 1 => X 5 = eB B2_1 49 #[.int .i64 0, .int .i64 0, .slice none 0 0, .int .i64 22] | _ => True) [1, 2, 3, 4, 5] (by kernel_rfl) (by kernel_rfl) (by kernel_rfl) (by kernel_rfl) ?_ hst57 ?_ ?_
        · exact fun ix _ _ _ _ _ _ hs hb hx h => match ix, h with
            | 0, h => (hs 75 rfl).symm.trans h
            | 1, h => by dsimp only at h ⊢; rw [← hx 5 rfl]; exact h
            | _ + 2, _ => trivial
        · refine ⟨⟨trivial, ?_⟩, ?_⟩
          · exact sv0 rfl rfl rfl rfl rfl (fun _ _ _ h => h) fun ρ β W X cx => by
              simp [go_sem, cx.sees.const] <;> rfl
          · refine sv_any rfl rfl fun ρ β W X cx => ?_
            exact dv_store (n := 4) rfl (cx.out 2 rfl) (cx.anc 0 rfl) (by kernel_rfl) rfl rfl cx (cx.init 0 _ rfl) rfl (Nat.le_of_ble_eq_true rfl) rfl rfl rfl rfl (fun σ β' X' hs hb hx => hx)
        intro σ β X W61 hD hX hst61 fr hfr
        have dD75 : σ 75 = _ := hD 0 lq
        have xX1 : X 1 = _ := hX 1 _ rfl
        have xX2 : X 2 = _ := hX 2 _ rfl
        have xX3 : X 3 = _ := hX 3 _ rfl
        have xX4 : X 4 = _ := hX 4 _ rfl
        have xX5 : X 5 = _ := (hD 1 lq)
        simp only [List.map_cons, List.map_nil, xX1, xX2, xX3, xX4, xX5] at hst61
        rw [show dstsU _ = [75] by kernel_rfl] at hfr
        simp only [List.map_cons, List.map_nil, putAll, List.setIfInBounds_toArray, List.set_cons_succ, List.set_cons_zero, dD75] at hfr
        clear hX hD dD75 xX1 xX2 xX3 xX4 xX5
        subst hfr
        clear σ β X
        refine then_normal ?_
        refine wp_ret ?_
        refine then_ret ?_
        have hr62 : W61.cell? ⟨B2_1, 0, none⟩ = some (.int .i64 0) := (hst61.blk 4 rfl).cell 0
        have hr63 : W61.cell? ⟨B2_1, 1, none⟩ = some (.int .i64 0) := (hst61.blk 4 rfl).cell 1
        have hr64 : W61.cell? ⟨B2_1, 2, none⟩ = some (.slice none 0 0) := (hst61.blk 4 rfl).cell 2
        have hr65 : W61.cell? ⟨B2_1, 3, none⟩ = some (.int .i64 22) := (hst61.blk 4 rfl).cell 3
        refine bodyPost_ret (v := .agg #[.int .i64 0, .int .i64 0, .slice none 0 0, .int .i64 22]) (by simp [results, Try.results38, go_sem, hr62, hr63, hr64, hr65]) rfl ?_
        rw [HB0.out]; exact GotPost.zero hst61.ext
      · skip
        have HXX : Hid (RX s kk ll xs f) := Lib.hid (HX.out xs p f HTX.out)
        have HB0 := Lib.hid (hbad_t HXX.out HTE.out hb4)
        have hd67 : (f) = false := hb1
        have hd68 : (decide (24 < (n : Int))) = false := hb2
        have hd69 : (E != 0) = false := hb3
        have hd70 : (!(T.toList == s.toList)) = true := hb4
        refine wp_region_W (by kernel_rfl) [0, 1, 3, 7, 15, 31, 63, 127, 255, 511, 1023, 2047, 4095, 8191, 16383, 32767, 16383, 131071, 262143] [[], [], [], [1], [], [], [], [], [], [], [4], [], [], [], [], [4], [], [], []] [[], [], [], [], [], [], [], [], [], [], [], [], [], [], [], [], [], [], []] [[], [], [], [], [], [], [], [], [], [], [], [], [], [], [], [], [], [], []] (fun ix σ β X => match ix with | 0 => σ 56 = .pointer (some ⟨B30_7, 0, none⟩) | 1 => σ 57 = .pointer (some ⟨B30_7, 0, none⟩) | 2 => σ 58 = .pointer (some ⟨B30_7, 2, none⟩) | 3 => σ 59 = .bool f | 4 => σ 60 = .bool false | 5 => σ 61 = .int .i64 ((n : Int)) | 6 => σ 62 = .bool (decide (24 < (n : Int))) | 7 => σ 63 = .bool false | 8 => σ 64 = .bool false | 9 => σ 65 = .pointer (some ⟨B7_41, 1, none⟩) | 10 => σ 66 = .int .i64 E | 11 => σ 67 = .bool (E != 0) | 12 => σ 68 = .bool false | 13 => σ 69 = .bool false | 14 => σ 70 = .pointer (some ⟨B7_41, 0, none⟩) | 15 => σ 71 = .string T | 16 => σ 72 = .string s | 17 => σ 73 = .bool (!(T.toList == s.toList)) | 18 => σ 74 = .bool true | _ => True) [0, 1, 2, 3, 4] (by kernel_rfl) (by kernel_rfl) (by kernel_rfl) (by kernel_rfl) ?_ hst41 ?_ ?_
        · exact fun ix _ _ _ _ _ _ hs hb hx h => match ix, h with
            | 0, h => (hs 56 rfl).symm.trans h
            | 1, h => (hs 57 rfl).symm.trans h
            | 2, h => (hs 58 rfl).symm.trans h
            | 3, h => (hs 59 rfl).symm.trans h
            | 4, h => (hs 60 rfl).symm.trans h
            | 5, h => (hs 61 rfl).symm.trans h
            | 6, h => (hs 62 rfl).symm.trans h
            | 7, h => (hs 63 rfl).symm.trans h
            | 8, h => (hs 64 rfl).symm.trans h
            | 9, h => (hs 65 rfl).symm.trans h
            | 10, h => (hs 66 rfl).symm.trans h
            | 11, h => (hs 67 rfl).symm.trans h
            | 12, h => (hs 68 rfl).symm.trans h
            | 13, h => (hs 69 rfl).symm.trans h
            | 14, h => (hs 70 rfl).symm.trans h
            | 15, h => (hs 71 rfl).symm.trans h
            | 16, h => (hs 72 rfl).symm.trans h
            | 17, h => (hs 73 rfl).symm.trans h
            | 18, h => (hs 74 rfl).symm.trans h
            | _ + 19, _ => trivial
        · refine ⟨⟨⟨⟨⟨⟨⟨⟨⟨⟨⟨⟨⟨⟨⟨⟨⟨⟨⟨trivial, ?_⟩, ?_⟩, ?_⟩, ?_⟩, ?_⟩, ?_⟩, ?_⟩, ?_⟩, ?_⟩, ?_⟩, ?_⟩, ?_⟩, ?_⟩, ?_⟩, ?_⟩, ?_⟩, ?_⟩, ?_⟩, ?_⟩
          · exact sv0 rfl rfl rfl rfl rfl (fun _ _ _ h => h) fun ρ β W X cx => run_move' rfl (cx.out 3 rfl)
          · exact sv0 rfl rfl rfl rfl rfl (fun _ _ _ h => h) fun ρ β W X cx => run_nilCheck rfl (cx.anc 0 rfl)
          · exact sv0 rfl rfl rfl rfl rfl (fun _ _ _ h => h) fun ρ β W X cx => run_fieldAddr' (k := 2) (n := 2) rfl (by kernel_rfl) (cx.anc 1 rfl) rfl
          · exact sv0 rfl rfl rfl rfl rfl (fun _ _ _ h => h) fun ρ β W X cx => run_load1 rfl (by kernel_rfl) (cx.anc 2 rfl) ((cx.blk (cx.init 1 _ rfl) rfl).cell 2)
          · exact sv0 rfl rfl rfl rfl rfl (fun _ _ _ h => h) fun ρ β W X cx => run_move' rfl (Eq.trans (cx.anc 3 rfl) (congrArg Value.bool hd67))
          · exact sv0_on rfl rfl rfl rfl rfl rfl (fun _ _ _ h => h) (fun _ _ _ _ cx => (cx.anc 4 rfl)) fun ρ β W X cx => run_move' rfl (cx.out 5 rfl)
          · exact sv0_on rfl rfl rfl rfl rfl rfl (fun _ _ _ h => h) (fun _ _ _ _ cx => (cx.anc 4 rfl)) fun ρ β W X cx => run_bin rfl (cx.anc 5 rfl) (cx.sees.const _) rfl
          · exact sv0 rfl rfl rfl rfl rfl (fun _ _ _ h => h) fun ρ β W X cx => run_pick_f rfl (cx.anc 4 rfl) (Eq.trans (cx.anc 6 rfl) (congrArg Value.bool hd68))
          · exact sv0 rfl rfl rfl rfl rfl (fun _ _ _ h => h) fun ρ β W X cx => run_move' rfl (cx.anc 7 rfl)
          · exact sv0_on rfl rfl rfl rfl rfl rfl (fun _ _ _ h => h) (fun _ _ _ _ cx => (cx.anc 8 rfl)) fun ρ β W X cx => run_fieldAddr' (k := 1) (n := 1) rfl (by kernel_rfl) (cx.out 7 rfl) rfl
          · exact sv0_on rfl rfl rfl rfl rfl rfl (fun _ _ _ h => h) (fun _ _ _ _ cx => (cx.anc 8 rfl)) fun ρ β W X cx => run_load1 rfl (by kernel_rfl) (cx.anc 9 rfl) ((cx.blk (cx.init 4 _ rfl) rfl).cell 1)
          · exact sv0_on rfl rfl rfl rfl rfl rfl (fun _ _ _ h => h) (fun _ _ _ _ cx => (cx.anc 8 rfl)) fun ρ β W X cx => run_bin rfl (cx.anc 10 rfl) (cx.sees.const _) rfl
          · exact sv0 rfl rfl rfl rfl rfl (fun _ _ _ h => h) fun ρ β W X cx => run_pick_f rfl (cx.anc 8 rfl) (Eq.trans (cx.anc 11 rfl) (congrArg Value.bool hd69))
          · exact sv0 rfl rfl rfl rfl rfl (fun _ _ _ h => h) fun ρ β W X cx => run_move' rfl (cx.anc 12 rfl)
          · exact sv0_on rfl rfl rfl rfl rfl rfl (fun _ _ _ h => h) (fun _ _ _ _ cx => (cx.anc 13 rfl)) fun ρ β W X cx => run_fieldAddr' (k := 0) (n := 0) rfl (by kernel_rfl) (cx.out 7 rfl) rfl
          · exact sv0_on rfl rfl rfl rfl rfl rfl (fun _ _ _ h => h) (fun _ _ _ _ cx => (cx.anc 13 rfl)) fun ρ β W X cx => run_load1 rfl (by kernel_rfl) (cx.anc 14 rfl) ((cx.blk (cx.init 4 _ rfl) rfl).cell 0)
          · exact sv0_on rfl rfl rfl rfl rfl rfl (fun _ _ _ h => h) (fun _ _ _ _ cx => (cx.anc 13 rfl)) fun ρ β W X cx => run_move' rfl (cx.out 0 rfl)
          · exact sv0_on rfl rfl rfl rfl rfl rfl (fun _ _ _ h => h) (fun _ _ _ _ cx => (cx.anc 13 rfl)) fun ρ β W X cx => run_strne rfl (cx.anc 15 rfl) (cx.anc 16 rfl)
          · exact sv0 rfl rfl rfl rfl rfl (fun _ _ _ h => h) fun ρ β W X cx => run_pick_f rfl (cx.anc 13 rfl) (Eq.trans (cx.anc 17 rfl) (congrArg Value.bool hd70))
        intro σ β X W66 hD hX hst66 fr hfr
        have dD56 : σ 56 = _ := hD 0 lq
        have dD57 : σ 57 = _ := hD 1 lq
        have dD58 : σ 58 = _ := hD 2 lq
        have dD59 : σ 59 = _ := hD 3 lq
        have dD60 : σ 60 = _ := hD 4 lq
        have dD61 : σ 61 = _ := hD 5 lq
        have dD62 : σ 62 = _ := hD 6 lq
        have dD63 : σ 63 = _ := hD 7 lq
        have dD64 : σ 64 = _ := hD 8 lq
        have dD65 : σ 65 = _ := hD 9 lq
        have dD66 : σ 66 = _ := hD 10 lq
        have dD67 : σ 67 = _ := hD 11 lq
        have dD68 : σ 68 = _ := hD 12 lq
        have dD69 : σ 69 = _ := hD 13 lq
        have dD70 : σ 70 = _ := hD 14 lq
        have dD71 : σ 71 = _ := hD 15 lq
        have dD72 : σ 72 = _ := hD 16 lq
        have dD73 : σ 73 = _ := hD 17 lq
        have dD74 : σ 74 = _ := hD 18 lq
        have xX0 : X 0 = _ := hX 0 _ rfl
        have xX1 : X 1 = _ := hX 1 _ rfl
        have xX2 : X 2 = _ := hX 2 _ rfl
        have xX3 : X 3 = _ := hX 3 _ rfl
        have xX4 : X 4 = _ := hX 4 _ rfl
        simp only [List.map_cons, List.map_nil, xX0, xX1, xX2, xX3, xX4] at hst66
        rw [show dstsU _ = [56, 57, 58, 59, 60, 61, 62, 63, 64, 65, 66, 67, 68, 69, 70, 71, 72, 73, 74] by kernel_rfl] at hfr
        simp only [List.map_cons, List.map_nil, putAll, List.setIfInBounds_toArray, List.set_cons_succ, List.set_cons_zero, dD56, dD57, dD58, dD59, dD60, dD61, dD62, dD63, dD64, dD65, dD66, dD67, dD68, dD69, dD70, dD71, dD72, dD73, dD74] at hfr
        clear hX hD dD56 dD57 dD58 dD59 dD60 dD61 dD62 dD63 dD64 dD65 dD66 dD67 dD68 dD69 dD70 dD71 dD72 dD73 dD74 xX0 xX1 xX2 xX3 xX4
        subst hfr
        clear σ β X
        refine then_normal ?_
        refine wp_cond_true (show Act.eval _ _ = .bool true from rfl) ?_
        refine wp_seq ?_
        refine wp_region_W (by kernel_rfl) [0, 1] [[], [0]] [[], [5]] [[], [0]] (fun ix σ β X => match ix with | 0 => σ 75 = .agg #[.int .i64 0, .int .i64 0, .slice none 0 0, .int .i64 22] | 1 => X 5 = eB B2_1 49 #[.int .i64 0, .int .i64 0, .slice none 0 0, .int .i64 22] | _ => True) [1, 2, 3, 4, 5] (by kernel_rfl) (by kernel_rfl) (by kernel_rfl) (by kernel_rfl) ?_ hst66 ?_ ?_
        · exact fun ix _ _ _ _ _ _ hs hb hx h => match ix, h with
            | 0, h => (hs 75 rfl).symm.trans h
            | 1, h => by dsimp only at h ⊢; rw [← hx 5 rfl]; exact h
            | _ + 2, _ => trivial
        · refine ⟨⟨trivial, ?_⟩, ?_⟩
          · exact sv0 rfl rfl rfl rfl rfl (fun _ _ _ h => h) fun ρ β W X cx => by
              simp [go_sem, cx.sees.const] <;> rfl
          · refine sv_any rfl rfl fun ρ β W X cx => ?_
            exact dv_store (n := 4) rfl (cx.out 2 rfl) (cx.anc 0 rfl) (by kernel_rfl) rfl rfl cx (cx.init 0 _ rfl) rfl (Nat.le_of_ble_eq_true rfl) rfl rfl rfl rfl (fun σ β' X' hs hb hx => hx)
        intro σ β X W71 hD hX hst71 fr hfr
        have dD75 : σ 75 = _ := hD 0 lq
        have xX1 : X 1 = _ := hX 1 _ rfl
        have xX2 : X 2 = _ := hX 2 _ rfl
        have xX3 : X 3 = _ := hX 3 _ rfl
        have xX4 : X 4 = _ := hX 4 _ rfl
        have xX5 : X 5 = _ := (hD 1 lq)
        simp only [List.map_cons, List.map_nil, xX1, xX2, xX3, xX4, xX5] at hst71
        rw [show dstsU _ = [75] by kernel_rfl] at hfr
        simp only [List.map_cons, List.map_nil, putAll, List.setIfInBounds_toArray, List.set_cons_succ, List.set_cons_zero, dD75] at hfr
        clear hX hD dD75 xX1 xX2 xX3 xX4 xX5
        subst hfr
        clear σ β X
        refine then_normal ?_
        refine wp_ret ?_
        refine then_ret ?_
        have hr72 : W71.cell? ⟨B2_1, 0, none⟩ = some (.int .i64 0) := (hst71.blk 4 rfl).cell 0
        have hr73 : W71.cell? ⟨B2_1, 1, none⟩ = some (.int .i64 0) := (hst71.blk 4 rfl).cell 1
        have hr74 : W71.cell? ⟨B2_1, 2, none⟩ = some (.slice none 0 0) := (hst71.blk 4 rfl).cell 2
        have hr75 : W71.cell? ⟨B2_1, 3, none⟩ = some (.int .i64 22) := (hst71.blk 4 rfl).cell 3
        refine bodyPost_ret (v := .agg #[.int .i64 0, .int .i64 0, .slice none 0 0, .int .i64 22]) (by simp [results, Try.results38, go_sem, hr72, hr73, hr74, hr75]) rfl ?_
        rw [HB0.out]; exact GotPost.zero hst71.ext
      · skip
        have HXX : Hid (RX s kk ll xs f) := Lib.hid (HX.out xs p f HTX.out)
        have HG := Lib.hid (hgood HXX.out hb1 HTE.out hb3 hb4)
        obtain ⟨PL, hPL⟩ : ∃ z, z = plainL xs := ⟨_, rfl⟩
        have hpl := fun (W : World) (h : At W A (xs.map Value.string)) (hc : xs.length ≤ c) => rplain_any kk ll A c xs W h hsm.1 hc
        rw [hln, ← hPL] at hpl
        rw [← hPL] at HG
        have HPL := Lib.hid hpl
        clear hpl hPL
        have hd77 : (f) = false := hb1
        have hd78 : (decide (24 < (n : Int))) = false := hb2
        have hd79 : (E != 0) = false := hb3
        have hd80 : (!(T.toList == s.toList)) = false := hb4
        refine wp_region_W (by kernel_rfl) [0, 1, 3, 7, 15, 31, 63, 127, 255, 511, 1023, 2047, 4095, 8191, 16383, 32767, 16383, 131071, 262143] [[], [], [], [1], [], [], [], [], [], [], [4], [], [], [], [], [4], [], [], []] [[], [], [], [], [], [], [], [], [], [], [], [], [], [], [], [], [], [], []] [[], [], [], [], [], [], [], [], [], [], [], [], [], [], [], [], [], [], []] (fun ix σ β X => match ix with | 0 => σ 56 = .pointer (some ⟨B30_7, 0, none⟩) | 1 => σ 57 = .pointer (some ⟨B30_7, 0, none⟩) | 2 => σ 58 = .pointer (some ⟨B30_7, 2, none⟩) | 3 => σ 59 = .bool f | 4 => σ 60 = .bool false | 5 => σ 61 = .int .i64 ((n : Int)) | 6 => σ 62 = .bool (decide (24 < (n : Int))) | 7 => σ 63 = .bool false | 8 => σ 64 = .bool false | 9 => σ 65 = .pointer (some ⟨B7_41, 1, none⟩) | 10 => σ 66 = .int .i64 E | 11 => σ 67 = .bool (E != 0) | 12 => σ 68 = .bool false | 13 => σ 69 = .bool false | 14 => σ 70 = .pointer (some ⟨B7_41, 0, none⟩) | 15 => σ 71 = .string T | 16 => σ 72 = .string s | 17 => σ 73 = .bool (!(T.toList == s.toList)) | 18 => σ 74 = .bool false | _ => True) [0, 1, 2, 3, 4] (by kernel_rfl) (by kernel_rfl) (by kernel_rfl) (by kernel_rfl) ?_ hst41 ?_ ?_
        · exact fun ix _ _ _ _ _ _ hs hb hx h => match ix, h with
            | 0, h => (hs 56 rfl).symm.trans h
            | 1, h => (hs 57 rfl).symm.trans h
            | 2, h => (hs 58 rfl).symm.trans h
            | 3, h => (hs 59 rfl).symm.trans h
            | 4, h => (hs 60 rfl).symm.trans h
            | 5, h => (hs 61 rfl).symm.trans h
            | 6, h => (hs 62 rfl).symm.trans h
            | 7, h => (hs 63 rfl).symm.trans h
            | 8, h => (hs 64 rfl).symm.trans h
            | 9, h => (hs 65 rfl).symm.trans h
            | 10, h => (hs 66 rfl).symm.trans h
            | 11, h => (hs 67 rfl).symm.trans h
            | 12, h => (hs 68 rfl).symm.trans h
            | 13, h => (hs 69 rfl).symm.trans h
            | 14, h => (hs 70 rfl).symm.trans h
            | 15, h => (hs 71 rfl).symm.trans h
            | 16, h => (hs 72 rfl).symm.trans h
            | 17, h => (hs 73 rfl).symm.trans h
            | 18, h => (hs 74 rfl).symm.trans h
            | _ + 19, _ => trivial
        · refine ⟨⟨⟨⟨⟨⟨⟨⟨⟨⟨⟨⟨⟨⟨⟨⟨⟨⟨⟨trivial, ?_⟩, ?_⟩, ?_⟩, ?_⟩, ?_⟩, ?_⟩, ?_⟩, ?_⟩, ?_⟩, ?_⟩, ?_⟩, ?_⟩, ?_⟩, ?_⟩, ?_⟩, ?_⟩, ?_⟩, ?_⟩, ?_⟩
          · exact sv0 rfl rfl rfl rfl rfl (fun _ _ _ h => h) fun ρ β W X cx => run_move' rfl (cx.out 3 rfl)
          · exact sv0 rfl rfl rfl rfl rfl (fun _ _ _ h => h) fun ρ β W X cx => run_nilCheck rfl (cx.anc 0 rfl)
          · exact sv0 rfl rfl rfl rfl rfl (fun _ _ _ h => h) fun ρ β W X cx => run_fieldAddr' (k := 2) (n := 2) rfl (by kernel_rfl) (cx.anc 1 rfl) rfl
          · exact sv0 rfl rfl rfl rfl rfl (fun _ _ _ h => h) fun ρ β W X cx => run_load1 rfl (by kernel_rfl) (cx.anc 2 rfl) ((cx.blk (cx.init 1 _ rfl) rfl).cell 2)
          · exact sv0 rfl rfl rfl rfl rfl (fun _ _ _ h => h) fun ρ β W X cx => run_move' rfl (Eq.trans (cx.anc 3 rfl) (congrArg Value.bool hd77))
          · exact sv0_on rfl rfl rfl rfl rfl rfl (fun _ _ _ h => h) (fun _ _ _ _ cx => (cx.anc 4 rfl)) fun ρ β W X cx => run_move' rfl (cx.out 5 rfl)
          · exact sv0_on rfl rfl rfl rfl rfl rfl (fun _ _ _ h => h) (fun _ _ _ _ cx => (cx.anc 4 rfl)) fun ρ β W X cx => run_bin rfl (cx.anc 5 rfl) (cx.sees.const _) rfl
          · exact sv0 rfl rfl rfl rfl rfl (fun _ _ _ h => h) fun ρ β W X cx => run_pick_f rfl (cx.anc 4 rfl) (Eq.trans (cx.anc 6 rfl) (congrArg Value.bool hd78))
          · exact sv0 rfl rfl rfl rfl rfl (fun _ _ _ h => h) fun ρ β W X cx => run_move' rfl (cx.anc 7 rfl)
          · exact sv0_on rfl rfl rfl rfl rfl rfl (fun _ _ _ h => h) (fun _ _ _ _ cx => (cx.anc 8 rfl)) fun ρ β W X cx => run_fieldAddr' (k := 1) (n := 1) rfl (by kernel_rfl) (cx.out 7 rfl) rfl
          · exact sv0_on rfl rfl rfl rfl rfl rfl (fun _ _ _ h => h) (fun _ _ _ _ cx => (cx.anc 8 rfl)) fun ρ β W X cx => run_load1 rfl (by kernel_rfl) (cx.anc 9 rfl) ((cx.blk (cx.init 4 _ rfl) rfl).cell 1)
          · exact sv0_on rfl rfl rfl rfl rfl rfl (fun _ _ _ h => h) (fun _ _ _ _ cx => (cx.anc 8 rfl)) fun ρ β W X cx => run_bin rfl (cx.anc 10 rfl) (cx.sees.const _) rfl
          · exact sv0 rfl rfl rfl rfl rfl (fun _ _ _ h => h) fun ρ β W X cx => run_pick_f rfl (cx.anc 8 rfl) (Eq.trans (cx.anc 11 rfl) (congrArg Value.bool hd79))
          · exact sv0 rfl rfl rfl rfl rfl (fun _ _ _ h => h) fun ρ β W X cx => run_move' rfl (cx.anc 12 rfl)
          · exact sv0_on rfl rfl rfl rfl rfl rfl (fun _ _ _ h => h) (fun _ _ _ _ cx => (cx.anc 13 rfl)) fun ρ β W X cx => run_fieldAddr' (k := 0) (n := 0) rfl (by kernel_rfl) (cx.out 7 rfl) rfl
          · exact sv0_on rfl rfl rfl rfl rfl rfl (fun _ _ _ h => h) (fun _ _ _ _ cx => (cx.anc 13 rfl)) fun ρ β W X cx => run_load1 rfl (by kernel_rfl) (cx.anc 14 rfl) ((cx.blk (cx.init 4 _ rfl) rfl).cell 0)
          · exact sv0_on rfl rfl rfl rfl rfl rfl (fun _ _ _ h => h) (fun _ _ _ _ cx => (cx.anc 13 rfl)) fun ρ β W X cx => run_move' rfl (cx.out 0 rfl)
          · exact sv0_on rfl rfl rfl rfl rfl rfl (fun _ _ _ h => h) (fun _ _ _ _ cx => (cx.anc 13 rfl)) fun ρ β W X cx => run_strne rfl (cx.anc 15 rfl) (cx.anc 16 rfl)
          · exact sv0 rfl rfl rfl rfl rfl (fun _ _ _ h => h) fun ρ β W X cx => run_pick_f rfl (cx.anc 13 rfl) (Eq.trans (cx.anc 17 rfl) (congrArg Value.bool hd80))
        intro σ β X W76 hD hX hst76 fr hfr
        have dD56 : σ 56 = _ := hD 0 lq
        have dD57 : σ 57 = _ := hD 1 lq
        have dD58 : σ 58 = _ := hD 2 lq
        have dD59 : σ 59 = _ := hD 3 lq
        have dD60 : σ 60 = _ := hD 4 lq
        have dD61 : σ 61 = _ := hD 5 lq
        have dD62 : σ 62 = _ := hD 6 lq
        have dD63 : σ 63 = _ := hD 7 lq
        have dD64 : σ 64 = _ := hD 8 lq
        have dD65 : σ 65 = _ := hD 9 lq
        have dD66 : σ 66 = _ := hD 10 lq
        have dD67 : σ 67 = _ := hD 11 lq
        have dD68 : σ 68 = _ := hD 12 lq
        have dD69 : σ 69 = _ := hD 13 lq
        have dD70 : σ 70 = _ := hD 14 lq
        have dD71 : σ 71 = _ := hD 15 lq
        have dD72 : σ 72 = _ := hD 16 lq
        have dD73 : σ 73 = _ := hD 17 lq
        have dD74 : σ 74 = _ := hD 18 lq
        have xX0 : X 0 = _ := hX 0 _ rfl
        have xX1 : X 1 = _ := hX 1 _ rfl
        have xX2 : X 2 = _ := hX 2 _ rfl
        have xX3 : X 3 = _ := hX 3 _ rfl
        have xX4 : X 4 = _ := hX 4 _ rfl
        simp only [List.map_cons, List.map_nil, xX0, xX1, xX2, xX3, xX4] at hst76
        rw [show dstsU _ = [56, 57, 58, 59, 60, 61, 62, 63, 64, 65, 66, 67, 68, 69, 70, 71, 72, 73, 74] by kernel_rfl] at hfr
        simp only [List.map_cons, List.map_nil, putAll, List.setIfInBounds_toArray, List.set_cons_succ, List.set_cons_zero, dD56, dD57, dD58, dD59, dD60, dD61, dD62, dD63, dD64, dD65, dD66, dD67, dD68, dD69, dD70, dD71, dD72, dD73, dD74] at hfr
        clear hX hD dD56 dD57 dD58 dD59 dD60 dD61 dD62 dD63 dD64 dD65 dD66 dD67 dD68 dD69 dD70 dD71 dD72 dD73 dD74 xX0 xX1 xX2 xX3 xX4
        subst hfr
        clear σ β X
        refine then_normal ?_
        refine wp_cond_false (show Act.eval _ _ = .bool false from rfl) ?_
        refine wp_skip ?_
        refine then_normal ?_
        refine wp_seq ?_
        refine wp_region_W (by kernel_rfl) [0, 1, 3, 7] [[2], [3], [], [0]] [[], [5], [], [6]] [[], [], [], [0]] (fun ix σ β X => match ix with | 0 => σ 76 = .agg #[.int .i64 kk, .int .i64 ll, .slice A j c] | 1 => σ 77 = .agg #[.int .i64 kk, .int .i64 ll, .slice (sA (tg (β 77) 2)) PL.length (sC (tg (β 77) 2))] ∧ X 5 = eO 9 1 (.slice (sA (tg (β 77) 2)) PL.length (sC (tg (β 77) 2))) PL.length (PL.map Value.string) | 2 => σ 78 = .agg #[.int .i64 kk, .int .i64 ll, .slice (sA (tg (β 77) 2)) PL.length (sC (tg (β 77) 2)), .int .i64 0] | 3 => X 6 = eB B2_1 49 #[.int .i64 kk, .int .i64 ll, .slice (sA (tg (β 77) 2)) PL.length (sC (tg (β 77) 2)), .int .i64 0] | _ => True) [1, 2, 3, 4, 5, 6] (by kernel_rfl) (by kernel_rfl) (by kernel_rfl) (by kernel_rfl) ?_ hst76 ?_ ?_
        · exact fun ix _ _ _ _ _ _ hs hb hx h => match ix, h with
            | 0, h => (hs 76 rfl).symm.trans h
            | 1, h => by dsimp only at h ⊢; rw [← hs 77 rfl, ← hb 77 rfl, ← hx 5 rfl]; exact h
            | 2, h => by dsimp only at h ⊢; rw [← hs 78 rfl, ← hb 77 rfl]; exact h
            | 3, h => by dsimp only at h ⊢; rw [← hb 77 rfl, ← hx 6 rfl]; exact h
            | _ + 4, _ => trivial
        · refine ⟨⟨⟨⟨trivial, ?_⟩, ?_⟩, ?_⟩, ?_⟩
          · exact sv0 rfl rfl rfl rfl rfl (fun _ _ _ h => h) fun ρ β W X cx => run_loadB (n := 3) rfl (by kernel_rfl) (by kernel_rfl) (cx.out 4 rfl) (cx.blk (cx.init 2 _ rfl) rfl) (Nat.le_of_ble_eq_true rfl) rfl
          · refine sv_any rfl rfl fun ρ β W X cx => ?_
            refine DoesU.call (run_callF (args := #[.agg #[.int .i64 kk, .int .i64 ll, .slice A j c]]) rfl cx.sees rfl (by kernel_rfl) (map1 (cx.anc 0 rfl))) ?_
            refine (HPL.out _ (At.of_own (cx.row (cx.init 3 _ rfl) rfl)) (eown_cap (cx.row (cx.init 3 _ rfl) rfl))).mono ?_
            rintro e W1 ⟨A4, c4, rfl, ho, hx⟩
            refine ⟨_, rfl, post_call [eO 9 1 (.slice A4 PL.length c4) PL.length (PL.map Value.string)] rfl rfl hx (one_new (eO_new ho)) (List.pairwise_singleton _ _) (fun σ β' X' hs hb hv hN => ?_)⟩
            have hv1 := (hv 77 rfl).1; have hv2 := (hv 77 rfl).2
            exact ⟨hv1.trans (by rw [hv2]; rfl), (by rw [hv2]; exact (List.cons.inj hN).1)⟩
          · exact sv rfl rfl rfl rfl rfl _ (fun _ _ _ h => h) (fun β β' h => by rw [h 77 (by decide)]) fun ρ β W X cx => by
              have fF77 : ρ (.tmp 77) = .agg #[.int .i64 kk, .int .i64 ll, .slice (sA (tg (β 77) 2)) PL.length (sC (tg (β 77) 2))] := (cx.anc 1 rfl).1
              simp [go_sem, cx.sees.const, fF77] <;> rfl
          · refine sv_any rfl rfl fun ρ β W X cx => ?_
            exact dv_store (n := 4) rfl (cx.out 2 rfl) (cx.anc 2 rfl) (by kernel_rfl) rfl rfl cx (cx.init 0 _ rfl) rfl (Nat.le_of_ble_eq_true rfl) rfl rfl rfl rfl (fun σ β' X' hs hb hx => by rw [hb 77]; exact hx)
        intro σ β X W81 hD hX hst81 fr hfr
        obtain ⟨A77_81, hu_A77_81⟩ : ∃ z, sA (tg (β 77) 2) = z := ⟨_, rfl⟩
        obtain ⟨c77_81, hu_c77_81⟩ : ∃ z, sC (tg (β 77) 2) = z := ⟨_, rfl⟩
        have dD76 : σ 76 = _ := hD 0 lq
        have dD77 : σ 77 = _ := (hD 1 lq).1
        have dD78 : σ 78 = _ := hD 2 lq
        have xX1 : X 1 = _ := hX 1 _ rfl
        have xX2 : X 2 = _ := hX 2 _ rfl
        have xX3 : X 3 = _ := hX 3 _ rfl
        have xX4 : X 4 = _ := hX 4 _ rfl
        have xX5 : X 5 = _ := (hD 1 lq).2
        have xX6 : X 6 = _ := (hD 3 lq)
        simp only [List.map_cons, List.map_nil, xX1, xX2, xX3, xX4, xX5, xX6, hu_A77_81, hu_c77_81] at hst81
        rw [show dstsU _ = [76, 77, 78] by kernel_rfl] at hfr
        simp only [List.map_cons, List.map_nil, putAll, List.setIfInBounds_toArray, List.set_cons_succ, List.set_cons_zero, dD76, dD77, dD78, hu_A77_81, hu_c77_81] at hfr
        clear hX hD dD76 dD77 dD78 xX1 xX2 xX3 xX4 xX5 xX6 hu_A77_81 hu_c77_81
        subst hfr
        clear σ β X
        refine then_normal ?_
        refine wp_ret ?_
        have hr82 : W81.cell? ⟨B2_1, 0, none⟩ = some (.int .i64 kk) := (hst81.blk 5 rfl).cell 0
        have hr83 : W81.cell? ⟨B2_1, 1, none⟩ = some (.int .i64 ll) := (hst81.blk 5 rfl).cell 1
        have hr84 : W81.cell? ⟨B2_1, 2, none⟩ = some (.slice A77_81 PL.length c77_81) := (hst81.blk 5 rfl).cell 2
        have hr85 : W81.cell? ⟨B2_1, 3, none⟩ = some (.int .i64 0) := (hst81.blk 5 rfl).cell 3
        refine bodyPost_ret (v := .agg #[.int .i64 kk, .int .i64 ll, .slice A77_81 PL.length c77_81, .int .i64 0]) (by simp [results, Try.results38, go_sem, hr82, hr83, hr84, hr85]) rfl ?_
        rw [HG.out]; exact ⟨_, _, rfl, hst81.own' 4 rfl, hst81.ext⟩
end Go.Proofs.Ytkkldciofndedaa

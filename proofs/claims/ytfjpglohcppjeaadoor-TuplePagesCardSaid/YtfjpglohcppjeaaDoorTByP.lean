/- Reading what was written: the bytes of a valid version, field by field. -/
import Derived.Test.YtfjpglohcppjeaaDoorBl
import Derived.Test.YtfjpglohcppjeaaDoorTRd
import Derived.Test.YtfjpglohcppjeaaDoorT12
import Derived.Test.YtfjpglohcppjeaaDoorT5
namespace Go.Proofs.YtfjpglohcppjeaaDoor
open Go.RowKit
set_option linter.unusedVariables false
set_option linter.unusedSimpArgs false

theorem bl_strL (l : List UInt8) : bl (strL l) = l := by simp [bl, strL]
theorem bl_catS (l : List ByteArray) : bl (catS l) = l.flatMap bl := by rw [catS, bl_strL]; rfl
theorem putS_bl (n : Int) (k : Nat) (h : k ≤ 8) : (bl (putS n k)).length = k := by rw [bl_len, putS_size n k h]
theorem hot_bd (ho : Bool) : 0 ≤ hotI ho ∧ hotI ho ≤ 1 := by cases ho <;> decide
theorem hot_eq (ho : Bool) : (hotI ho == 1) = ho := by cases ho <;> rfl
section
variable {a b n1 n2 : Int} {ho : Bool} {rs : List Val}
theorem tb_bl (h : trightF a b n1 n2 rs = true) : bl (tbytesF a b n1 n2 ho rs) = bl (putS a 1) ++ (bl (putS b 1) ++ (bl (putS (n1 + 1) 2) ++ (bl (putS n2 1) ++ (bl (putS (hotI ho) 1) ++ (bl (putS (vbytesF rs).size 2) ++ bl (vbytesF rs)))))) := by
  rw [tbytesF, if_pos h, bl_catS]
  simp [textO, bl_append]
theorem tb_size (h : trightF a b n1 n2 rs = true) : (tbytesF a b n1 n2 ho rs).size = 8 + (vbytesF rs).size := by
  rw [← bl_len, tb_bl h]
  simp only [List.length_append, putS_bl _ 1 (by omega), putS_bl _ 2 (by omega), bl_len]
  omega
theorem tb_0 (h : trightF a b n1 n2 rs = true) : (numS (tbytesF a b n1 n2 ho rs) 0 1 : Int) = a := by
  have hp := tright_parts h
  rw [numS_at (a := []) (p := 0) (tb_bl h) rfl (putS_bl _ 1 (by omega)), putS_num1 a (by omega) (by omega)]
theorem tb_1 (h : trightF a b n1 n2 rs = true) : (numS (tbytesF a b n1 n2 ho rs) 1 1 : Int) = b := by
  have hp := tright_parts h
  rw [numS_at (a := bl (putS a 1)) (p := 1) (tb_bl h) (putS_bl _ 1 (by omega)) (putS_bl _ 1 (by omega)), putS_num1 b (by omega) (by omega)]
theorem tb_2 (h : trightF a b n1 n2 rs = true) : (numS (tbytesF a b n1 n2 ho rs) 2 2 : Int) = n1 + 1 := by
  have hp := tright_parts h
  rw [numS_at (p := 2) (a := bl (putS a 1) ++ bl (putS b 1)) (by rw [tb_bl h, List.append_assoc]) (by rw [List.length_append, putS_bl _ 1 (by omega), putS_bl _ 1 (by omega)]) (putS_bl _ 2 (by omega)), putS_num2 (n1 + 1) (by omega) (by omega)]
theorem tb_4 (h : trightF a b n1 n2 rs = true) : (numS (tbytesF a b n1 n2 ho rs) 4 1 : Int) = n2 := by
  have hp := tright_parts h
  rw [numS_at (p := 4) (a := bl (putS a 1) ++ (bl (putS b 1) ++ bl (putS (n1 + 1) 2))) (b := bl (putS n2 1)) (c := bl (putS (hotI ho) 1) ++ (bl (putS (vbytesF rs).size 2) ++ bl (vbytesF rs))) (by rw [tb_bl h]; simp) (by simp only [List.length_append, putS_bl _ 1 (by omega), putS_bl _ 2 (by omega)]) (putS_bl _ 1 (by omega)), putS_num1 n2 (by omega) (by omega)]
theorem tb_5 (h : trightF a b n1 n2 rs = true) : (numS (tbytesF a b n1 n2 ho rs) 5 1 : Int) = hotI ho := by
  have hp := tright_parts h
  have hh := hot_bd ho
  rw [numS_at (p := 5) (a := bl (putS a 1) ++ (bl (putS b 1) ++ (bl (putS (n1 + 1) 2) ++ bl (putS n2 1)))) (b := bl (putS (hotI ho) 1)) (c := (bl (putS (vbytesF rs).size 2) ++ bl (vbytesF rs))) (by rw [tb_bl h]; simp) (by simp only [List.length_append, putS_bl _ 1 (by omega), putS_bl _ 2 (by omega)]) (putS_bl _ 1 (by omega)), putS_num1 (hotI ho) (by omega) (by omega)]
theorem tb_6 (h : trightF a b n1 n2 rs = true) : numS (tbytesF a b n1 n2 ho rs) 6 2 = (vbytesF rs).size := by
  have hv := vbytes_size rs
  have e := numS_at (s := tbytesF a b n1 n2 ho rs) (a := bl (putS a 1) ++ (bl (putS b 1) ++ (bl (putS (n1 + 1) 2) ++ (bl (putS n2 1) ++ bl (putS (hotI ho) 1))))) (b := bl (putS (vbytesF rs).size 2)) (c := bl (vbytesF rs)) (by rw [tb_bl h]; simp) (p := 6) (by simp only [List.length_append, putS_bl _ 1 (by omega), putS_bl _ 2 (by omega)]) (putS_bl _ 2 (by omega))
  have e2 := putS_num2 ((vbytesF rs).size : Int) (by omega) (by omega)
  rw [e]; omega
theorem tb_t (h : trightF a b n1 n2 rs = true) : textS (tbytesF a b n1 n2 ho rs) 6 = vbytesF rs := by
  have e : bl (tbytesF a b n1 n2 ho rs) = (bl (putS a 1) ++ (bl (putS b 1) ++ (bl (putS (n1 + 1) 2) ++ (bl (putS n2 1) ++ (bl (putS (hotI ho) 1) ++ bl (putS (vbytesF rs).size 2)))))) ++ (bl (vbytesF rs) ++ []) := by rw [tb_bl h]; simp
  rw [textS, tb_6 h, extr_at e (p := 6 + 2) (by simp only [List.length_append, putS_bl _ 1 (by omega), putS_bl _ 2 (by omega)]) (by rw [bl_len]), baOf_bl]
theorem plain_right (v : Val) : vrightF (plainV v) = vrightF v := by
  simp only [vrightF, plainV]
  by_cases h : v.1 = 2
  · simp [h]
  · have : (v.1 != 2) = true := by simpa using h
    rw [this]; simp
theorem plain_rright (rs : List Val) : rrightF (plainR rs) = rrightF rs := by
  simp only [rrightF, plainR, List.all_map, List.length_map]
  congr 2
  funext v
  exact plain_right v
theorem plain_valB (v : Val) : valB (plainV v) = valB v := by
  simp only [valB, plainV]
  by_cases h1 : v.1 = 1
  · simp [h1]
  · by_cases h2 : v.1 = 2
    · simp [h2]
    · simp [h1, h2]
theorem plain_vbytes (rs : List Val) : vbytesF (plainR rs) = vbytesF rs := by
  simp only [vbytesF, plain_rright]
  split
  · have hv : plainR rs = rs.map plainV := rfl
    simp only [bytesTo, plainR, List.length_map, ← List.map_take, List.flatMap_map]
    congr 2
    congr 1
    funext v
    exact plain_valB v
  · rfl
theorem plain_tright : trightF a b n1 n2 (plainR rs) = trightF a b n1 n2 rs := by rw [trightF, trightF, plain_rright]
theorem plain_tbytes : tbytesF a b n1 n2 ho (plainR rs) = tbytesF a b n1 n2 ho rs := by rw [tbytesF, tbytesF, plain_tright, plain_vbytes]
def NsOk (rs : List Val) : Prop := ∀ v ∈ rs, v.1 = 1 → -9223372036854775808 ≤ v.2.1 ∧ v.2.1 ≤ 9223372036854775807
theorem tread_of (w : World) (h : trightF a b n1 n2 rs = true) (hrN : NsOk rs) (hN : NoneAt w) : Calls Tryd.prog 15 #[.string (tbytesF a b n1 n2 ho rs)] w (VerRd a b n1 n2 ho (plainR rs) 0 w) := by
  have hr := (tright_parts h).2.2.2.2.2.2.2.2
  have hl6 := rright_len hr
  have hv := vbytes_size rs
  have HV : ∀ w, Calls Tryd.prog 54 #[.string (textS (tbytesF a b n1 n2 ho rs) 6)] w (RdRow (plainR rs) w) := fun w => by
    rw [tb_t h, vbytes_eq hr]
    refine (vread_any rs _ w hr hrN (u8_int (by omega))).mono ?_
    rintro e w' ⟨A, c, he, ho', hx⟩
    have hlen : (plainR rs).length = rs.length := by simp [plainR]
    exact ⟨A, c, by rw [hlen]; exact he, by rw [hlen]; exact ho', hx⟩
  have h2 := tread_good (tbytesF a b n1 n2 ho rs) (plainR rs) w (by rw [tb_size h]; omega) (by rw [tb_size h]; omega) (by rw [tb_size h, tb_6 h]; omega) (by simp only [plainR, List.length_map]; omega) hN HV (by
    rw [tb_0 h, tb_1 h, tb_2 h, tb_4 h, tb_5 h, hot_eq, show n1 + 1 - 1 = n1 by omega]; exact plain_tbytes)
  rw [tb_0 h, tb_1 h, tb_2 h, tb_4 h, tb_5 h, hot_eq, show n1 + 1 - 1 = n1 by omega] at h2
  exact h2
end
set_option maxRecDepth 100000 in
set_option maxHeartbeats 2000000 in
theorem tread_nil  (w : World) :
    Calls Tryd.prog 15 #[.string ByteArray.empty] w (Ret (.tuple #[.agg #[.int .i64 0, .int .i64 0, .int .i64 0, .int .i64 0, .bool false, .slice none 0 0], .int .i64 10]) w) := by
  go_enter Tryd.func15, Tryd.ntmps15
  have hst0 := St.start w
  refine wp_seq ?_
  refine wp_region_T [0, 0] [] [[0]] [] [.a 2, .k 3 (.int .i64 0)] (fun ix σ β X => match ix with | 0 => σ 2 = .pointer (some ⟨(pb (β 2)), 0, none⟩) ∧ X 0 = eB (pb (β 2)) 27 #[.int .i64 0, .int .i64 0, .int .i64 0, .int .i64 0, .bool false, .slice none 0 0] | _ => True) [0] [0] [(2, 0, 2, 4)] hst0 ?_ ?_ ?_
  · exact fun ix _ _ _ _ _ _ hs hb hx h => match ix, h with
    | 0, h => by dsimp only at h ⊢; rw [← hs 2 rfl, ← hb 2 rfl, ← hx 0 rfl]; exact h
    | _ + 1, _ => trivial
  · refine ⟨?_, trivial⟩
    · refine sv_any rfl rfl fun ρ β W X cx => ?_
      exact dv_alloc (cs := #[.int .i64 0, .int .i64 0, .int .i64 0, .int .i64 0, .bool false, .slice none 0 0]) rfl (by kernel_rfl) rfl rfl (fun σ β' X' hs hb hv hx => ⟨hv, hx⟩)
  intro σ β X W1 hD hX hst1 fr hfr
  obtain ⟨B2_1, hu_B2_1⟩ : ∃ z, pb (β 2) = z := ⟨_, rfl⟩
  simp only [zM, exq 0 ((dTn (hD 0 lq)).2), hu_B2_1] at hst1
  dsimp only [mgT, vals, List.take, List.drop, List.cons_append, List.nil_append] at hfr
  simp only [ed 2 ((dTn (hD 0 lq)).1), hu_B2_1] at hfr
  clear hX hD hu_B2_1; subst hfr; clear σ β X
  refine then_normal ?_
  refine wp_seq ?_
  refine wp_region_T [0, 1, 3] [] [[], [1]] [] [.k 9 (.string ByteArray.empty), .a 10, .a 4] (fun ix σ β X => match ix with | 0 => True | 1 => σ 10 = .pointer (some ⟨(pb (β 10)), 0, none⟩) ∧ X 1 = eB (pb (β 10)) 154 #[.string ByteArray.empty, .int .i64 0, .bool false] | 2 => σ 4 = .pointer (some ⟨(pb (β 10)), 0, none⟩) | _ => True) [0, 1] [1, 2] [(4, 2, 1, 5), (4, 0, 2, 6)] hst1 ?_ ?_ ?_
  · exact fun ix _ _ _ _ _ _ hs hb hx h => match ix, h with
    | 1, h => by dsimp only at h ⊢; rw [← hs 10 rfl, ← hb 10 rfl, ← hx 1 rfl]; exact h
    | 2, h => by dsimp only at h ⊢; rw [← hs 4 rfl, ← hb 10 rfl]; exact h
    | 0, _ | _ + 3, _ => trivial
  · refine ⟨?_, ?_, trivial⟩
    · refine sv_any rfl rfl fun ρ β W X cx => ?_
      refine DoesU.call (run_callF (args := #[.string ByteArray.empty]) rfl cx.sees rfl (by kernel_rfl) (map1 (cx.anc 0 rfl))) ?_
      refine (oread_b ByteArray.empty _).mono ?_
      rintro e W1 ⟨B4, rfl, ⟨hb4, hw4⟩, hx⟩
      refine ⟨_, rfl, post_call [eB B4 154 #[.string ByteArray.empty, .int .i64 0, .bool false]] rfl rfl hx (one_new ⟨hb4, eB_loc _ _ _, fun k hk => by simp [eB] at hk; subst hk; exact ⟨hw4, hb4.lt⟩⟩) (List.pairwise_singleton _ _) (fun σ β' X' hs hb hv hN => ?_)⟩
      have hv1 := (hv 10 rfl).1; have hv2 := (hv 10 rfl).2
      exact ⟨hv1.trans (by rw [hv2]; rfl), (by rw [hv2]; exact (List.cons.inj hN).1)⟩
    · exact sv rfl rfl rfl rfl rfl _ (fun _ _ _ h => h) (fun β β' h => by rw [h 10 (by decide)]) fun ρ β W X cx => run_assign' rfl (dTn (cx.anc 1 rfl)).1
  intro σ β X W2 hD hX hst2 fr hfr
  obtain ⟨B10_2, hu_B10_2⟩ : ∃ z, pb (β 10) = z := ⟨_, rfl⟩
  simp only [zM, exq 0 (hX 0 _ rfl), exq 1 ((dTn (hD 1 lq)).2), hu_B10_2] at hst2
  dsimp only [mgT, vals, List.take, List.drop, List.cons_append, List.nil_append] at hfr
  simp only [ed 10 ((dTn (hD 1 lq)).1), ed 4 ((dTn (hD 2 lq))), hu_B10_2] at hfr
  clear hX hD hu_B10_2; subst hfr; clear σ β X
  refine then_normal ?_
  refine wp_seq ?_
  refine wp_region_T [0, 1, 0, 7, 15, 0, 63] [[], [1], [], [2], [], [], [4]] [[], [2], [], [3], [], [4], [5]] [[], [1], [], [2], [], [], [4]] [.k 11 (.pointer (some ⟨B10_2, 0, none⟩)), .a 12, .k 13 (.pointer (some ⟨B10_2, 0, none⟩)), .a 14, .c 15 (.agg #[.int .i64 0, .int .i64 0, .int .i64 0, .int .i64 0, .bool false, .slice none 0 0]), .a 5, .n] (fun ix σ β X => match ix with | 0 => True | 1 => σ 12 = .int .i64 0 ∧ X 2 = eB B10_2 154 #[.string ByteArray.empty, .int .i64 0, .bool true] | 2 => True | 3 => σ 14 = .int .i64 0 ∧ X 3 = eB B10_2 154 #[.string ByteArray.empty, .int .i64 0, .bool true] | 4 => True | 5 => σ 5 = .pointer (some ⟨(pb (β 5)), 0, none⟩) ∧ X 4 = eB (pb (β 5)) 27 #[.int .i64 0, .int .i64 0, .int .i64 0, .int .i64 0, .bool false, .slice none 0 0] | 6 => X 5 = eB (pb (β 5)) 27 #[.int .i64 0, .int .i64 0, .int .i64 0, .int .i64 0, .bool false, .slice none 0 0] | _ => True) [0, 3, 5] [1, 3, 4, 5, 6] [(5, 5, 1, 6), (5, 0, 5, 10)] hst2 ?_ ?_ ?_
  · exact fun ix _ _ _ _ _ _ hs hb hx h => match ix, h with
    | 1, h => by dsimp only at h ⊢; rw [← hs 12 rfl, ← hx 2 rfl]; exact h
    | 3, h => by dsimp only at h ⊢; rw [← hs 14 rfl, ← hx 3 rfl]; exact h
    | 5, h => by dsimp only at h ⊢; rw [← hs 5 rfl, ← hb 5 rfl, ← hx 4 rfl]; exact h
    | 6, h => by dsimp only at h ⊢; rw [← hb 5 rfl, ← hx 5 rfl]; exact h
    | 0, _ | 2, _ | 4, _ | _ + 7, _ => trivial
  · refine ⟨?_, ?_, ?_, ?_, ?_, trivial⟩
    · refine sv_any rfl rfl fun ρ β W X cx => ?_
      refine DoesU.call (run_callF (args := #[.pointer (some ⟨B10_2, 0, none⟩), .int .i64 1]) rfl cx.sees rfl (by kernel_rfl) (map2 (cx.anc 0 rfl) (cx.sees.const _))) ?_
      refine (num_bad _ ByteArray.empty 0 1 false _ ⟨(cx.blk (cx.init 1 _ rfl) rfl), by decide, by decide⟩ (by omega) (.inr (by decide))).mono ?_
      rintro e W1 ⟨rfl, hrd, hu⟩
      refine ⟨_, rfl, post_mut (cx.init 1 _ rfl) rfl rfl hu hrd.1 (fun σ β' X' hs hb hv hx => ?_)⟩
      exact ⟨(hv 12 rfl).1.trans rfl, hx⟩
    · refine sv_any rfl rfl fun ρ β W X cx => ?_
      refine DoesU.call (run_callF (args := #[.pointer (some ⟨B10_2, 0, none⟩), .int .i64 1]) rfl cx.sees rfl (by kernel_rfl) (map2 (cx.anc 2 rfl) (cx.sees.const _))) ?_
      refine (num_bad _ ByteArray.empty 0 1 true _ ⟨(cx.blk (dTn (cx.anc 1 rfl)).2 rfl), by decide, by decide⟩ (by omega) (.inl rfl)).mono ?_
      rintro e W1 ⟨rfl, hrd, hu⟩
      refine ⟨_, rfl, post_mut (dTn (cx.anc 1 rfl)).2 rfl rfl hu hrd.1 (fun σ β' X' hs hb hv hx => ?_)⟩
      exact ⟨(hv 14 rfl).1.trans rfl, hx⟩
    · exact s4 rfl (fun _ _ _ h => h) fun cx => run_buildL rfl (pmc (dTn (cx.anc 1 rfl)).1 (pmc (dTn (cx.anc 3 rfl)).1 pmn)) (by kernel_rfl)
    · refine sv_any rfl rfl fun ρ β W X cx => ?_
      exact dv_alloc (cs := #[.int .i64 0, .int .i64 0, .int .i64 0, .int .i64 0, .bool false, .slice none 0 0]) rfl (by kernel_rfl) rfl rfl (fun σ β' X' hs hb hv hx => ⟨hv, hx⟩)
    · refine sv_any rfl rfl fun ρ β W X cx => ?_
      exact dv_store (n := 6) rfl (dTn (cx.anc 5 rfl)).1 (cx.anc 4 rfl) (by kernel_rfl) (by kernel_rfl) (by kernel_rfl) cx (dTn (cx.anc 5 rfl)).2 rfl (Nat.le_of_ble_eq_true rfl) (by kernel_rfl) rfl rfl rfl (fun σ β' X' hs hb hx => by rw [hb 5]; exact hx)
  intro σ β X W3 hD hX hst3 fr hfr
  obtain ⟨B5_3, hu_B5_3⟩ : ∃ z, pb (β 5) = z := ⟨_, rfl⟩
  simp only [zM, exq 0 (hX 0 _ rfl), exq 3 ((dTn (hD 3 lq)).2), exq 5 ((dTn (hD 6 lq))), hu_B5_3] at hst3
  dsimp only [mgT, vals, List.take, List.drop, List.cons_append, List.nil_append] at hfr
  simp only [ed 12 ((dTn (hD 1 lq)).1), ed 14 ((dTn (hD 3 lq)).1), ed 5 ((dTn (hD 5 lq)).1), hu_B5_3] at hfr
  clear hX hD hu_B5_3; subst hfr; clear σ β X
  refine then_normal ?_
  refine wp_seq ?_
  refine wp_region_T [0, 1, 3, 0, 11, 31, 63, 127] [[], [1], [], [], [3], [], [], [2]] [[], [3], [], [], [4], [], [], [5]] [[], [1], [], [], [3], [], [], [2]] [.k 16 (.pointer (some ⟨B10_2, 0, none⟩)), .a 17, .c 18 (.int .i64 (-1)), .k 19 (.pointer (some ⟨B10_2, 0, none⟩)), .a 20, .c 21 (.agg #[.int .i64 (-1), .int .i64 0]), .k 22 (.pointer (some ⟨B5_3, 2, none⟩)), .n] (fun ix σ β X => match ix with | 0 => True | 1 => σ 17 = .int .i64 0 ∧ X 3 = eB B10_2 154 #[.string ByteArray.empty, .int .i64 0, .bool true] | 2 => True | 3 => True | 4 => σ 20 = .int .i64 0 ∧ X 4 = eB B10_2 154 #[.string ByteArray.empty, .int .i64 0, .bool true] | 5 => True | 6 => True | 7 => X 5 = eB B5_3 27 #[.int .i64 0, .int .i64 0, .int .i64 (-1), .int .i64 0, .bool false, .slice none 0 0] | _ => True) [0, 4, 5] [1, 2, 4, 5, 7] [(16, 0, 7, 23)] hst3 ?_ ?_ ?_
  · exact fun ix _ _ _ _ _ _ hs hb hx h => match ix, h with
    | 1, h => by dsimp only at h ⊢; rw [← hs 17 rfl, ← hx 3 rfl]; exact h
    | 4, h => by dsimp only at h ⊢; rw [← hs 20 rfl, ← hx 4 rfl]; exact h
    | 7, h => by dsimp only at h ⊢; rw [← hx 5 rfl]; exact h
    | 0, _ | 2, _ | 3, _ | 5, _ | 6, _ | _ + 8, _ => trivial
  · refine ⟨?_, ?_, ?_, ?_, ?_, trivial⟩
    · refine sv_any rfl rfl fun ρ β W X cx => ?_
      refine DoesU.call (run_callF (args := #[.pointer (some ⟨B10_2, 0, none⟩), .int .i64 2]) rfl cx.sees rfl (by kernel_rfl) (map2 (cx.anc 0 rfl) (cx.sees.const _))) ?_
      refine (num_bad _ ByteArray.empty 0 2 true _ ⟨(cx.blk (cx.init 1 _ rfl) rfl), by decide, by decide⟩ (by omega) (.inl rfl)).mono ?_
      rintro e W1 ⟨rfl, hrd, hu⟩
      refine ⟨_, rfl, post_mut (cx.init 1 _ rfl) rfl rfl hu hrd.1 (fun σ β' X' hs hb hv hx => ?_)⟩
      exact ⟨(hv 17 rfl).1.trans rfl, hx⟩
    · exact s4 rfl (fun _ _ _ h => h) fun cx => run_bin rfl (dTn (cx.anc 1 rfl)).1 (cx.sees.const _) rfl
    · refine sv_any rfl rfl fun ρ β W X cx => ?_
      refine DoesU.call (run_callF (args := #[.pointer (some ⟨B10_2, 0, none⟩), .int .i64 1]) rfl cx.sees rfl (by kernel_rfl) (map2 (cx.anc 3 rfl) (cx.sees.const _))) ?_
      refine (num_bad _ ByteArray.empty 0 1 true _ ⟨(cx.blk (dTn (cx.anc 1 rfl)).2 rfl), by decide, by decide⟩ (by omega) (.inl rfl)).mono ?_
      rintro e W1 ⟨rfl, hrd, hu⟩
      refine ⟨_, rfl, post_mut (dTn (cx.anc 1 rfl)).2 rfl rfl hu hrd.1 (fun σ β' X' hs hb hv hx => ?_)⟩
      exact ⟨(hv 20 rfl).1.trans rfl, hx⟩
    · exact s4 rfl (fun _ _ _ h => h) fun cx => run_buildL rfl (pmc (cx.anc 2 rfl) (pmc (dTn (cx.anc 4 rfl)).1 pmn)) (by kernel_rfl)
    · refine sv_any rfl rfl fun ρ β W X cx => ?_
      exact dv_store (n := 2) rfl (cx.anc 6 rfl) (cx.anc 5 rfl) (by kernel_rfl) (by kernel_rfl) (by kernel_rfl) cx (cx.init 2 _ rfl) rfl (Nat.le_of_ble_eq_true rfl) (by kernel_rfl) rfl rfl rfl (fun σ β' X' hs hb hx => hx)
  intro σ β X W4 hD hX hst4 fr hfr
  simp only [zM, exq 0 (hX 0 _ rfl), exq 4 ((dTn (hD 4 lq)).2), exq 5 ((dTn (hD 7 lq)))] at hst4
  dsimp only [mgT, vals, List.take, List.drop, List.cons_append, List.nil_append] at hfr
  simp only [ed 17 ((dTn (hD 1 lq)).1), ed 20 ((dTn (hD 4 lq)).1)] at hfr
  clear hX hD; subst hfr; clear σ β X
  refine then_normal ?_
  refine wp_seq ?_
  refine wp_region_T [0, 1, 3, 7, 15] [[], [1], [], [], [2]] [[], [3], [], [], [4]] [[], [1], [], [], [2]] [.k 23 (.pointer (some ⟨B10_2, 0, none⟩)), .a 24, .c 25 (.bool false), .k 26 (.pointer (some ⟨B5_3, 4, none⟩)), .n] (fun ix σ β X => match ix with | 0 => True | 1 => σ 24 = .int .i64 0 ∧ X 3 = eB B10_2 154 #[.string ByteArray.empty, .int .i64 0, .bool true] | 2 => True | 3 => True | 4 => X 4 = eB B5_3 27 #[.int .i64 0, .int .i64 0, .int .i64 (-1), .int .i64 0, .bool false, .slice none 0 0] | _ => True) [0, 3, 4] [1, 2, 4] [(23, 0, 4, 27)] hst4 ?_ ?_ ?_
  · exact fun ix _ _ _ _ _ _ hs hb hx h => match ix, h with
    | 1, h => by dsimp only at h ⊢; rw [← hs 24 rfl, ← hx 3 rfl]; exact h
    | 4, h => by dsimp only at h ⊢; rw [← hx 4 rfl]; exact h
    | 0, _ | 2, _ | 3, _ | _ + 5, _ => trivial
  · refine ⟨?_, ?_, ?_, trivial⟩
    · refine sv_any rfl rfl fun ρ β W X cx => ?_
      refine DoesU.call (run_callF (args := #[.pointer (some ⟨B10_2, 0, none⟩), .int .i64 1]) rfl cx.sees rfl (by kernel_rfl) (map2 (cx.anc 0 rfl) (cx.sees.const _))) ?_
      refine (num_bad _ ByteArray.empty 0 1 true _ ⟨(cx.blk (cx.init 1 _ rfl) rfl), by decide, by decide⟩ (by omega) (.inl rfl)).mono ?_
      rintro e W1 ⟨rfl, hrd, hu⟩
      refine ⟨_, rfl, post_mut (cx.init 1 _ rfl) rfl rfl hu hrd.1 (fun σ β' X' hs hb hv hx => ?_)⟩
      exact ⟨(hv 24 rfl).1.trans rfl, hx⟩
    · exact s4 rfl (fun _ _ _ h => h) fun cx => run_bin rfl (dTn (cx.anc 1 rfl)).1 (cx.sees.const _) rfl
    · refine sv_any rfl rfl fun ρ β W X cx => ?_
      exact dv_store (n := 1) rfl (cx.anc 3 rfl) (cx.anc 2 rfl) (by kernel_rfl) (by kernel_rfl) (by kernel_rfl) cx (cx.init 2 _ rfl) rfl (Nat.le_of_ble_eq_true rfl) (by kernel_rfl) rfl rfl rfl (fun σ β' X' hs hb hx => hx)
  intro σ β X W5 hD hX hst5 fr hfr
  simp only [zM, exq 0 (hX 0 _ rfl), exq 3 ((dTn (hD 1 lq)).2), exq 4 ((dTn (hD 4 lq)))] at hst5
  dsimp only [mgT, vals, List.take, List.drop, List.cons_append, List.nil_append] at hfr
  simp only [ed 24 ((dTn (hD 1 lq)).1)] at hfr
  clear hX hD; subst hfr; clear σ β X
  refine then_normal ?_
  refine wp_seq ?_
  refine wp_region_T [0, 1, 3] [[], [1]] [[], [3]] [[], [1]] [.k 27 (.pointer (some ⟨B10_2, 0, none⟩)), .a 28, .c 6 (.string ByteArray.empty)] (fun ix σ β X => match ix with | 0 => True | 1 => σ 28 = .string ByteArray.empty ∧ X 3 = eB B10_2 154 #[.string ByteArray.empty, .int .i64 0, .bool true] | _ => True) [0, 2, 3] [1, 2] [(6, 2, 1, 7), (20, 0, 2, 22)] hst5 ?_ ?_ ?_
  · exact fun ix _ _ _ _ _ _ hs hb hx h => match ix, h with
    | 1, h => by dsimp only at h ⊢; rw [← hs 28 rfl, ← hx 3 rfl]; exact h
    | 0, _ | _ + 2, _ => trivial
  · refine ⟨?_, ?_, trivial⟩
    · refine sv_any rfl rfl fun ρ β W X cx => ?_
      refine DoesU.call (run_callF (args := #[.pointer (some ⟨B10_2, 0, none⟩)]) rfl cx.sees rfl (by kernel_rfl) (map1 (cx.anc 0 rfl))) ?_
      refine (text_bad _ ByteArray.empty 0 true _ ⟨(cx.blk (cx.init 1 _ rfl) rfl), by decide, by decide⟩ (.inl rfl)).mono ?_
      rintro e W1 ⟨rfl, hrd, hu⟩
      refine ⟨_, rfl, post_mut (cx.init 1 _ rfl) rfl rfl hu hrd.1 (fun σ β' X' hs hb hv hx => ?_)⟩
      exact ⟨(hv 28 rfl).1.trans rfl, hx⟩
    · exact s4 rfl (fun _ _ _ h => h) fun cx => run_assign' rfl (dTn (cx.anc 1 rfl)).1
  intro σ β X W6 hD hX hst6 fr hfr
  simp only [zM, exq 0 (hX 0 _ rfl), exq 2 (hX 2 _ rfl), exq 3 ((dTn (hD 1 lq)).2)] at hst6
  dsimp only [mgT, vals, List.take, List.drop, List.cons_append, List.nil_append] at hfr
  simp only [ed 28 ((dTn (hD 1 lq)).1)] at hfr
  clear hX hD; subst hfr; clear σ β X
  refine then_normal ?_
  refine wp_seq ?_
  refine wp_seq ?_
  refine wp_region_T [0, 1] [[], [2]] [] [] [.k 29 (.pointer (some ⟨B10_2, 0, none⟩)), .a 30] (fun ix σ β X => match ix with | 0 => True | 1 => σ 30 = .bool true | _ => True) [0, 1, 2] [1] [(29, 0, 2, 31)] hst6 ?_ ?_ ?_
  · exact fun ix _ _ _ _ _ _ hs hb hx h => match ix, h with
    | 1, h => (hs _ rfl).symm.trans h
    | 0, _ | _ + 2, _ => trivial
  · refine ⟨?_, trivial⟩
    · refine sv_any rfl rfl fun ρ β W X cx => ?_
      refine DoesU.call (run_callF (args := #[.pointer (some ⟨B10_2, 0, none⟩)]) rfl cx.sees rfl (by kernel_rfl) (map1 (cx.anc 0 rfl))) ?_
      refine (failed_any _ ByteArray.empty 0 true _ ⟨(cx.blk (cx.init 2 _ rfl) rfl), by decide, by decide⟩).mono ?_
      rintro e W1 ⟨rfl, rfl⟩
      refine ⟨_, rfl, post_call [] rfl rfl (Ext.refl _) (by simp) List.Pairwise.nil (fun σ β' X' hs hb hv hN => ?_)⟩
      have hv1 := (hv 30 rfl).1; have hv2 := (hv 30 rfl).2
      exact hv1.trans rfl
  intro σ β X W7 hD hX hst7 fr hfr
  simp only [zM, exq 0 (hX 0 _ rfl), exq 1 (hX 1 _ rfl), exq 2 (hX 2 _ rfl)] at hst7
  dsimp only [mgT, vals, List.take, List.drop, List.cons_append, List.nil_append] at hfr
  simp only [ed 30 ((dTn (hD 1 lq)))] at hfr
  clear hX hD; subst hfr; clear σ β X
  refine then_normal ?_
  refine wp_cond_true (show Act.eval _ _ = .bool true from rfl) ?_
  refine wp_seq ?_
  refine wp_region_T [0, 1, 3] [[], [0]] [[], [3]] [[], [0]] [.k 31 (.agg #[.int .i64 0, .int .i64 0, .int .i64 0, .int .i64 0, .bool false, .slice none 0 0]), .n, .k 3 (.int .i64 10)] (fun ix σ β X => match ix with | 0 => True | 1 => X 3 = eB B2_1 27 #[.int .i64 0, .int .i64 0, .int .i64 0, .int .i64 0, .bool false, .slice none 0 0] | _ => True) [1, 2, 3] [1] [(3, 2, 1, 4), (27, 0, 1, 28)] hst7 ?_ ?_ ?_
  · exact fun ix _ _ _ _ _ _ hs hb hx h => match ix, h with
    | 1, h => by dsimp only at h ⊢; rw [← hx 3 rfl]; exact h
    | 0, _ | _ + 2, _ => trivial
  · refine ⟨?_, trivial⟩
    · refine sv_any rfl rfl fun ρ β W X cx => ?_
      exact dv_store (n := 6) rfl (cx.out 2 rfl) (cx.anc 0 rfl) (by kernel_rfl) (by kernel_rfl) (by kernel_rfl) cx (cx.init 0 _ rfl) rfl (Nat.le_of_ble_eq_true rfl) (by kernel_rfl) rfl rfl rfl (fun σ β' X' hs hb hx => hx)
  intro σ β X W8 hD hX hst8 fr hfr
  simp only [zM, exq 1 (hX 1 _ rfl), exq 2 (hX 2 _ rfl), exq 3 ((dTn (hD 1 lq)))] at hst8
  dsimp only [mgT, vals, List.take, List.drop, List.cons_append, List.nil_append] at hfr
  clear hX hD; subst hfr; clear σ β X
  refine then_normal ?_
  refine wp_ret ?_
  refine then_ret ?_
  have hr9 : W8.cell? ⟨B2_1, 0, none⟩ = some (.int .i64 0) := (hst8.blk 2 rfl).cell 0
  have hr10 : W8.cell? ⟨B2_1, 1, none⟩ = some (.int .i64 0) := (hst8.blk 2 rfl).cell 1
  have hr11 : W8.cell? ⟨B2_1, 2, none⟩ = some (.int .i64 0) := (hst8.blk 2 rfl).cell 2
  have hr12 : W8.cell? ⟨B2_1, 3, none⟩ = some (.int .i64 0) := (hst8.blk 2 rfl).cell 3
  have hr13 : W8.cell? ⟨B2_1, 4, none⟩ = some (.bool false) := (hst8.blk 2 rfl).cell 4
  have hr14 : W8.cell? ⟨B2_1, 5, none⟩ = some (.slice none 0 0) := (hst8.blk 2 rfl).cell 5
  refine bodyPost_ret (v := .tuple #[.agg #[.int .i64 0, .int .i64 0, .int .i64 0, .int .i64 0, .bool false, .slice none 0 0], .int .i64 10]) (by simp [results, Tryd.results15, go_sem, hr9, hr10, hr11, hr12, hr13, hr14]) rfl ?_
  exact Ret.of rfl hst8.ext

end Go.Proofs.YtfjpglohcppjeaaDoor

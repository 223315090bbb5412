/- the walk of TupleBytes. -/
import Derived.Test.YtfjpglohcppjeaaDoorTRef2
import Derived.Test.YtfjpglohcppjeaaDoorTFew
import Derived.Test.YtfjpglohcppjeaaDoorT13
namespace Go.Proofs.YtfjpglohcppjeaaDoor
open Go.RowKit
set_option linter.unusedVariables false
set_option linter.unusedSimpArgs false

theorem digA_size : ∀ (f : Nat) (m : Int) (s : ByteArray), (digA f m s).size ≤ f + s.size
  | 0, _, s => by rw [digA]; omega
  | f + 1, m, s => by
    rw [digA]
    split
    · omega
    · have := digA_size f (m / 10) (oneS (48 + m % 10) ++ s)
      rw [ByteArray.size_append, oneS_size] at this
      omega
theorem digF_size (n : Int) : (digF n).size ≤ 6 := by
  rw [digF, digG]
  simp only [if_true]
  have := digA_size 5 (n / 10) (oneS (48 + n % 10) ++ ⟨#[]⟩)
  rw [ByteArray.size_append, oneS_size] at this
  have h0 : (⟨#[]⟩ : ByteArray).size = 0 := rfl
  omega
theorem valF_ok {x : Int} (h : 0 ≤ x) : vrightF (valF x) = true ∧ plainV (valF x) = valF x ∧ -9223372036854775808 ≤ (valF x).2.1 ∧ (valF x).2.1 ≤ 9223372036854775807 := by
  unfold valF
  split
  · exact ⟨by decide, rfl, by decide, by decide⟩
  · split
    · have hs : ((⟨#[97, 98, 99]⟩ : ByteArray).extract 0 (x / 5 % 4).toNat).size ≤ 40 := by
        rw [ByteArray.size_extract]
        have : (⟨#[97, 98, 99]⟩ : ByteArray).size = 3 := rfl
        omega
      refine ⟨?_, rfl, by show (-9223372036854775808 : Int) ≤ 0; decide, by show (0 : Int) ≤ _; decide⟩
      simp only [vrightF, knownF]
      simpa using hs
    · split
      · have hs := digF_size (x / 5)
        refine ⟨?_, rfl, by show (-9223372036854775808 : Int) ≤ 0; decide, by show (0 : Int) ≤ _; decide⟩
        simp only [vrightF, knownF]
        have : (digF (x / 5)).size ≤ 40 := by omega
        simpa using this
      · refine ⟨rfl, rfl, ?_, ?_⟩
        · show _ ≤ x / 5 % 9 - 2; omega
        · show x / 5 % 9 - 2 ≤ _; omega
theorem madeR_mem {k : Nat} {l : List Int} {v : Val} (h : v ∈ madeR k l) : ∃ x : Int, 0 ≤ x ∧ v = valF x := by
  simp only [madeR, List.mem_map, List.mem_range] at h
  obtain ⟨i, _, rfl⟩ := h
  exact ⟨_, by omega, rfl⟩
theorem made_plain (l : List Int) : plainR (vrowF l) = vrowF l := by
  rw [plainR, vrowF]
  have : ∀ rs : List Val, (∀ v ∈ rs, plainV v = v) → rs.map plainV = rs := fun rs h => by
    induction rs with
    | nil => rfl
    | cons a rs ih => rw [List.map_cons, h a (List.mem_cons_self ..), ih fun v hv => h v (List.mem_cons_of_mem _ hv)]
  exact this _ fun v hv => by obtain ⟨x, hx, rfl⟩ := madeR_mem hv; exact (valF_ok hx).2.1
theorem made_ns (l : List Int) : NsOk (vrowF l) := fun v hv _ => by
  rw [vrowF] at hv
  obtain ⟨x, hx, rfl⟩ := madeR_mem hv
  exact (valF_ok hx).2.2
theorem made_rright (l : List Int) : rrightF (vrowF l) = true := by
  rw [rrightF, Bool.and_eq_true, decide_eq_true_eq, List.all_eq_true]
  refine ⟨fun v hv => ?_, ?_⟩
  · rw [vrowF] at hv
    obtain ⟨x, hx, rfl⟩ := madeR_mem hv
    exact (valF_ok hx).1
  · rw [vrowF, madeR_len]; omega
theorem made_right (l : List Int) : trightF (vminF l) (vmaxF l) (vpgF l) (vslF l) (vrowF l) = true := by
  rw [trightF, made_rright, Bool.and_true, Bool.and_eq_true, Bool.and_eq_true]
  refine ⟨⟨?_, ?_⟩, ?_⟩
  · simp only [onF, Bool.or_eq_true, Bool.and_eq_true, beq_iff_eq, decide_eq_true_eq]; rw [vminF]; omega
  · simp only [onZ, onF, Bool.or_eq_true, Bool.and_eq_true, beq_iff_eq, decide_eq_true_eq]; rw [vmaxF]; split <;> omega
  · simp only [tnextF, Bool.or_eq_true, Bool.and_eq_true, beq_iff_eq, decide_eq_true_eq]; rw [vpgF, vslF]; split <;> omega
theorem few_ns {rs : List Val} (h : NsOk rs) : NsOk (fewF rs) := fun v hv h1 => by
  simp only [fewF, fewK, List.mem_map] at hv
  obtain ⟨u, hu, rfl⟩ := hv
  exact h u (List.mem_of_mem_take hu) h1
theorem tb_none {a b n1 n2 : Int} {ho : Bool} {rs : List Val} (h : trightF a b n1 n2 rs = false) : tbytesF a b n1 n2 ho rs = ByteArray.empty := by rw [tbytesF, if_neg (by simp [h])]
theorem tread_none {a b n1 n2 : Int} {ho : Bool} {rs : List Val} (w : World) (h : trightF a b n1 n2 rs = false) : Calls Tryd.prog 15 #[.string (tbytesF a b n1 n2 ho rs)] w (Ret (.tuple #[.agg #[.int .i64 0, .int .i64 0, .int .i64 0, .int .i64 0, .bool false, .slice none 0 0], .int .i64 10]) w) := by
  rw [tb_none h]; exact tread_nil w
theorem tread_made (l : List Int) (w : World) (hN : NoneAt w) : Calls Tryd.prog 15 #[.string (tbytesF (vminF l) (vmaxF l) (vpgF l) (vslF l) (vhotF l) (vrowF l))] w (VerRd (vminF l) (vmaxF l) (vpgF l) (vslF l) (vhotF l) (vrowF l) 0 w) := by
  have h := tread_of (ho := vhotF l) w (made_right l) (made_ns l) hN
  rw [made_plain] at h
  exact h
theorem sameV_self' {a b n1 n2 : Int} {ho : Bool} {rs : List Val} : sameV a b n1 n2 ho rs a b n1 n2 ho rs = true := by simp [sameV]
set_option maxRecDepth 100000 in
set_option maxHeartbeats 16000000 in
theorem tuplebytes_any (a b n1 n2 : Int) (ho : Bool) (RA : Option Addr) (rc : Nat) (rs : List Val) (LA0 : Option Addr) (c0 : Nat) (l : List Int) (w : World) (hA : At w RA (flatR rs)) (hlr : rs.length ≤ 9223372036854775807) (hrN : NsOk rs) (hA0 : At w LA0 (l.map (Value.int .i64))) (hl0 : l.length ≤ 9223372036854775807) (hN : NoneAt w) :
    Calls Tryd.prog 3 #[.agg #[.int .i64 a, .int .i64 b, .int .i64 n1, .int .i64 n2, .bool ho, .slice RA rs.length rc], .slice LA0 l.length c0] w (Ret (.bool true) w) := by
  have hvr : (vrowF l).length ≤ 3 := by rw [vrowF, madeR_len]; omega
  have hfr := few_len8 rs
  go_enter Tryd.func3, Tryd.ntmps3
  have hst0 := St.start w
  refine wp_seq ?_
  refine wp_region_T [0, 0] [] [[0]] [] [.a 2, .k 4 (.bool false)] (fun ix σ β X => match ix with | 0 => σ 2 = .pointer (some ⟨(pb (β 2)), 0, none⟩) ∧ X 0 = eB (pb (β 2)) 27 #[.int .i64 a, .int .i64 b, .int .i64 n1, .int .i64 n2, .bool ho, .slice RA rs.length rc] | _ => True) [0] [0] [(2, 0, 1, 3), (1, 1, 1, 2)] hst0 ?_ ?_ ?_
  · exact fun ix _ _ _ _ _ _ hs hb hx h => match ix, h with
    | 0, h => by dsimp only at h ⊢; rw [← hs 2 rfl, ← hb 2 rfl, ← hx 0 rfl]; exact h
    | _ + 1, _ => trivial
  · refine ⟨?_, trivial⟩
    · refine sv_any rfl rfl fun ρ β W X cx => ?_
      exact dv_box (cs := #[.int .i64 a, .int .i64 b, .int .i64 n1, .int .i64 n2, .bool ho, .slice RA rs.length rc]) rfl (cx.out 0 rfl) rfl rfl rfl (fun σ β' X' hs hb hv hx => ⟨hv, hx⟩)
  intro σ β X W1 hD hX hst1 fr hfr
  obtain ⟨B2_1, hu_B2_1⟩ : ∃ z, pb (β 2) = z := ⟨_, rfl⟩
  simp only [zM, exq 0 ((dTn (hD 0 lq)).2), hu_B2_1] at hst1
  dsimp only [mgT, vals, List.take, List.drop, List.cons_append, List.nil_append] at hfr
  simp only [ed 2 ((dTn (hD 0 lq)).1), hu_B2_1] at hfr
  clear hX hD hu_B2_1; subst hfr; clear σ β X
  refine then_normal ?_
  refine wp_seq ?_
  refine wp_region_T [0, 1] [] [] [] [.c 12 (.bool true), .k 5 (.bool true)] (fun _ _ _ _ => True) [0] [0] [(5, 1, 1, 6), (6, 0, 1, 7)] hst1 ?_ ?_ ?_
  · exact fun _ _ _ _ _ _ _ _ _ _ h => h
  · refine ⟨?_, trivial⟩
    · exact sv_call rfl rfl rfl rfl rfl (fun _ _ _ h => h) fun ρ β W X cx => ⟨_, _, run_callF (args := #[]) rfl cx.sees rfl (by kernel_rfl) map0, sanity_any _ (hN.ext cx.upd.to_ext)⟩
  intro σ β X W2 hD hX hst2 fr hfr
  simp only [zM, exq 0 (hX 0 _ rfl)] at hst2
  dsimp only [mgT, vals, List.take, List.drop, List.cons_append, List.nil_append] at hfr
  clear hX hD; subst hfr; clear σ β X
  refine then_normal ?_
  refine wp_seq ?_
  refine wp_region_T [0, 1, 3] [[0], [], [0]] [[], [1], [2]] [[], [], [0]] [.c 13 (.agg #[.int .i64 a, .int .i64 b, .int .i64 n1, .int .i64 n2, .bool ho, .slice RA rs.length rc]), .a 14, .n] (fun ix σ β X => match ix with | 0 => True | 1 => σ 14 = .agg #[.int .i64 a, .int .i64 b, .int .i64 n1, .int .i64 n2, .bool ho, .slice (sA (tg (β 14) 5)) ((fewF rs).length) (sC (tg (β 14) 5))] ∧ X 1 = eO 103 3 (.slice (sA (tg (β 14) 5)) ((fewF rs).length) (sC (tg (β 14) 5))) ((fewF rs).length) (flatR (fewF rs)) | 2 => X 2 = eB B2_1 27 #[.int .i64 a, .int .i64 b, .int .i64 n1, .int .i64 n2, .bool ho, .slice (sA (tg (β 14) 5)) ((fewF rs).length) (sC (tg (β 14) 5))] | _ => True) [1, 2] [0, 1, 2] [(13, 0, 2, 15)] hst2 ?_ ?_ ?_
  · exact fun ix _ _ _ _ _ _ hs hb hx h => match ix, h with
    | 1, h => by dsimp only at h ⊢; rw [← hs 14 rfl, ← hb 14 rfl, ← hx 1 rfl]; exact h
    | 2, h => by dsimp only at h ⊢; rw [← hb 14 rfl, ← hx 2 rfl]; exact h
    | 0, _ | _ + 3, _ => trivial
  · refine ⟨?_, ?_, ?_, trivial⟩
    · exact s4 rfl (fun _ _ _ h => h) fun cx => run_loadB (n := 6) rfl (by kernel_rfl) (by kernel_rfl) (cx.out 2 rfl) (cx.blk (cx.init 0 _ rfl) rfl) (Nat.le_of_ble_eq_true rfl) rfl
    · refine sv_any rfl rfl fun ρ β W X cx => ?_
      refine DoesU.call (run_callF (args := #[.agg #[.int .i64 a, .int .i64 b, .int .i64 n1, .int .i64 n2, .bool ho, .slice RA rs.length rc]]) rfl cx.sees rfl (by kernel_rfl) (map1 (cx.anc 0 rfl))) ?_
      refine (few_any _ _ _ _ _ _ _ rs _ (hA.ext cx.upd.to_ext) (by omega)).mono ?_
      rintro e W1 ⟨A4, c4, rfl, ho, hx⟩
      refine ⟨_, rfl, post_call [eO 103 3 (.slice A4 ((fewF rs).length) c4) ((fewF rs).length) (flatR (fewF rs))] rfl rfl hx (one_new (eO_new ho)) (List.pairwise_singleton _ _) (fun σ β' X' hs hb hv hN => ?_)⟩
      have hv1 := (hv 14 rfl).1; have hv2 := (hv 14 rfl).2
      exact ⟨hv1.trans (by rw [hv2]; rfl), (by rw [hv2]; exact (List.cons.inj hN).1)⟩
    · refine sv_any rfl rfl fun ρ β W X cx => ?_
      exact dv_store (n := 6) rfl (cx.out 2 rfl) (dTn (cx.anc 1 rfl)).1 (by kernel_rfl) (by kernel_rfl) (by kernel_rfl) cx (cx.init 0 _ rfl) rfl (Nat.le_of_ble_eq_true rfl) (by kernel_rfl) rfl rfl rfl (fun σ β' X' hs hb hx => by rw [hb 14]; exact hx)
  intro σ β X W3 hD hX hst3 fr hfr
  obtain ⟨A14_3, hu_A14_3⟩ : ∃ z, sA (tg (β 14) 5) = z := ⟨_, rfl⟩
  obtain ⟨c14_3, hu_c14_3⟩ : ∃ z, sC (tg (β 14) 5) = z := ⟨_, rfl⟩
  simp only [zM, exq 1 ((dTn (hD 1 lq)).2), exq 2 ((dTn (hD 2 lq))), hu_A14_3, hu_c14_3] at hst3
  dsimp only [mgT, vals, List.take, List.drop, List.cons_append, List.nil_append] at hfr
  simp only [ed 14 ((dTn (hD 1 lq)).1), hu_A14_3, hu_c14_3] at hfr
  clear hX hD hu_A14_3 hu_c14_3; subst hfr; clear σ β X
  refine then_normal ?_
  refine wp_seq ?_
  refine wp_region_T [0, 1, 0, 7] [[], [], [], [3]] [[], [2], [3], [4]] [[], [], [], [3]] [.k 15 (.slice LA0 l.length c0), .a 16, .a 6, .n] (fun ix σ β X => match ix with | 0 => True | 1 => σ 16 = .agg #[.int .i64 (vminF l), .int .i64 (vmaxF l), .int .i64 (vpgF l), .int .i64 (vslF l), .bool (vhotF l), .slice (sA (tg (β 16) 5)) ((vrowF l).length) (sC (tg (β 16) 5))] ∧ X 2 = eO 103 3 (.slice (sA (tg (β 16) 5)) ((vrowF l).length) (sC (tg (β 16) 5))) ((vrowF l).length) (flatR (vrowF l)) | 2 => σ 6 = .pointer (some ⟨(pb (β 6)), 0, none⟩) ∧ X 3 = eB (pb (β 6)) 27 #[.int .i64 0, .int .i64 0, .int .i64 0, .int .i64 0, .bool false, .slice none 0 0] | 3 => X 4 = eB (pb (β 6)) 27 #[.int .i64 (vminF l), .int .i64 (vmaxF l), .int .i64 (vpgF l), .int .i64 (vslF l), .bool (vhotF l), .slice (sA (tg (β 16) 5)) ((vrowF l).length) (sC (tg (β 16) 5))] | _ => True) [0, 1, 2, 4] [1, 2, 3] [(6, 2, 1, 7), (8, 0, 2, 10)] hst3 ?_ ?_ ?_
  · exact fun ix _ _ _ _ _ _ hs hb hx h => match ix, h with
    | 1, h => by dsimp only at h ⊢; rw [← hs 16 rfl, ← hb 16 rfl, ← hx 2 rfl]; exact h
    | 2, h => by dsimp only at h ⊢; rw [← hs 6 rfl, ← hb 6 rfl, ← hx 3 rfl]; exact h
    | 3, h => by dsimp only at h ⊢; rw [← hb 6 rfl, ← hb 16 rfl, ← hx 4 rfl]; exact h
    | 0, _ | _ + 4, _ => trivial
  · refine ⟨?_, ?_, ?_, trivial⟩
    · refine sv_any rfl rfl fun ρ β W X cx => ?_
      refine DoesU.call (run_callF (args := #[.slice LA0 l.length c0]) rfl cx.sees rfl (by kernel_rfl) (map1 (cx.anc 0 rfl))) ?_
      refine (made08_any _ _ l _ (hA0.ext cx.upd.to_ext) (by omega)).mono ?_
      rintro e W1 ⟨A4, c4, rfl, ho, hx⟩
      refine ⟨_, rfl, post_call [eO 103 3 (.slice A4 ((vrowF l).length) c4) ((vrowF l).length) (flatR (vrowF l))] rfl rfl hx (one_new (eO_new ho)) (List.pairwise_singleton _ _) (fun σ β' X' hs hb hv hN => ?_)⟩
      have hv1 := (hv 16 rfl).1; have hv2 := (hv 16 rfl).2
      exact ⟨hv1.trans (by rw [hv2]; rfl), (by rw [hv2]; exact (List.cons.inj hN).1)⟩
    · refine sv_any rfl rfl fun ρ β W X cx => ?_
      exact dv_alloc (cs := #[.int .i64 0, .int .i64 0, .int .i64 0, .int .i64 0, .bool false, .slice none 0 0]) rfl (by kernel_rfl) rfl rfl (fun σ β' X' hs hb hv hx => ⟨hv, hx⟩)
    · refine sv_any rfl rfl fun ρ β W X cx => ?_
      exact dv_store (n := 6) rfl (dTn (cx.anc 2 rfl)).1 (dTn (cx.anc 1 rfl)).1 (by kernel_rfl) (by kernel_rfl) (by kernel_rfl) cx (dTn (cx.anc 2 rfl)).2 rfl (Nat.le_of_ble_eq_true rfl) (by kernel_rfl) rfl rfl rfl (fun σ β' X' hs hb hx => by rw [hb 6, hb 16]; exact hx)
  intro σ β X W4 hD hX hst4 fr hfr
  obtain ⟨A16_4, hu_A16_4⟩ : ∃ z, sA (tg (β 16) 5) = z := ⟨_, rfl⟩
  obtain ⟨c16_4, hu_c16_4⟩ : ∃ z, sC (tg (β 16) 5) = z := ⟨_, rfl⟩
  obtain ⟨B6_4, hu_B6_4⟩ : ∃ z, pb (β 6) = z := ⟨_, rfl⟩
  simp only [zM, exq 0 (hX 0 _ rfl), exq 1 (hX 1 _ rfl), exq 2 ((dTn (hD 1 lq)).2), exq 4 ((dTn (hD 3 lq))), hu_A16_4, hu_c16_4, hu_B6_4] at hst4
  dsimp only [mgT, vals, List.take, List.drop, List.cons_append, List.nil_append] at hfr
  simp only [ed 16 ((dTn (hD 1 lq)).1), ed 6 ((dTn (hD 2 lq)).1), hu_A16_4, hu_c16_4, hu_B6_4] at hfr
  clear hX hD hu_A16_4 hu_c16_4 hu_B6_4; subst hfr; clear σ β X
  refine then_normal ?_
  refine wp_seq ?_
  have hns8 := few_ns hrN
  have hpl : (plainR (fewF rs)).length = (fewF rs).length := by simp [plainR]
  rcases Bool.eq_false_or_eq_true (trightF a b n1 n2 (fewF rs)) with ht | ht
  · skip
    refine wp_region_T [0, 1, 3, 7, 15, 15, 0, 95, 255] [[1], [0], [], [], [], [], [], [5]] [[], [], [4], [], [], [], [5], [6]] [[], [], [], [], [], [], [], [5]] [.c 18 (.agg #[.int .i64 a, .int .i64 b, .int .i64 n1, .int .i64 n2, .bool ho, .slice A14_3 ((fewF rs).length) c14_3]), .c 19 (.string (tbytesF a b n1 n2 ho (fewF rs))), .a 20, .a 17, .a 21, .c 22 (.int .i64 0), .a 7, .n, .k 8 (.int .i64 0)] (fun ix σ β X => match ix with | 0 => True | 1 => True | 2 => σ 20 = .tuple #[.agg #[.int .i64 a, .int .i64 b, .int .i64 n1, .int .i64 n2, .bool ho, .slice (sA (tg (tg (β 20) 0) 5)) ((plainR (fewF rs)).length) (sC (tg (tg (β 20) 0) 5))], .int .i64 0] ∧ X 4 = eO 103 3 (.slice (sA (tg (tg (β 20) 0) 5)) ((plainR (fewF rs)).length) (sC (tg (tg (β 20) 0) 5))) ((plainR (fewF rs)).length) (flatR (plainR (fewF rs))) | 3 => σ 17 = .tuple #[.agg #[.int .i64 a, .int .i64 b, .int .i64 n1, .int .i64 n2, .bool ho, .slice (sA (tg (tg (β 20) 0) 5)) ((plainR (fewF rs)).length) (sC (tg (tg (β 20) 0) 5))], .int .i64 0] | 4 => σ 21 = .agg #[.int .i64 a, .int .i64 b, .int .i64 n1, .int .i64 n2, .bool ho, .slice (sA (tg (tg (β 20) 0) 5)) ((plainR (fewF rs)).length) (sC (tg (tg (β 20) 0) 5))] | 5 => True | 6 => σ 7 = .pointer (some ⟨(pb (β 7)), 0, none⟩) ∧ X 5 = eB (pb (β 7)) 27 #[.int .i64 0, .int .i64 0, .int .i64 0, .int .i64 0, .bool false, .slice none 0 0] | 7 => X 6 = eB (pb (β 7)) 27 #[.int .i64 a, .int .i64 b, .int .i64 n1, .int .i64 n2, .bool ho, .slice (sA (tg (tg (β 20) 0) 5)) ((plainR (fewF rs)).length) (sC (tg (tg (β 20) 0) 5))] | _ => True) [0, 1, 2, 3, 4, 6] [0, 1, 2, 3, 4, 5, 6, 7] [(7, 6, 3, 9), (8, 3, 1, 9), (0, 0, 3, 3), (0, 4, 2, 2)] hst4 ?_ ?_ ?_
    · exact fun ix _ _ _ _ _ _ hs hb hx h => match ix, h with
      | 2, h => by dsimp only at h ⊢; rw [← hs 20 rfl, ← hb 20 rfl, ← hx 4 rfl]; exact h
      | 3, h => by dsimp only at h ⊢; rw [← hs 17 rfl, ← hb 20 rfl]; exact h
      | 4, h => by dsimp only at h ⊢; rw [← hs 21 rfl, ← hb 20 rfl]; exact h
      | 6, h => by dsimp only at h ⊢; rw [← hs 7 rfl, ← hb 7 rfl, ← hx 5 rfl]; exact h
      | 7, h => by dsimp only at h ⊢; rw [← hb 7 rfl, ← hb 20 rfl, ← hx 6 rfl]; exact h
      | 0, _ | 1, _ | 5, _ | _ + 8, _ => trivial
    · refine ⟨?_, ?_, ?_, ?_, ?_, ?_, ?_, ?_, trivial⟩
      · exact s4 rfl (fun _ _ _ h => h) fun cx => run_loadB (n := 6) rfl (by kernel_rfl) (by kernel_rfl) (cx.out 2 rfl) (cx.blk (cx.init 1 _ rfl) rfl) (Nat.le_of_ble_eq_true rfl) rfl
      · exact sv_call rfl rfl rfl rfl rfl (fun _ _ _ h => h) fun ρ β W X cx => ⟨_, _, run_callF (args := #[.agg #[.int .i64 a, .int .i64 b, .int .i64 n1, .int .i64 n2, .bool ho, .slice A14_3 ((fewF rs).length) c14_3]]) rfl cx.sees rfl (by kernel_rfl) (map1 (cx.anc 0 rfl)), tbytes_any a b n1 n2 ho _ _ (fewF rs) _ (At.of_ownN (cx.row (cx.init 0 _ rfl) rfl)) (by first | omega | decide | (simp; done) | (simp; omega)) (hN.ext cx.upd.to_ext)⟩
      · refine sv_any rfl rfl fun ρ β W X cx => ?_
        refine DoesU.call (run_callF (args := #[.string (tbytesF a b n1 n2 ho (fewF rs))]) rfl cx.sees rfl (by kernel_rfl) (map1 (cx.anc 1 rfl))) ?_
        refine (tread_of _ ht hns8 (hN.ext cx.upd.to_ext)).mono ?_
        rintro e W1 ⟨A4, c4, rfl, ho_, hx⟩
        refine ⟨_, rfl, post_call [eO 103 3 (.slice A4 ((plainR (fewF rs)).length) c4) ((plainR (fewF rs)).length) (flatR (plainR (fewF rs)))] rfl rfl hx (one_new (eO_new ho_)) (List.pairwise_singleton _ _) (fun σ β' X' hs hb hv hN => ?_)⟩
        have hv1 := (hv 20 rfl).1; have hv2 := (hv 20 rfl).2
        exact ⟨hv1.trans (by rw [hv2]; rfl), (by rw [hv2]; exact (List.cons.inj hN).1)⟩
      · exact sv rfl rfl rfl rfl rfl _ (fun _ _ _ h => h) (fun β β' h => by rw [h 20 (by decide)]) fun ρ β W X cx => run_move' rfl (dTn (cx.anc 2 rfl)).1
      · exact sv rfl rfl rfl rfl rfl _ (fun _ _ _ h => h) (fun β β' h => by rw [h 20 (by decide)]) fun ρ β W X cx => run_extract' rfl (dTn (cx.anc 3 rfl)) rfl
      · exact s4 rfl (fun _ _ _ h => h) fun cx => run_extract' rfl (dTn (cx.anc 3 rfl)) rfl
      · refine sv_any rfl rfl fun ρ β W X cx => ?_
        exact dv_alloc (cs := #[.int .i64 0, .int .i64 0, .int .i64 0, .int .i64 0, .bool false, .slice none 0 0]) rfl (by kernel_rfl) rfl rfl (fun σ β' X' hs hb hv hx => ⟨hv, hx⟩)
      · refine sv_any rfl rfl fun ρ β W X cx => ?_
        exact dv_store (n := 6) rfl (dTn (cx.anc 6 rfl)).1 (dTn (cx.anc 4 rfl)) (by kernel_rfl) (by kernel_rfl) (by kernel_rfl) cx (dTn (cx.anc 6 rfl)).2 rfl (Nat.le_of_ble_eq_true rfl) (by kernel_rfl) rfl rfl rfl (fun σ β' X' hs hb hx => by rw [hb 7, hb 20]; exact hx)
    intro σ β X W5 hD hX hst5 fr hfr
    obtain ⟨A20_5, hu_A20_5⟩ : ∃ z, sA (tg (tg (β 20) 0) 5) = z := ⟨_, rfl⟩
    obtain ⟨c20_5, hu_c20_5⟩ : ∃ z, sC (tg (tg (β 20) 0) 5) = z := ⟨_, rfl⟩
    obtain ⟨B7_5, hu_B7_5⟩ : ∃ z, pb (β 7) = z := ⟨_, rfl⟩
    simp only [zM, exq 0 (hX 0 _ rfl), exq 1 (hX 1 _ rfl), exq 2 (hX 2 _ rfl), exq 3 (hX 3 _ rfl), exq 4 ((dTn (hD 2 lq)).2), exq 6 ((dTn (hD 7 lq))), hu_A20_5, hu_c20_5, hu_B7_5] at hst5
    dsimp only [mgT, vals, List.take, List.drop, List.cons_append, List.nil_append] at hfr
    simp only [ed 20 ((dTn (hD 2 lq)).1), ed 17 ((dTn (hD 3 lq))), ed 21 ((dTn (hD 4 lq))), ed 7 ((dTn (hD 6 lq)).1), hu_A20_5, hu_c20_5, hu_B7_5] at hfr
    clear hX hD hu_A20_5 hu_c20_5 hu_B7_5; subst hfr; clear σ β X
    refine then_normal ?_
    refine wp_seq ?_
    refine wp_region_T [0, 1, 3, 7, 15, 15, 0, 95, 255] [[3], [2], [], [], [], [], [], [7]] [[], [], [6], [], [], [], [7], [8]] [[], [], [], [], [], [], [], [7]] [.c 24 (.agg #[.int .i64 (vminF l), .int .i64 (vmaxF l), .int .i64 (vpgF l), .int .i64 (vslF l), .bool (vhotF l), .slice A16_4 ((vrowF l).length) c16_4]), .c 25 (.string (tbytesF (vminF l) (vmaxF l) (vpgF l) (vslF l) (vhotF l) (vrowF l))), .a 26, .a 23, .a 27, .c 28 (.int .i64 0), .a 9, .n, .k 10 (.int .i64 0)] (fun ix σ β X => match ix with | 0 => True | 1 => True | 2 => σ 26 = .tuple #[.agg #[.int .i64 (vminF l), .int .i64 (vmaxF l), .int .i64 (vpgF l), .int .i64 (vslF l), .bool (vhotF l), .slice (sA (tg (tg (β 26) 0) 5)) ((vrowF l).length) (sC (tg (tg (β 26) 0) 5))], .int .i64 0] ∧ X 6 = eO 103 3 (.slice (sA (tg (tg (β 26) 0) 5)) ((vrowF l).length) (sC (tg (tg (β 26) 0) 5))) ((vrowF l).length) (flatR (vrowF l)) | 3 => σ 23 = .tuple #[.agg #[.int .i64 (vminF l), .int .i64 (vmaxF l), .int .i64 (vpgF l), .int .i64 (vslF l), .bool (vhotF l), .slice (sA (tg (tg (β 26) 0) 5)) ((vrowF l).length) (sC (tg (tg (β 26) 0) 5))], .int .i64 0] | 4 => σ 27 = .agg #[.int .i64 (vminF l), .int .i64 (vmaxF l), .int .i64 (vpgF l), .int .i64 (vslF l), .bool (vhotF l), .slice (sA (tg (tg (β 26) 0) 5)) ((vrowF l).length) (sC (tg (tg (β 26) 0) 5))] | 5 => True | 6 => σ 9 = .pointer (some ⟨(pb (β 9)), 0, none⟩) ∧ X 7 = eB (pb (β 9)) 27 #[.int .i64 0, .int .i64 0, .int .i64 0, .int .i64 0, .bool false, .slice none 0 0] | 7 => X 8 = eB (pb (β 9)) 27 #[.int .i64 (vminF l), .int .i64 (vmaxF l), .int .i64 (vpgF l), .int .i64 (vslF l), .bool (vhotF l), .slice (sA (tg (tg (β 26) 0) 5)) ((vrowF l).length) (sC (tg (tg (β 26) 0) 5))] | _ => True) [0, 1, 2, 3, 4, 5, 6, 8] [0, 1, 2, 3, 4, 5, 6, 7] [(9, 6, 3, 11), (12, 3, 1, 13), (0, 0, 3, 3), (0, 4, 2, 2)] hst5 ?_ ?_ ?_
    · exact fun ix _ _ _ _ _ _ hs hb hx h => match ix, h with
      | 2, h => by dsimp only at h ⊢; rw [← hs 26 rfl, ← hb 26 rfl, ← hx 6 rfl]; exact h
      | 3, h => by dsimp only at h ⊢; rw [← hs 23 rfl, ← hb 26 rfl]; exact h
      | 4, h => by dsimp only at h ⊢; rw [← hs 27 rfl, ← hb 26 rfl]; exact h
      | 6, h => by dsimp only at h ⊢; rw [← hs 9 rfl, ← hb 9 rfl, ← hx 7 rfl]; exact h
      | 7, h => by dsimp only at h ⊢; rw [← hb 9 rfl, ← hb 26 rfl, ← hx 8 rfl]; exact h
      | 0, _ | 1, _ | 5, _ | _ + 8, _ => trivial
    · refine ⟨?_, ?_, ?_, ?_, ?_, ?_, ?_, ?_, trivial⟩
      · exact s4 rfl (fun _ _ _ h => h) fun cx => run_loadB (n := 6) rfl (by kernel_rfl) (by kernel_rfl) (cx.out 6 rfl) (cx.blk (cx.init 3 _ rfl) rfl) (Nat.le_of_ble_eq_true rfl) rfl
      · exact sv_call rfl rfl rfl rfl rfl (fun _ _ _ h => h) fun ρ β W X cx => ⟨_, _, run_callF (args := #[.agg #[.int .i64 (vminF l), .int .i64 (vmaxF l), .int .i64 (vpgF l), .int .i64 (vslF l), .bool (vhotF l), .slice A16_4 ((vrowF l).length) c16_4]]) rfl cx.sees rfl (by kernel_rfl) (map1 (cx.anc 0 rfl)), tbytes_any (vminF l) (vmaxF l) (vpgF l) (vslF l) (vhotF l) _ _ (vrowF l) _ (At.of_ownN (cx.row (cx.init 2 _ rfl) rfl)) (by first | omega | decide | (simp; done) | (simp; omega)) (hN.ext cx.upd.to_ext)⟩
      · refine sv_any rfl rfl fun ρ β W X cx => ?_
        refine DoesU.call (run_callF (args := #[.string (tbytesF (vminF l) (vmaxF l) (vpgF l) (vslF l) (vhotF l) (vrowF l))]) rfl cx.sees rfl (by kernel_rfl) (map1 (cx.anc 1 rfl))) ?_
        refine (tread_made l _ (hN.ext cx.upd.to_ext)).mono ?_
        rintro e W1 ⟨A4, c4, rfl, ho_, hx⟩
        refine ⟨_, rfl, post_call [eO 103 3 (.slice A4 ((vrowF l).length) c4) ((vrowF l).length) (flatR (vrowF l))] rfl rfl hx (one_new (eO_new ho_)) (List.pairwise_singleton _ _) (fun σ β' X' hs hb hv hN => ?_)⟩
        have hv1 := (hv 26 rfl).1; have hv2 := (hv 26 rfl).2
        exact ⟨hv1.trans (by rw [hv2]; rfl), (by rw [hv2]; exact (List.cons.inj hN).1)⟩
      · exact sv rfl rfl rfl rfl rfl _ (fun _ _ _ h => h) (fun β β' h => by rw [h 26 (by decide)]) fun ρ β W X cx => run_move' rfl (dTn (cx.anc 2 rfl)).1
      · exact sv rfl rfl rfl rfl rfl _ (fun _ _ _ h => h) (fun β β' h => by rw [h 26 (by decide)]) fun ρ β W X cx => run_extract' rfl (dTn (cx.anc 3 rfl)) rfl
      · exact s4 rfl (fun _ _ _ h => h) fun cx => run_extract' rfl (dTn (cx.anc 3 rfl)) rfl
      · refine sv_any rfl rfl fun ρ β W X cx => ?_
        exact dv_alloc (cs := #[.int .i64 0, .int .i64 0, .int .i64 0, .int .i64 0, .bool false, .slice none 0 0]) rfl (by kernel_rfl) rfl rfl (fun σ β' X' hs hb hv hx => ⟨hv, hx⟩)
      · refine sv_any rfl rfl fun ρ β W X cx => ?_
        exact dv_store (n := 6) rfl (dTn (cx.anc 6 rfl)).1 (dTn (cx.anc 4 rfl)) (by kernel_rfl) (by kernel_rfl) (by kernel_rfl) cx (dTn (cx.anc 6 rfl)).2 rfl (Nat.le_of_ble_eq_true rfl) (by kernel_rfl) rfl rfl rfl (fun σ β' X' hs hb hx => by rw [hb 9, hb 26]; exact hx)
    intro σ β X W6 hD hX hst6 fr hfr
    obtain ⟨A26_6, hu_A26_6⟩ : ∃ z, sA (tg (tg (β 26) 0) 5) = z := ⟨_, rfl⟩
    obtain ⟨c26_6, hu_c26_6⟩ : ∃ z, sC (tg (tg (β 26) 0) 5) = z := ⟨_, rfl⟩
    obtain ⟨B9_6, hu_B9_6⟩ : ∃ z, pb (β 9) = z := ⟨_, rfl⟩
    simp only [zM, exq 0 (hX 0 _ rfl), exq 1 (hX 1 _ rfl), exq 2 (hX 2 _ rfl), exq 3 (hX 3 _ rfl), exq 4 (hX 4 _ rfl), exq 5 (hX 5 _ rfl), exq 6 ((dTn (hD 2 lq)).2), exq 8 ((dTn (hD 7 lq))), hu_A26_6, hu_c26_6, hu_B9_6] at hst6
    dsimp only [mgT, vals, List.take, List.drop, List.cons_append, List.nil_append] at hfr
    simp only [ed 26 ((dTn (hD 2 lq)).1), ed 23 ((dTn (hD 3 lq))), ed 27 ((dTn (hD 4 lq))), ed 9 ((dTn (hD 6 lq)).1), hu_A26_6, hu_c26_6, hu_B9_6] at hfr
    clear hX hD hu_A26_6 hu_c26_6 hu_B9_6; subst hfr; clear σ β X
    refine then_normal ?_
    refine wp_seq ?_
    refine wp_region_T [0, 1, 3, 7, 15] [[], [1], [0], [], [1]] [[], [], [8], [], [9]] [[], [], [], [], [1]] [.k 29 (.pointer (some ⟨B2_1, 5, none⟩)), .c 30 (.slice A14_3 ((fewF rs).length) c14_3), .a 31, .k 32 (.pointer (some ⟨B2_1, 5, none⟩)), .n] (fun ix σ β X => match ix with | 0 => True | 1 => True | 2 => σ 31 = .slice (sA (β 31)) ((plainR (fewF rs)).length) (sC (β 31)) ∧ X 8 = eO 103 3 (.slice (sA (β 31)) ((plainR (fewF rs)).length) (sC (β 31))) ((plainR (fewF rs)).length) (flatR (plainR (fewF rs))) | 3 => True | 4 => X 9 = eB B2_1 27 #[.int .i64 a, .int .i64 b, .int .i64 n1, .int .i64 n2, .bool ho, .slice (sA (β 31)) ((plainR (fewF rs)).length) (sC (β 31))] | _ => True) [0, 2, 3, 4, 5, 6, 7, 8, 9] [1, 2, 4] [(29, 0, 4, 33)] hst6 ?_ ?_ ?_
    · exact fun ix _ _ _ _ _ _ hs hb hx h => match ix, h with
      | 2, h => by dsimp only at h ⊢; rw [← hs 31 rfl, ← hb 31 rfl, ← hx 8 rfl]; exact h
      | 4, h => by dsimp only at h ⊢; rw [← hb 31 rfl, ← hx 9 rfl]; exact h
      | 0, _ | 1, _ | 3, _ | _ + 5, _ => trivial
    · refine ⟨?_, ?_, ?_, trivial⟩
      · exact s4 rfl (fun _ _ _ h => h) fun cx => run_load1 rfl (by kernel_rfl) (cx.anc 0 rfl) ((cx.blk (cx.init 1 _ rfl) rfl).cell 5)
      · refine sv_any rfl rfl fun ρ β W X cx => ?_
        refine DoesU.call (run_callF (args := #[.slice A14_3 ((fewF rs).length) c14_3]) rfl cx.sees rfl (by kernel_rfl) (map1 (cx.anc 1 rfl))) ?_
        refine (r02plain_any _ _ (fewF rs) _ (At.of_ownN (cx.row (cx.init 0 _ rfl) rfl)) (by first | omega | (simp; omega))).mono ?_
        rintro e W1 ⟨A4, c4, rfl, ho_, hx⟩
        refine ⟨_, rfl, post_call [eO 103 3 (.slice A4 ((plainR (fewF rs)).length) c4) ((plainR (fewF rs)).length) (flatR (plainR (fewF rs)))] rfl rfl hx (one_new (eO_new ho_)) (List.pairwise_singleton _ _) (fun σ β' X' hs hb hv hN => ?_)⟩
        have hv1 := (hv 31 rfl).1; have hv2 := (hv 31 rfl).2
        exact ⟨hv1.trans (by rw [hv2]; rfl), (by rw [hv2]; exact (List.cons.inj hN).1)⟩
      · refine sv_any rfl rfl fun ρ β W X cx => ?_
        exact dv_store (n := 1) rfl (cx.anc 3 rfl) (dTn (cx.anc 2 rfl)).1 (by kernel_rfl) (by kernel_rfl) (by kernel_rfl) cx (cx.init 1 _ rfl) rfl (Nat.le_of_ble_eq_true rfl) (by kernel_rfl) rfl rfl rfl (fun σ β' X' hs hb hx => by rw [hb 31]; exact hx)
    intro σ β X W7 hD hX hst7 fr hfr
    obtain ⟨A31_7, hu_A31_7⟩ : ∃ z, sA (β 31) = z := ⟨_, rfl⟩
    obtain ⟨c31_7, hu_c31_7⟩ : ∃ z, sC (β 31) = z := ⟨_, rfl⟩
    simp only [zM, exq 0 (hX 0 _ rfl), exq 2 (hX 2 _ rfl), exq 3 (hX 3 _ rfl), exq 4 (hX 4 _ rfl), exq 5 (hX 5 _ rfl), exq 6 (hX 6 _ rfl), exq 7 (hX 7 _ rfl), exq 8 ((dTn (hD 2 lq)).2), exq 9 ((dTn (hD 4 lq))), hu_A31_7, hu_c31_7] at hst7
    dsimp only [mgT, vals, List.take, List.drop, List.cons_append, List.nil_append] at hfr
    simp only [ed 31 ((dTn (hD 2 lq)).1), hu_A31_7, hu_c31_7] at hfr
    clear hX hD hu_A31_7 hu_c31_7; subst hfr; clear σ β X
    refine then_normal ?_
    refine wp_seq ?_
    have hd9 : (trightF a b n1 n2 (plainR (fewF rs))) = true := plain_tright.trans ht
    have hd10 : (sameV a b n1 n2 ho (plainR (fewF rs)) a b n1 n2 ho (plainR (fewF rs))) = true := sameV_self'
    refine wp_region_T [0, 1, 3, 7, 15, 31, 63, 127, 127, 511, 1023, 2047, 4095] [[8], [7], [], [], [], [], [], [4], [8], [3, 7]] [] [] [.c 33 (.agg #[.int .i64 a, .int .i64 b, .int .i64 n1, .int .i64 n2, .bool ho, .slice A31_7 ((plainR (fewF rs)).length) c31_7]), .c 34 (.bool true), .k 35 (.bool false), .k 36 (.bool false), .k 37 (.int .i64 0), .k 38 (.bool true), .k 39 (.bool true), .c 40 (.agg #[.int .i64 a, .int .i64 b, .int .i64 n1, .int .i64 n2, .bool ho, .slice A20_5 ((plainR (fewF rs)).length) c20_5]), .c 41 (.agg #[.int .i64 a, .int .i64 b, .int .i64 n1, .int .i64 n2, .bool ho, .slice A31_7 ((plainR (fewF rs)).length) c31_7]), .c 42 (.bool true), .k 43 (.bool true), .k 44 (.bool true), .k 11 (.bool true)] (fun _ _ _ _ => True) [0, 1, 2, 3, 4, 5, 6, 7, 8] [0, 1, 7, 8, 9] [(11, 12, 1, 12), (21, 0, 12, 33)] hst7 ?_ ?_ ?_
    · exact fun _ _ _ _ _ _ _ _ _ _ h => h
    · refine ⟨?_, ?_, ?_, ?_, ?_, trivial⟩
      · exact s4 rfl (fun _ _ _ h => h) fun cx => run_loadB (n := 6) rfl (by kernel_rfl) (by kernel_rfl) (cx.out 2 rfl) (cx.blk (cx.init 8 _ rfl) rfl) (Nat.le_of_ble_eq_true rfl) rfl
      · exact sv_call rfl rfl rfl rfl rfl (fun _ _ _ h => h.trans (congrArg Value.bool hd9)) fun ρ β W X cx => ⟨_, _, run_callF (args := #[.agg #[.int .i64 a, .int .i64 b, .int .i64 n1, .int .i64 n2, .bool ho, .slice A31_7 ((plainR (fewF rs)).length) c31_7]]) rfl cx.sees rfl (by kernel_rfl) (map1 (cx.anc 0 rfl)), r08right_any a b n1 n2 ho _ _ (plainR (fewF rs)) _ (At.of_ownN (cx.row (cx.init 7 _ rfl) rfl)) (by simp; omega)⟩
      · exact s5 rfl (fun _ _ _ h => h) (fun cx => (cx.anc 6 rfl)) fun cx => run_loadB (n := 6) rfl (by kernel_rfl) (by kernel_rfl) (cx.out 7 rfl) (cx.blk (cx.init 4 _ rfl) rfl) (Nat.le_of_ble_eq_true rfl) rfl
      · exact s5 rfl (fun _ _ _ h => h) (fun cx => (cx.anc 6 rfl)) fun cx => run_loadB (n := 6) rfl (by kernel_rfl) (by kernel_rfl) (cx.out 2 rfl) (cx.blk (cx.init 8 _ rfl) rfl) (Nat.le_of_ble_eq_true rfl) rfl
      · exact sv_call_on rfl rfl rfl rfl rfl rfl (fun _ _ _ h => h.trans (congrArg Value.bool hd10)) (fun _ _ _ _ cx => (cx.anc 6 rfl)) fun ρ β W X cx => ⟨_, _, run_callF (args := #[.agg #[.int .i64 a, .int .i64 b, .int .i64 n1, .int .i64 n2, .bool ho, .slice A20_5 ((plainR (fewF rs)).length) c20_5], .agg #[.int .i64 a, .int .i64 b, .int .i64 n1, .int .i64 n2, .bool ho, .slice A31_7 ((plainR (fewF rs)).length) c31_7]]) rfl cx.sees rfl (by kernel_rfl) (map2 (cx.anc 7 rfl) (cx.anc 8 rfl)), vsame_any _ _ _ _ _ _ _ (plainR (fewF rs)) _ _ _ _ _ _ _ (plainR (fewF rs)) _ (At.of_ownN (cx.row (cx.init 3 _ rfl) rfl)) (At.of_ownN (cx.row (cx.init 7 _ rfl) rfl)) (by first | omega | decide | (simp; done) | (simp; omega)) (by first | omega | decide | (simp; done) | (simp; omega))⟩
    intro σ β X W8 hD hX hst8 fr hfr
    simp only [zM, exq 0 (hX 0 _ rfl), exq 1 (hX 1 _ rfl), exq 2 (hX 2 _ rfl), exq 3 (hX 3 _ rfl), exq 4 (hX 4 _ rfl), exq 5 (hX 5 _ rfl), exq 6 (hX 6 _ rfl), exq 7 (hX 7 _ rfl), exq 8 (hX 8 _ rfl)] at hst8
    dsimp only [mgT, vals, List.take, List.drop, List.cons_append, List.nil_append] at hfr
    clear hX hD; subst hfr; clear σ β X
    refine then_normal ?_
    refine wp_seq ?_
    have hd12 : ((tbytesF a b n1 n2 ho (plainR (fewF rs))).toList == (tbytesF a b n1 n2 ho (plainR (fewF rs))).toList) = true := beq_self_eq_true _
    have hd13 : ((tbytesF (vminF l) (vmaxF l) (vpgF l) (vslF l) (vhotF l) (vrowF l)).toList == (tbytesF (vminF l) (vmaxF l) (vpgF l) (vslF l) (vhotF l) (vrowF l)).toList) = true := beq_self_eq_true _
    have hd14 : (sameV (vminF l) (vmaxF l) (vpgF l) (vslF l) (vhotF l) (vrowF l) (vminF l) (vmaxF l) (vpgF l) (vslF l) (vhotF l) (vrowF l)) = true := sameV_self'
    refine wp_region_T [0, 1, 3, 7, 15, 31, 63, 31, 255, 511, 1023, 2047, 4095, 8191, 4095, 32767, 65535, 131071, 262143, 524287, 1048575, 2097151, 4194303, 8388607, 8388607, 33554431, 67108863, 134217727] [[], [], [], [], [], [8], [7], [8], [7], [], [], [], [2], [1], [2], [1], [], [], [], [], [], [], [], [6], [2], [5, 1]] [] [] [.k 45 (.bool true), .k 46 (.bool true), .k 47 (.bool true), .k 48 (.bool true), .k 49 (.bool true), .c 50 (.agg #[.int .i64 a, .int .i64 b, .int .i64 n1, .int .i64 n2, .bool ho, .slice A31_7 ((plainR (fewF rs)).length) c31_7]), .c 51 (.string (tbytesF a b n1 n2 ho (plainR (fewF rs)))), .c 52 (.agg #[.int .i64 a, .int .i64 b, .int .i64 n1, .int .i64 n2, .bool ho, .slice A31_7 ((plainR (fewF rs)).length) c31_7]), .c 53 (.string (tbytesF a b n1 n2 ho (plainR (fewF rs)))), .e 54 (.bool ((tbytesF a b n1 n2 ho (plainR (fewF rs))).toList == (tbytesF a b n1 n2 ho (plainR (fewF rs))).toList)) (.bool true) (congrArg Value.bool hd12), .k 55 (.bool true), .k 56 (.bool true), .c 57 (.agg #[.int .i64 (vminF l), .int .i64 (vmaxF l), .int .i64 (vpgF l), .int .i64 (vslF l), .bool (vhotF l), .slice A16_4 ((vrowF l).length) c16_4]), .c 58 (.string (tbytesF (vminF l) (vmaxF l) (vpgF l) (vslF l) (vhotF l) (vrowF l))), .c 59 (.agg #[.int .i64 (vminF l), .int .i64 (vmaxF l), .int .i64 (vpgF l), .int .i64 (vslF l), .bool (vhotF l), .slice A16_4 ((vrowF l).length) c16_4]), .c 60 (.string (tbytesF (vminF l) (vmaxF l) (vpgF l) (vslF l) (vhotF l) (vrowF l))), .e 61 (.bool ((tbytesF (vminF l) (vmaxF l) (vpgF l) (vslF l) (vhotF l) (vrowF l)).toList == (tbytesF (vminF l) (vmaxF l) (vpgF l) (vslF l) (vhotF l) (vrowF l)).toList)) (.bool true) (congrArg Value.bool hd13), .k 62 (.bool true), .k 63 (.bool true), .k 64 (.int .i64 0), .k 65 (.bool true), .k 66 (.bool true), .k 67 (.bool true), .c 68 (.agg #[.int .i64 (vminF l), .int .i64 (vmaxF l), .int .i64 (vpgF l), .int .i64 (vslF l), .bool (vhotF l), .slice A26_6 ((vrowF l).length) c26_6]), .c 69 (.agg #[.int .i64 (vminF l), .int .i64 (vmaxF l), .int .i64 (vpgF l), .int .i64 (vslF l), .bool (vhotF l), .slice A16_4 ((vrowF l).length) c16_4]), .c 70 (.bool true), .k 71 (.bool true), .k 4 (.bool true)] (fun _ _ _ _ => True) [0, 1, 2, 3, 4, 5, 6, 7, 8] [5, 6, 7, 8, 12, 13, 14, 15, 23, 24, 25] [(4, 27, 1, 5), (40, 0, 27, 67)] hst8 ?_ ?_ ?_
    · exact fun _ _ _ _ _ _ _ _ _ _ h => h
    · refine ⟨?_, ?_, ?_, ?_, ?_, ?_, ?_, ?_, ?_, ?_, ?_, trivial⟩
      · exact s5 rfl (fun _ _ _ h => h) (fun cx => (cx.anc 4 rfl)) fun cx => run_loadB (n := 6) rfl (by kernel_rfl) (by kernel_rfl) (cx.out 2 rfl) (cx.blk (cx.init 8 _ rfl) rfl) (Nat.le_of_ble_eq_true rfl) rfl
      · exact sv_call_on rfl rfl rfl rfl rfl rfl (fun _ _ _ h => h) (fun _ _ _ _ cx => (cx.anc 4 rfl)) fun ρ β W X cx => ⟨_, _, run_callF (args := #[.agg #[.int .i64 a, .int .i64 b, .int .i64 n1, .int .i64 n2, .bool ho, .slice A31_7 ((plainR (fewF rs)).length) c31_7]]) rfl cx.sees rfl (by kernel_rfl) (map1 (cx.anc 5 rfl)), tbytes_any a b n1 n2 ho _ _ (plainR (fewF rs)) _ (At.of_ownN (cx.row (cx.init 7 _ rfl) rfl)) (by first | omega | decide | (simp; done) | (simp; omega)) (hN.ext cx.upd.to_ext)⟩
      · exact s5 rfl (fun _ _ _ h => h) (fun cx => (cx.anc 4 rfl)) fun cx => run_loadB (n := 6) rfl (by kernel_rfl) (by kernel_rfl) (cx.out 2 rfl) (cx.blk (cx.init 8 _ rfl) rfl) (Nat.le_of_ble_eq_true rfl) rfl
      · exact sv_call_on rfl rfl rfl rfl rfl rfl (fun _ _ _ h => h) (fun _ _ _ _ cx => (cx.anc 4 rfl)) fun ρ β W X cx => ⟨_, _, run_callF (args := #[.agg #[.int .i64 a, .int .i64 b, .int .i64 n1, .int .i64 n2, .bool ho, .slice A31_7 ((plainR (fewF rs)).length) c31_7]]) rfl cx.sees rfl (by kernel_rfl) (map1 (cx.anc 7 rfl)), r08bytes_any a b n1 n2 ho _ _ (plainR (fewF rs)) _ (At.of_ownN (cx.row (cx.init 7 _ rfl) rfl)) (by first | omega | (simp; omega))⟩
      · exact s5 rfl (fun _ _ _ h => h) (fun cx => (cx.anc 11 rfl)) fun cx => run_loadB (n := 6) rfl (by kernel_rfl) (by kernel_rfl) (cx.out 6 rfl) (cx.blk (cx.init 2 _ rfl) rfl) (Nat.le_of_ble_eq_true rfl) rfl
      · exact sv_call_on rfl rfl rfl rfl rfl rfl (fun _ _ _ h => h) (fun _ _ _ _ cx => (cx.anc 11 rfl)) fun ρ β W X cx => ⟨_, _, run_callF (args := #[.agg #[.int .i64 (vminF l), .int .i64 (vmaxF l), .int .i64 (vpgF l), .int .i64 (vslF l), .bool (vhotF l), .slice A16_4 ((vrowF l).length) c16_4]]) rfl cx.sees rfl (by kernel_rfl) (map1 (cx.anc 12 rfl)), tbytes_any (vminF l) (vmaxF l) (vpgF l) (vslF l) (vhotF l) _ _ (vrowF l) _ (At.of_ownN (cx.row (cx.init 1 _ rfl) rfl)) (by first | omega | decide | (simp; done) | (simp; omega)) (hN.ext cx.upd.to_ext)⟩
      · exact s5 rfl (fun _ _ _ h => h) (fun cx => (cx.anc 11 rfl)) fun cx => run_loadB (n := 6) rfl (by kernel_rfl) (by kernel_rfl) (cx.out 6 rfl) (cx.blk (cx.init 2 _ rfl) rfl) (Nat.le_of_ble_eq_true rfl) rfl
      · exact sv_call_on rfl rfl rfl rfl rfl rfl (fun _ _ _ h => h) (fun _ _ _ _ cx => (cx.anc 11 rfl)) fun ρ β W X cx => ⟨_, _, run_callF (args := #[.agg #[.int .i64 (vminF l), .int .i64 (vmaxF l), .int .i64 (vpgF l), .int .i64 (vslF l), .bool (vhotF l), .slice A16_4 ((vrowF l).length) c16_4]]) rfl cx.sees rfl (by kernel_rfl) (map1 (cx.anc 14 rfl)), r08bytes_any (vminF l) (vmaxF l) (vpgF l) (vslF l) (vhotF l) _ _ (vrowF l) _ (At.of_ownN (cx.row (cx.init 1 _ rfl) rfl)) (by first | omega | (simp; omega))⟩
      · exact s5 rfl (fun _ _ _ h => h) (fun cx => (cx.anc 22 rfl)) fun cx => run_loadB (n := 6) rfl (by kernel_rfl) (by kernel_rfl) (cx.out 9 rfl) (cx.blk (cx.init 6 _ rfl) rfl) (Nat.le_of_ble_eq_true rfl) rfl
      · exact s5 rfl (fun _ _ _ h => h) (fun cx => (cx.anc 22 rfl)) fun cx => run_loadB (n := 6) rfl (by kernel_rfl) (by kernel_rfl) (cx.out 6 rfl) (cx.blk (cx.init 2 _ rfl) rfl) (Nat.le_of_ble_eq_true rfl) rfl
      · exact sv_call_on rfl rfl rfl rfl rfl rfl (fun _ _ _ h => h.trans (congrArg Value.bool hd14)) (fun _ _ _ _ cx => (cx.anc 22 rfl)) fun ρ β W X cx => ⟨_, _, run_callF (args := #[.agg #[.int .i64 (vminF l), .int .i64 (vmaxF l), .int .i64 (vpgF l), .int .i64 (vslF l), .bool (vhotF l), .slice A26_6 ((vrowF l).length) c26_6], .agg #[.int .i64 (vminF l), .int .i64 (vmaxF l), .int .i64 (vpgF l), .int .i64 (vslF l), .bool (vhotF l), .slice A16_4 ((vrowF l).length) c16_4]]) rfl cx.sees rfl (by kernel_rfl) (map2 (cx.anc 23 rfl) (cx.anc 24 rfl)), vsame_any _ _ _ _ _ _ _ (vrowF l) _ _ _ _ _ _ _ (vrowF l) _ (At.of_ownN (cx.row (cx.init 5 _ rfl) rfl)) (At.of_ownN (cx.row (cx.init 1 _ rfl) rfl)) (by first | omega | decide | (simp; done) | (simp; omega)) (by first | omega | decide | (simp; done) | (simp; omega))⟩
    intro σ β X W11 hD hX hst11 fr hfr
    simp only [zM, exq 0 (hX 0 _ rfl), exq 1 (hX 1 _ rfl), exq 2 (hX 2 _ rfl), exq 3 (hX 3 _ rfl), exq 4 (hX 4 _ rfl), exq 5 (hX 5 _ rfl), exq 6 (hX 6 _ rfl), exq 7 (hX 7 _ rfl), exq 8 (hX 8 _ rfl)] at hst11
    dsimp only [mgT, vals, List.take, List.drop, List.cons_append, List.nil_append] at hfr
    clear hX hD; subst hfr; clear σ β X
    refine then_normal ?_
    refine wp_ret ?_
    refine bodyPost_ret (v := .bool true) (results_tmp Tryd.results3 rfl) rfl ?_
    exact Ret.of rfl hst11.ext
  · skip
    refine wp_region_T [0, 1, 3, 7, 15, 15, 0, 95, 255] [[1], [0], [], [], [], [], [], [4]] [[], [], [], [], [], [], [4], [5]] [[], [], [], [], [], [], [], [4]] [.c 18 (.agg #[.int .i64 a, .int .i64 b, .int .i64 n1, .int .i64 n2, .bool ho, .slice A14_3 ((fewF rs).length) c14_3]), .c 19 (.string (tbytesF a b n1 n2 ho (fewF rs))), .c 20 (.tuple #[.agg #[.int .i64 0, .int .i64 0, .int .i64 0, .int .i64 0, .bool false, .slice none 0 0], .int .i64 10]), .k 17 (.tuple #[.agg #[.int .i64 0, .int .i64 0, .int .i64 0, .int .i64 0, .bool false, .slice none 0 0], .int .i64 10]), .k 21 (.agg #[.int .i64 0, .int .i64 0, .int .i64 0, .int .i64 0, .bool false, .slice none 0 0]), .k 22 (.int .i64 10), .a 7, .n, .k 8 (.int .i64 10)] (fun ix σ β X => match ix with | 0 => True | 1 => True | 2 => True | 3 => True | 4 => True | 5 => True | 6 => σ 7 = .pointer (some ⟨(pb (β 7)), 0, none⟩) ∧ X 4 = eB (pb (β 7)) 27 #[.int .i64 0, .int .i64 0, .int .i64 0, .int .i64 0, .bool false, .slice none 0 0] | 7 => X 5 = eB (pb (β 7)) 27 #[.int .i64 0, .int .i64 0, .int .i64 0, .int .i64 0, .bool false, .slice none 0 0] | _ => True) [0, 1, 2, 3, 5] [0, 1, 2, 6, 7] [(7, 6, 3, 9), (8, 3, 1, 9), (0, 0, 3, 3), (0, 4, 2, 2)] hst4 ?_ ?_ ?_
    · exact fun ix _ _ _ _ _ _ hs hb hx h => match ix, h with
      | 6, h => by dsimp only at h ⊢; rw [← hs 7 rfl, ← hb 7 rfl, ← hx 4 rfl]; exact h
      | 7, h => by dsimp only at h ⊢; rw [← hb 7 rfl, ← hx 5 rfl]; exact h
      | 0, _ | 1, _ | 2, _ | 3, _ | 4, _ | 5, _ | _ + 8, _ => trivial
    · refine ⟨?_, ?_, ?_, ?_, ?_, trivial⟩
      · exact s4 rfl (fun _ _ _ h => h) fun cx => run_loadB (n := 6) rfl (by kernel_rfl) (by kernel_rfl) (cx.out 2 rfl) (cx.blk (cx.init 1 _ rfl) rfl) (Nat.le_of_ble_eq_true rfl) rfl
      · exact sv_call rfl rfl rfl rfl rfl (fun _ _ _ h => h) fun ρ β W X cx => ⟨_, _, run_callF (args := #[.agg #[.int .i64 a, .int .i64 b, .int .i64 n1, .int .i64 n2, .bool ho, .slice A14_3 ((fewF rs).length) c14_3]]) rfl cx.sees rfl (by kernel_rfl) (map1 (cx.anc 0 rfl)), tbytes_any a b n1 n2 ho _ _ (fewF rs) _ (At.of_ownN (cx.row (cx.init 0 _ rfl) rfl)) (by first | omega | decide | (simp; done) | (simp; omega)) (hN.ext cx.upd.to_ext)⟩
      · exact sv_call rfl rfl rfl rfl rfl (fun _ _ _ h => h) fun ρ β W X cx => ⟨_, _, run_callF (args := #[.string (tbytesF a b n1 n2 ho (fewF rs))]) rfl cx.sees rfl (by kernel_rfl) (map1 (cx.anc 1 rfl)), tread_none _ ht⟩
      · refine sv_any rfl rfl fun ρ β W X cx => ?_
        exact dv_alloc (cs := #[.int .i64 0, .int .i64 0, .int .i64 0, .int .i64 0, .bool false, .slice none 0 0]) rfl (by kernel_rfl) rfl rfl (fun σ β' X' hs hb hv hx => ⟨hv, hx⟩)
      · refine sv_any rfl rfl fun ρ β W X cx => ?_
        exact dv_store (n := 6) rfl (dTn (cx.anc 6 rfl)).1 (cx.anc 4 rfl) (by kernel_rfl) (by kernel_rfl) (by kernel_rfl) cx (dTn (cx.anc 6 rfl)).2 rfl (Nat.le_of_ble_eq_true rfl) (by kernel_rfl) rfl rfl rfl (fun σ β' X' hs hb hx => by rw [hb 7]; exact hx)
    intro σ β X W15 hD hX hst15 fr hfr
    obtain ⟨B7_15, hu_B7_15⟩ : ∃ z, pb (β 7) = z := ⟨_, rfl⟩
    simp only [zM, exq 0 (hX 0 _ rfl), exq 1 (hX 1 _ rfl), exq 2 (hX 2 _ rfl), exq 3 (hX 3 _ rfl), exq 5 ((dTn (hD 7 lq))), hu_B7_15] at hst15
    dsimp only [mgT, vals, List.take, List.drop, List.cons_append, List.nil_append] at hfr
    simp only [ed 7 ((dTn (hD 6 lq)).1), hu_B7_15] at hfr
    clear hX hD hu_B7_15; subst hfr; clear σ β X
    refine then_normal ?_
    refine wp_seq ?_
    refine wp_region_T [0, 1, 3, 7, 15, 15, 0, 95, 255] [[3], [2], [], [], [], [], [], [6]] [[], [], [5], [], [], [], [6], [7]] [[], [], [], [], [], [], [], [6]] [.c 24 (.agg #[.int .i64 (vminF l), .int .i64 (vmaxF l), .int .i64 (vpgF l), .int .i64 (vslF l), .bool (vhotF l), .slice A16_4 ((vrowF l).length) c16_4]), .c 25 (.string (tbytesF (vminF l) (vmaxF l) (vpgF l) (vslF l) (vhotF l) (vrowF l))), .a 26, .a 23, .a 27, .c 28 (.int .i64 0), .a 9, .n, .k 10 (.int .i64 0)] (fun ix σ β X => match ix with | 0 => True | 1 => True | 2 => σ 26 = .tuple #[.agg #[.int .i64 (vminF l), .int .i64 (vmaxF l), .int .i64 (vpgF l), .int .i64 (vslF l), .bool (vhotF l), .slice (sA (tg (tg (β 26) 0) 5)) ((vrowF l).length) (sC (tg (tg (β 26) 0) 5))], .int .i64 0] ∧ X 5 = eO 103 3 (.slice (sA (tg (tg (β 26) 0) 5)) ((vrowF l).length) (sC (tg (tg (β 26) 0) 5))) ((vrowF l).length) (flatR (vrowF l)) | 3 => σ 23 = .tuple #[.agg #[.int .i64 (vminF l), .int .i64 (vmaxF l), .int .i64 (vpgF l), .int .i64 (vslF l), .bool (vhotF l), .slice (sA (tg (tg (β 26) 0) 5)) ((vrowF l).length) (sC (tg (tg (β 26) 0) 5))], .int .i64 0] | 4 => σ 27 = .agg #[.int .i64 (vminF l), .int .i64 (vmaxF l), .int .i64 (vpgF l), .int .i64 (vslF l), .bool (vhotF l), .slice (sA (tg (tg (β 26) 0) 5)) ((vrowF l).length) (sC (tg (tg (β 26) 0) 5))] | 5 => True | 6 => σ 9 = .pointer (some ⟨(pb (β 9)), 0, none⟩) ∧ X 6 = eB (pb (β 9)) 27 #[.int .i64 0, .int .i64 0, .int .i64 0, .int .i64 0, .bool false, .slice none 0 0] | 7 => X 7 = eB (pb (β 9)) 27 #[.int .i64 (vminF l), .int .i64 (vmaxF l), .int .i64 (vpgF l), .int .i64 (vslF l), .bool (vhotF l), .slice (sA (tg (tg (β 26) 0) 5)) ((vrowF l).length) (sC (tg (tg (β 26) 0) 5))] | _ => True) [0, 1, 2, 3, 4, 5, 7] [0, 1, 2, 3, 4, 5, 6, 7] [(9, 6, 3, 11), (12, 3, 1, 13), (0, 0, 3, 3), (0, 4, 2, 2)] hst15 ?_ ?_ ?_
    · exact fun ix _ _ _ _ _ _ hs hb hx h => match ix, h with
      | 2, h => by dsimp only at h ⊢; rw [← hs 26 rfl, ← hb 26 rfl, ← hx 5 rfl]; exact h
      | 3, h => by dsimp only at h ⊢; rw [← hs 23 rfl, ← hb 26 rfl]; exact h
      | 4, h => by dsimp only at h ⊢; rw [← hs 27 rfl, ← hb 26 rfl]; exact h
      | 6, h => by dsimp only at h ⊢; rw [← hs 9 rfl, ← hb 9 rfl, ← hx 6 rfl]; exact h
      | 7, h => by dsimp only at h ⊢; rw [← hb 9 rfl, ← hb 26 rfl, ← hx 7 rfl]; exact h
      | 0, _ | 1, _ | 5, _ | _ + 8, _ => trivial
    · refine ⟨?_, ?_, ?_, ?_, ?_, ?_, ?_, ?_, trivial⟩
      · exact s4 rfl (fun _ _ _ h => h) fun cx => run_loadB (n := 6) rfl (by kernel_rfl) (by kernel_rfl) (cx.out 6 rfl) (cx.blk (cx.init 3 _ rfl) rfl) (Nat.le_of_ble_eq_true rfl) rfl
      · exact sv_call rfl rfl rfl rfl rfl (fun _ _ _ h => h) fun ρ β W X cx => ⟨_, _, run_callF (args := #[.agg #[.int .i64 (vminF l), .int .i64 (vmaxF l), .int .i64 (vpgF l), .int .i64 (vslF l), .bool (vhotF l), .slice A16_4 ((vrowF l).length) c16_4]]) rfl cx.sees rfl (by kernel_rfl) (map1 (cx.anc 0 rfl)), tbytes_any (vminF l) (vmaxF l) (vpgF l) (vslF l) (vhotF l) _ _ (vrowF l) _ (At.of_ownN (cx.row (cx.init 2 _ rfl) rfl)) (by first | omega | decide | (simp; done) | (simp; omega)) (hN.ext cx.upd.to_ext)⟩
      · refine sv_any rfl rfl fun ρ β W X cx => ?_
        refine DoesU.call (run_callF (args := #[.string (tbytesF (vminF l) (vmaxF l) (vpgF l) (vslF l) (vhotF l) (vrowF l))]) rfl cx.sees rfl (by kernel_rfl) (map1 (cx.anc 1 rfl))) ?_
        refine (tread_made l _ (hN.ext cx.upd.to_ext)).mono ?_
        rintro e W1 ⟨A4, c4, rfl, ho_, hx⟩
        refine ⟨_, rfl, post_call [eO 103 3 (.slice A4 ((vrowF l).length) c4) ((vrowF l).length) (flatR (vrowF l))] rfl rfl hx (one_new (eO_new ho_)) (List.pairwise_singleton _ _) (fun σ β' X' hs hb hv hN => ?_)⟩
        have hv1 := (hv 26 rfl).1; have hv2 := (hv 26 rfl).2
        exact ⟨hv1.trans (by rw [hv2]; rfl), (by rw [hv2]; exact (List.cons.inj hN).1)⟩
      · exact sv rfl rfl rfl rfl rfl _ (fun _ _ _ h => h) (fun β β' h => by rw [h 26 (by decide)]) fun ρ β W X cx => run_move' rfl (dTn (cx.anc 2 rfl)).1
      · exact sv rfl rfl rfl rfl rfl _ (fun _ _ _ h => h) (fun β β' h => by rw [h 26 (by decide)]) fun ρ β W X cx => run_extract' rfl (dTn (cx.anc 3 rfl)) rfl
      · exact s4 rfl (fun _ _ _ h => h) fun cx => run_extract' rfl (dTn (cx.anc 3 rfl)) rfl
      · refine sv_any rfl rfl fun ρ β W X cx => ?_
        exact dv_alloc (cs := #[.int .i64 0, .int .i64 0, .int .i64 0, .int .i64 0, .bool false, .slice none 0 0]) rfl (by kernel_rfl) rfl rfl (fun σ β' X' hs hb hv hx => ⟨hv, hx⟩)
      · refine sv_any rfl rfl fun ρ β W X cx => ?_
        exact dv_store (n := 6) rfl (dTn (cx.anc 6 rfl)).1 (dTn (cx.anc 4 rfl)) (by kernel_rfl) (by kernel_rfl) (by kernel_rfl) cx (dTn (cx.anc 6 rfl)).2 rfl (Nat.le_of_ble_eq_true rfl) (by kernel_rfl) rfl rfl rfl (fun σ β' X' hs hb hx => by rw [hb 9, hb 26]; exact hx)
    intro σ β X W16 hD hX hst16 fr hfr
    obtain ⟨A26_16, hu_A26_16⟩ : ∃ z, sA (tg (tg (β 26) 0) 5) = z := ⟨_, rfl⟩
    obtain ⟨c26_16, hu_c26_16⟩ : ∃ z, sC (tg (tg (β 26) 0) 5) = z := ⟨_, rfl⟩
    obtain ⟨B9_16, hu_B9_16⟩ : ∃ z, pb (β 9) = z := ⟨_, rfl⟩
    simp only [zM, exq 0 (hX 0 _ rfl), exq 1 (hX 1 _ rfl), exq 2 (hX 2 _ rfl), exq 3 (hX 3 _ rfl), exq 4 (hX 4 _ rfl), exq 5 ((dTn (hD 2 lq)).2), exq 7 ((dTn (hD 7 lq))), hu_A26_16, hu_c26_16, hu_B9_16] at hst16
    dsimp only [mgT, vals, List.take, List.drop, List.cons_append, List.nil_append] at hfr
    simp only [ed 26 ((dTn (hD 2 lq)).1), ed 23 ((dTn (hD 3 lq))), ed 27 ((dTn (hD 4 lq))), ed 9 ((dTn (hD 6 lq)).1), hu_A26_16, hu_c26_16, hu_B9_16] at hfr
    clear hX hD hu_A26_16 hu_c26_16 hu_B9_16; subst hfr; clear σ β X
    refine then_normal ?_
    refine wp_seq ?_
    refine wp_region_T [0, 1, 3, 7, 15] [[], [1], [0], [], [1]] [[], [], [7], [], [8]] [[], [], [], [], [1]] [.k 29 (.pointer (some ⟨B2_1, 5, none⟩)), .c 30 (.slice A14_3 ((fewF rs).length) c14_3), .a 31, .k 32 (.pointer (some ⟨B2_1, 5, none⟩)), .n] (fun ix σ β X => match ix with | 0 => True | 1 => True | 2 => σ 31 = .slice (sA (β 31)) ((plainR (fewF rs)).length) (sC (β 31)) ∧ X 7 = eO 103 3 (.slice (sA (β 31)) ((plainR (fewF rs)).length) (sC (β 31))) ((plainR (fewF rs)).length) (flatR (plainR (fewF rs))) | 3 => True | 4 => X 8 = eB B2_1 27 #[.int .i64 a, .int .i64 b, .int .i64 n1, .int .i64 n2, .bool ho, .slice (sA (β 31)) ((plainR (fewF rs)).length) (sC (β 31))] | _ => True) [0, 2, 3, 4, 5, 6, 7, 8] [1, 2, 4] [(29, 0, 4, 33)] hst16 ?_ ?_ ?_
    · exact fun ix _ _ _ _ _ _ hs hb hx h => match ix, h with
      | 2, h => by dsimp only at h ⊢; rw [← hs 31 rfl, ← hb 31 rfl, ← hx 7 rfl]; exact h
      | 4, h => by dsimp only at h ⊢; rw [← hb 31 rfl, ← hx 8 rfl]; exact h
      | 0, _ | 1, _ | 3, _ | _ + 5, _ => trivial
    · refine ⟨?_, ?_, ?_, trivial⟩
      · exact s4 rfl (fun _ _ _ h => h) fun cx => run_load1 rfl (by kernel_rfl) (cx.anc 0 rfl) ((cx.blk (cx.init 1 _ rfl) rfl).cell 5)
      · refine sv_any rfl rfl fun ρ β W X cx => ?_
        refine DoesU.call (run_callF (args := #[.slice A14_3 ((fewF rs).length) c14_3]) rfl cx.sees rfl (by kernel_rfl) (map1 (cx.anc 1 rfl))) ?_
        refine (r02plain_any _ _ (fewF rs) _ (At.of_ownN (cx.row (cx.init 0 _ rfl) rfl)) (by first | omega | (simp; omega))).mono ?_
        rintro e W1 ⟨A4, c4, rfl, ho_, hx⟩
        refine ⟨_, rfl, post_call [eO 103 3 (.slice A4 ((plainR (fewF rs)).length) c4) ((plainR (fewF rs)).length) (flatR (plainR (fewF rs)))] rfl rfl hx (one_new (eO_new ho_)) (List.pairwise_singleton _ _) (fun σ β' X' hs hb hv hN => ?_)⟩
        have hv1 := (hv 31 rfl).1; have hv2 := (hv 31 rfl).2
        exact ⟨hv1.trans (by rw [hv2]; rfl), (by rw [hv2]; exact (List.cons.inj hN).1)⟩
      · refine sv_any rfl rfl fun ρ β W X cx => ?_
        exact dv_store (n := 1) rfl (cx.anc 3 rfl) (dTn (cx.anc 2 rfl)).1 (by kernel_rfl) (by kernel_rfl) (by kernel_rfl) cx (cx.init 1 _ rfl) rfl (Nat.le_of_ble_eq_true rfl) (by kernel_rfl) rfl rfl rfl (fun σ β' X' hs hb hx => by rw [hb 31]; exact hx)
    intro σ β X W17 hD hX hst17 fr hfr
    obtain ⟨A31_17, hu_A31_17⟩ : ∃ z, sA (β 31) = z := ⟨_, rfl⟩
    obtain ⟨c31_17, hu_c31_17⟩ : ∃ z, sC (β 31) = z := ⟨_, rfl⟩
    simp only [zM, exq 0 (hX 0 _ rfl), exq 2 (hX 2 _ rfl), exq 3 (hX 3 _ rfl), exq 4 (hX 4 _ rfl), exq 5 (hX 5 _ rfl), exq 6 (hX 6 _ rfl), exq 7 ((dTn (hD 2 lq)).2), exq 8 ((dTn (hD 4 lq))), hu_A31_17, hu_c31_17] at hst17
    dsimp only [mgT, vals, List.take, List.drop, List.cons_append, List.nil_append] at hfr
    simp only [ed 31 ((dTn (hD 2 lq)).1), hu_A31_17, hu_c31_17] at hfr
    clear hX hD hu_A31_17 hu_c31_17; subst hfr; clear σ β X
    refine then_normal ?_
    refine wp_seq ?_
    have hd19 : (trightF a b n1 n2 (plainR (fewF rs))) = false := plain_tright.trans ht
    refine wp_region_T [0, 1, 3, 7, 15, 31, 63, 127, 127, 511, 1023, 2047, 4095] [[7], [6]] [] [] [.c 33 (.agg #[.int .i64 a, .int .i64 b, .int .i64 n1, .int .i64 n2, .bool ho, .slice A31_17 ((plainR (fewF rs)).length) c31_17]), .c 34 (.bool false), .k 35 (.bool true), .k 36 (.bool true), .u 37, .u 38, .u 39, .u 40, .u 41, .u 42, .u 43, .k 44 (.bool true), .k 11 (.bool true)] (fun _ _ _ _ => True) [0, 1, 2, 3, 4, 5, 6, 7] [0, 1] [(11, 12, 1, 12), (21, 0, 12, 33)] hst17 ?_ ?_ ?_
    · exact fun _ _ _ _ _ _ _ _ _ _ h => h
    · refine ⟨?_, ?_, trivial⟩
      · exact s4 rfl (fun _ _ _ h => h) fun cx => run_loadB (n := 6) rfl (by kernel_rfl) (by kernel_rfl) (cx.out 2 rfl) (cx.blk (cx.init 7 _ rfl) rfl) (Nat.le_of_ble_eq_true rfl) rfl
      · exact sv_call rfl rfl rfl rfl rfl (fun _ _ _ h => h.trans (congrArg Value.bool hd19)) fun ρ β W X cx => ⟨_, _, run_callF (args := #[.agg #[.int .i64 a, .int .i64 b, .int .i64 n1, .int .i64 n2, .bool ho, .slice A31_17 ((plainR (fewF rs)).length) c31_17]]) rfl cx.sees rfl (by kernel_rfl) (map1 (cx.anc 0 rfl)), r08right_any a b n1 n2 ho _ _ (plainR (fewF rs)) _ (At.of_ownN (cx.row (cx.init 6 _ rfl) rfl)) (by simp; omega)⟩
    intro σ β X W18 hD hX hst18 fr hfr
    simp only [zM, exq 0 (hX 0 _ rfl), exq 1 (hX 1 _ rfl), exq 2 (hX 2 _ rfl), exq 3 (hX 3 _ rfl), exq 4 (hX 4 _ rfl), exq 5 (hX 5 _ rfl), exq 6 (hX 6 _ rfl), exq 7 (hX 7 _ rfl)] at hst18
    dsimp only [mgT, vals, List.take, List.drop, List.cons_append, List.nil_append] at hfr
    clear hX hD; subst hfr; clear σ β X
    refine then_normal ?_
    refine wp_seq ?_
    have hd21 : ((tbytesF a b n1 n2 ho (plainR (fewF rs))).toList == (tbytesF a b n1 n2 ho (plainR (fewF rs))).toList) = true := beq_self_eq_true _
    have hd22 : ((tbytesF (vminF l) (vmaxF l) (vpgF l) (vslF l) (vhotF l) (vrowF l)).toList == (tbytesF (vminF l) (vmaxF l) (vpgF l) (vslF l) (vhotF l) (vrowF l)).toList) = true := beq_self_eq_true _
    have hd23 : (sameV (vminF l) (vmaxF l) (vpgF l) (vslF l) (vhotF l) (vrowF l) (vminF l) (vmaxF l) (vpgF l) (vslF l) (vhotF l) (vrowF l)) = true := sameV_self'
    refine wp_region_T [0, 1, 3, 7, 15, 31, 63, 31, 255, 511, 1023, 2047, 4095, 8191, 4095, 32767, 65535, 131071, 262143, 524287, 1048575, 2097151, 4194303, 8388607, 8388607, 33554431, 67108863, 134217727] [[], [], [], [], [], [7], [6], [7], [6], [], [], [], [2], [1], [2], [1], [], [], [], [], [], [], [], [5], [2], [4, 1]] [] [] [.k 45 (.bool true), .k 46 (.bool true), .k 47 (.bool true), .k 48 (.bool true), .k 49 (.bool true), .c 50 (.agg #[.int .i64 a, .int .i64 b, .int .i64 n1, .int .i64 n2, .bool ho, .slice A31_17 ((plainR (fewF rs)).length) c31_17]), .c 51 (.string (tbytesF a b n1 n2 ho (plainR (fewF rs)))), .c 52 (.agg #[.int .i64 a, .int .i64 b, .int .i64 n1, .int .i64 n2, .bool ho, .slice A31_17 ((plainR (fewF rs)).length) c31_17]), .c 53 (.string (tbytesF a b n1 n2 ho (plainR (fewF rs)))), .e 54 (.bool ((tbytesF a b n1 n2 ho (plainR (fewF rs))).toList == (tbytesF a b n1 n2 ho (plainR (fewF rs))).toList)) (.bool true) (congrArg Value.bool hd21), .k 55 (.bool true), .k 56 (.bool true), .c 57 (.agg #[.int .i64 (vminF l), .int .i64 (vmaxF l), .int .i64 (vpgF l), .int .i64 (vslF l), .bool (vhotF l), .slice A16_4 ((vrowF l).length) c16_4]), .c 58 (.string (tbytesF (vminF l) (vmaxF l) (vpgF l) (vslF l) (vhotF l) (vrowF l))), .c 59 (.agg #[.int .i64 (vminF l), .int .i64 (vmaxF l), .int .i64 (vpgF l), .int .i64 (vslF l), .bool (vhotF l), .slice A16_4 ((vrowF l).length) c16_4]), .c 60 (.string (tbytesF (vminF l) (vmaxF l) (vpgF l) (vslF l) (vhotF l) (vrowF l))), .e 61 (.bool ((tbytesF (vminF l) (vmaxF l) (vpgF l) (vslF l) (vhotF l) (vrowF l)).toList == (tbytesF (vminF l) (vmaxF l) (vpgF l) (vslF l) (vhotF l) (vrowF l)).toList)) (.bool true) (congrArg Value.bool hd22), .k 62 (.bool true), .k 63 (.bool true), .k 64 (.int .i64 0), .k 65 (.bool true), .k 66 (.bool true), .k 67 (.bool true), .c 68 (.agg #[.int .i64 (vminF l), .int .i64 (vmaxF l), .int .i64 (vpgF l), .int .i64 (vslF l), .bool (vhotF l), .slice A26_16 ((vrowF l).length) c26_16]), .c 69 (.agg #[.int .i64 (vminF l), .int .i64 (vmaxF l), .int .i64 (vpgF l), .int .i64 (vslF l), .bool (vhotF l), .slice A16_4 ((vrowF l).length) c16_4]), .c 70 (.bool true), .k 71 (.bool true), .k 4 (.bool true)] (fun _ _ _ _ => True) [0, 1, 2, 3, 4, 5, 6, 7] [5, 6, 7, 8, 12, 13, 14, 15, 23, 24, 25] [(4, 27, 1, 5), (40, 0, 27, 67)] hst18 ?_ ?_ ?_
    · exact fun _ _ _ _ _ _ _ _ _ _ h => h
    · refine ⟨?_, ?_, ?_, ?_, ?_, ?_, ?_, ?_, ?_, ?_, ?_, trivial⟩
      · exact s5 rfl (fun _ _ _ h => h) (fun cx => (cx.anc 4 rfl)) fun cx => run_loadB (n := 6) rfl (by kernel_rfl) (by kernel_rfl) (cx.out 2 rfl) (cx.blk (cx.init 7 _ rfl) rfl) (Nat.le_of_ble_eq_true rfl) rfl
      · exact sv_call_on rfl rfl rfl rfl rfl rfl (fun _ _ _ h => h) (fun _ _ _ _ cx => (cx.anc 4 rfl)) fun ρ β W X cx => ⟨_, _, run_callF (args := #[.agg #[.int .i64 a, .int .i64 b, .int .i64 n1, .int .i64 n2, .bool ho, .slice A31_17 ((plainR (fewF rs)).length) c31_17]]) rfl cx.sees rfl (by kernel_rfl) (map1 (cx.anc 5 rfl)), tbytes_any a b n1 n2 ho _ _ (plainR (fewF rs)) _ (At.of_ownN (cx.row (cx.init 6 _ rfl) rfl)) (by first | omega | decide | (simp; done) | (simp; omega)) (hN.ext cx.upd.to_ext)⟩
      · exact s5 rfl (fun _ _ _ h => h) (fun cx => (cx.anc 4 rfl)) fun cx => run_loadB (n := 6) rfl (by kernel_rfl) (by kernel_rfl) (cx.out 2 rfl) (cx.blk (cx.init 7 _ rfl) rfl) (Nat.le_of_ble_eq_true rfl) rfl
      · exact sv_call_on rfl rfl rfl rfl rfl rfl (fun _ _ _ h => h) (fun _ _ _ _ cx => (cx.anc 4 rfl)) fun ρ β W X cx => ⟨_, _, run_callF (args := #[.agg #[.int .i64 a, .int .i64 b, .int .i64 n1, .int .i64 n2, .bool ho, .slice A31_17 ((plainR (fewF rs)).length) c31_17]]) rfl cx.sees rfl (by kernel_rfl) (map1 (cx.anc 7 rfl)), r08bytes_any a b n1 n2 ho _ _ (plainR (fewF rs)) _ (At.of_ownN (cx.row (cx.init 6 _ rfl) rfl)) (by first | omega | (simp; omega))⟩
      · exact s5 rfl (fun _ _ _ h => h) (fun cx => (cx.anc 11 rfl)) fun cx => run_loadB (n := 6) rfl (by kernel_rfl) (by kernel_rfl) (cx.out 6 rfl) (cx.blk (cx.init 2 _ rfl) rfl) (Nat.le_of_ble_eq_true rfl) rfl
      · exact sv_call_on rfl rfl rfl rfl rfl rfl (fun _ _ _ h => h) (fun _ _ _ _ cx => (cx.anc 11 rfl)) fun ρ β W X cx => ⟨_, _, run_callF (args := #[.agg #[.int .i64 (vminF l), .int .i64 (vmaxF l), .int .i64 (vpgF l), .int .i64 (vslF l), .bool (vhotF l), .slice A16_4 ((vrowF l).length) c16_4]]) rfl cx.sees rfl (by kernel_rfl) (map1 (cx.anc 12 rfl)), tbytes_any (vminF l) (vmaxF l) (vpgF l) (vslF l) (vhotF l) _ _ (vrowF l) _ (At.of_ownN (cx.row (cx.init 1 _ rfl) rfl)) (by first | omega | decide | (simp; done) | (simp; omega)) (hN.ext cx.upd.to_ext)⟩
      · exact s5 rfl (fun _ _ _ h => h) (fun cx => (cx.anc 11 rfl)) fun cx => run_loadB (n := 6) rfl (by kernel_rfl) (by kernel_rfl) (cx.out 6 rfl) (cx.blk (cx.init 2 _ rfl) rfl) (Nat.le_of_ble_eq_true rfl) rfl
      · exact sv_call_on rfl rfl rfl rfl rfl rfl (fun _ _ _ h => h) (fun _ _ _ _ cx => (cx.anc 11 rfl)) fun ρ β W X cx => ⟨_, _, run_callF (args := #[.agg #[.int .i64 (vminF l), .int .i64 (vmaxF l), .int .i64 (vpgF l), .int .i64 (vslF l), .bool (vhotF l), .slice A16_4 ((vrowF l).length) c16_4]]) rfl cx.sees rfl (by kernel_rfl) (map1 (cx.anc 14 rfl)), r08bytes_any (vminF l) (vmaxF l) (vpgF l) (vslF l) (vhotF l) _ _ (vrowF l) _ (At.of_ownN (cx.row (cx.init 1 _ rfl) rfl)) (by first | omega | (simp; omega))⟩
      · exact s5 rfl (fun _ _ _ h => h) (fun cx => (cx.anc 22 rfl)) fun cx => run_loadB (n := 6) rfl (by kernel_rfl) (by kernel_rfl) (cx.out 9 rfl) (cx.blk (cx.init 5 _ rfl) rfl) (Nat.le_of_ble_eq_true rfl) rfl
      · exact s5 rfl (fun _ _ _ h => h) (fun cx => (cx.anc 22 rfl)) fun cx => run_loadB (n := 6) rfl (by kernel_rfl) (by kernel_rfl) (cx.out 6 rfl) (cx.blk (cx.init 2 _ rfl) rfl) (Nat.le_of_ble_eq_true rfl) rfl
      · exact sv_call_on rfl rfl rfl rfl rfl rfl (fun _ _ _ h => h.trans (congrArg Value.bool hd23)) (fun _ _ _ _ cx => (cx.anc 22 rfl)) fun ρ β W X cx => ⟨_, _, run_callF (args := #[.agg #[.int .i64 (vminF l), .int .i64 (vmaxF l), .int .i64 (vpgF l), .int .i64 (vslF l), .bool (vhotF l), .slice A26_16 ((vrowF l).length) c26_16], .agg #[.int .i64 (vminF l), .int .i64 (vmaxF l), .int .i64 (vpgF l), .int .i64 (vslF l), .bool (vhotF l), .slice A16_4 ((vrowF l).length) c16_4]]) rfl cx.sees rfl (by kernel_rfl) (map2 (cx.anc 23 rfl) (cx.anc 24 rfl)), vsame_any _ _ _ _ _ _ _ (vrowF l) _ _ _ _ _ _ _ (vrowF l) _ (At.of_ownN (cx.row (cx.init 4 _ rfl) rfl)) (At.of_ownN (cx.row (cx.init 1 _ rfl) rfl)) (by first | omega | decide | (simp; done) | (simp; omega)) (by first | omega | decide | (simp; done) | (simp; omega))⟩
    intro σ β X W20 hD hX hst20 fr hfr
    simp only [zM, exq 0 (hX 0 _ rfl), exq 1 (hX 1 _ rfl), exq 2 (hX 2 _ rfl), exq 3 (hX 3 _ rfl), exq 4 (hX 4 _ rfl), exq 5 (hX 5 _ rfl), exq 6 (hX 6 _ rfl), exq 7 (hX 7 _ rfl)] at hst20
    dsimp only [mgT, vals, List.take, List.drop, List.cons_append, List.nil_append] at hfr
    clear hX hD; subst hfr; clear σ β X
    refine then_normal ?_
    refine wp_ret ?_
    refine bodyPost_ret (v := .bool true) (results_tmp Tryd.results3 rfl) rfl ?_
    exact Ret.of rfl hst20.ext

end Go.Proofs.YtfjpglohcppjeaaDoor

/- value.Read of a row without values. -/
import Derived.Test.YtfjpglohcppjeaaDoorT11
namespace Go.Proofs.YtfjpglohcppjeaaDoor
open Go.RowKit
set_option linter.unusedVariables false
set_option linter.unusedSimpArgs false

theorem wp_mkdefer {P : Program} {id : Nat} {o1 o2 : Oper} {a : Act} {w : World} {Q : Exit → Act → World → Prop} {v : Value} {d : Deferred} (h1 : o1.guard = none) (h2 : o2.guard = none) (r1 : (execOp a.eval o1).run P w = .ok (.value v) w)
    (r2 : (execOp (a.put o1.dst v).eval o2).run P w = .ok (.defer d) w) (hd2 : o2.dst = none) (h : Q .normal { a.put o1.dst v with defers := d :: (a.put o1.dst v).defers } w) : (Code.region id #[o1, o2] false).wp P Q a w := by
  refine wp_region ?_
  show wpOps P #[o1, o2] Q [0, 1] a w
  have w1 : ∀ y, Region.wanted o1 y = true := fun y => by simp [Region.wanted, h1]
  have w2 : ∀ y, Region.wanted o2 y = true := fun y => by simp [Region.wanted, h2]
  simp only [wpOps]
  show (if Region.wanted o1 _ = true then _ else _)
  rw [if_pos (w1 _)]
  left
  unfold Oper.wp Oper.upon
  rw [show (#[o1, o2] : Array Oper)[0] = o1 from rfl, r1]
  show (if Region.wanted o2 _ = true then _ else _)
  rw [if_pos (w2 _)]
  left
  rw [show (#[o1, o2] : Array Oper)[1] = o2 from rfl, r2]
  rw [hd2]
  exact h
theorem catch_idle (p q : Addr) (w : World) :
    CallsD Tryd.prog 97 #[.pointer (some p), .pointer (some q)] .returning w fun e u' w' => e = .returned (.tuple #[]) ∧ u' = .returning ∧ w' = w := by
  refine callsD_of_wpS Tryd.func97 rfl fun c₀ cs hu => ?_
  apply wpS_seq
  apply wpS_region
  simp [wpOpsS, go_sem, recoverD, hu, Tryd.ntmps97, Exit.thenS]
  refine wpS_of_wp ?_
  go_wp2
  cases c₀
  simp_all [bodyPostS, results, Tryd.results97]
set_option maxRecDepth 100000 in
set_option maxHeartbeats 2000000 in
theorem vread_nil  (w : World) :
    Calls Tryd.prog 54 #[.string (strL [0])] w (Ret (.tuple #[.slice none 0 0, .int .i64 0]) w) := by
  go_enter_defers Tryd.func54, Tryd.ntmps54
  have hst0 := St.start w
  refine wp_seq ?_
  refine wp_region_T [0, 0, 0] [] [[0], [1], [2]] [] [.a 1, .a 2, .a 3] (fun ix σ β X => match ix with | 0 => σ 1 = .pointer (some ⟨(pb (β 1)), 0, none⟩) ∧ X 0 = eB (pb (β 1)) 9 #[.string (strL [0])] | 1 => σ 2 = .pointer (some ⟨(pb (β 2)), 0, none⟩) ∧ X 1 = eB (pb (β 2)) 25 #[.slice none 0 0] | 2 => σ 3 = .pointer (some ⟨(pb (β 3)), 0, none⟩) ∧ X 2 = eB (pb (β 3)) 32 #[.int .i64 0] | _ => True) [0, 1, 2] [0, 1, 2] [(1, 0, 3, 4)] hst0 ?_ ?_ ?_
  · exact fun ix _ _ _ _ _ _ hs hb hx h => match ix, h with
    | 0, h => by dsimp only at h ⊢; rw [← hs 1 rfl, ← hb 1 rfl, ← hx 0 rfl]; exact h
    | 1, h => by dsimp only at h ⊢; rw [← hs 2 rfl, ← hb 2 rfl, ← hx 1 rfl]; exact h
    | 2, h => by dsimp only at h ⊢; rw [← hs 3 rfl, ← hb 3 rfl, ← hx 2 rfl]; exact h
    | _ + 3, _ => trivial
  · refine ⟨?_, ?_, ?_, trivial⟩
    · refine sv_any rfl rfl fun ρ β W X cx => ?_
      exact dv_box (cs := #[.string (strL [0])]) rfl (cx.out 0 rfl) rfl rfl rfl (fun σ β' X' hs hb hv hx => ⟨hv, hx⟩)
    · refine sv_any rfl rfl fun ρ β W X cx => ?_
      exact dv_alloc (cs := #[.slice none 0 0]) rfl (by kernel_rfl) rfl rfl (fun σ β' X' hs hb hv hx => ⟨hv, hx⟩)
    · refine sv_any rfl rfl fun ρ β W X cx => ?_
      exact dv_alloc (cs := #[.int .i64 0]) rfl (by kernel_rfl) rfl rfl (fun σ β' X' hs hb hv hx => ⟨hv, hx⟩)
  intro σ β X W1 hD hX hst1 fr hfr
  obtain ⟨B1_1, hu_B1_1⟩ : ∃ z, pb (β 1) = z := ⟨_, rfl⟩
  obtain ⟨B2_1, hu_B2_1⟩ : ∃ z, pb (β 2) = z := ⟨_, rfl⟩
  obtain ⟨B3_1, hu_B3_1⟩ : ∃ z, pb (β 3) = z := ⟨_, rfl⟩
  simp only [zM, exq 0 ((dTn (hD 0 lq)).2), exq 1 ((dTn (hD 1 lq)).2), exq 2 ((dTn (hD 2 lq)).2), hu_B1_1, hu_B2_1, hu_B3_1] at hst1
  dsimp only [mgT, vals, List.take, List.drop, List.cons_append, List.nil_append] at hfr
  simp only [ed 1 ((dTn (hD 0 lq)).1), ed 2 ((dTn (hD 1 lq)).1), ed 3 ((dTn (hD 2 lq)).1), hu_B1_1, hu_B2_1, hu_B3_1] at hfr
  clear hX hD hu_B1_1 hu_B2_1 hu_B3_1; subst hfr; clear σ β X
  refine then_normal ?_
  refine wp_seq ?_
  refine wp_mkdefer (v := .func (.func 97) #[] #[.pointer (some ⟨B2_1, 0, none⟩), .pointer (some ⟨B3_1, 0, none⟩)]) (d := { target := .fn (.func 97) #[.pointer (some ⟨B2_1, 0, none⟩), .pointer (some ⟨B3_1, 0, none⟩)], args := #[] }) rfl rfl (by simp [go_sem, Instr.makeFunc, Act.eval]) (by simp [go_sem, Act.eval, Act.put]) rfl ?_
  simp only [Act.put, List.setIfInBounds_toArray, List.set_cons_succ, List.set_cons_zero]
  refine then_normal ?_
  refine wp_seq ?_
  refine wp_region_T [0, 0, 3] [[], [], [3]] [[], [3], [4]] [[], [], [3]] [.c 12 (.func (.func 98) #[] #[.pointer (some ⟨B1_1, 0, none⟩)]), .a 4, .n] (fun ix σ β X => match ix with | 0 => True | 1 => σ 4 = .pointer (some ⟨(pb (β 4)), 0, none⟩) ∧ X 3 = eB (pb (β 4)) 155 #[.nilFunc] | 2 => X 4 = eB (pb (β 4)) 155 #[.func (.func 98) #[] #[.pointer (some ⟨B1_1, 0, none⟩)]] | _ => True) [0, 1, 2, 4] [0, 1, 2] [(4, 1, 1, 5), (7, 0, 1, 8)] hst1 ?_ ?_ ?_
  · exact fun ix _ _ _ _ _ _ hs hb hx h => match ix, h with
    | 1, h => by dsimp only at h ⊢; rw [← hs 4 rfl, ← hb 4 rfl, ← hx 3 rfl]; exact h
    | 2, h => by dsimp only at h ⊢; rw [← hb 4 rfl, ← hx 4 rfl]; exact h
    | 0, _ | _ + 3, _ => trivial
  · refine ⟨?_, ?_, ?_, trivial⟩
    · exact sv0 rfl rfl rfl rfl rfl (fun _ _ _ h => h) fun ρ β W X cx => by
        have fF1 : ρ (.tmp 1) = .pointer (some ⟨B1_1, 0, none⟩) := (cx.out 1 rfl)
        simp [go_sem, Instr.makeFunc, fF1]
    · refine sv_any rfl rfl fun ρ β W X cx => ?_
      exact dv_alloc (cs := #[.nilFunc]) rfl (by kernel_rfl) rfl rfl (fun σ β' X' hs hb hv hx => ⟨hv, hx⟩)
    · refine sv_any rfl rfl fun ρ β W X cx => ?_
      exact dv_store (n := 1) rfl (dTn (cx.anc 1 rfl)).1 (cx.anc 0 rfl) (by kernel_rfl) (by kernel_rfl) (by kernel_rfl) cx (dTn (cx.anc 1 rfl)).2 rfl (Nat.le_of_ble_eq_true rfl) (by kernel_rfl) rfl rfl rfl (fun σ β' X' hs hb hx => by rw [hb 4]; exact hx)
  intro σ β X W2 hD hX hst2 fr hfr
  obtain ⟨B4_2, hu_B4_2⟩ : ∃ z, pb (β 4) = z := ⟨_, rfl⟩
  simp only [zM, exq 0 (hX 0 _ rfl), exq 1 (hX 1 _ rfl), exq 2 (hX 2 _ rfl), exq 4 ((dTn (hD 2 lq))), hu_B4_2] at hst2
  dsimp only [mgT, vals, List.take, List.drop, List.cons_append, List.nil_append] at hfr
  simp only [ed 4 ((dTn (hD 1 lq)).1), hu_B4_2] at hfr
  clear hX hD hu_B4_2; subst hfr; clear σ β X
  refine then_normal ?_
  refine wp_seq ?_
  refine wp_region_T [0, 1] [] [] [] [.c 13 (.func (.func 100) #[] #[.pointer (some ⟨B4_2, 0, none⟩)]), .k 5 (.func (.func 100) #[] #[.pointer (some ⟨B4_2, 0, none⟩)])] (fun _ _ _ _ => True) [0, 1, 2, 3] [0] [(5, 1, 1, 6), (7, 0, 1, 8)] hst2 ?_ ?_ ?_
  · exact fun _ _ _ _ _ _ _ _ _ _ h => h
  · refine ⟨?_, trivial⟩
    · exact sv0 rfl rfl rfl rfl rfl (fun _ _ _ h => h) fun ρ β W X cx => by
        have fF4 : ρ (.tmp 4) = .pointer (some ⟨B4_2, 0, none⟩) := (cx.out 4 rfl)
        simp [go_sem, Instr.makeFunc, fF4]
  intro σ β X W3 hD hX hst3 fr hfr
  simp only [zM, exq 0 (hX 0 _ rfl), exq 1 (hX 1 _ rfl), exq 2 (hX 2 _ rfl), exq 3 (hX 3 _ rfl)] at hst3
  dsimp only [mgT, vals, List.take, List.drop, List.cons_append, List.nil_append] at hfr
  clear hX hD; subst hfr; clear σ β X
  refine then_normal ?_
  refine wp_seq ?_
  refine wp_region_T [0, 1, 3] [[], [0, 3]] [[], [4]] [[], [0]] [.k 14 (.func (.func 100) #[] #[.pointer (some ⟨B4_2, 0, none⟩)]), .a 15, .c 6 (.int .i64 0)] (fun ix σ β X => match ix with | 0 => True | 1 => σ 15 = .int .i64 0 ∧ X 4 = eB B1_1 9 #[.string (strL [])] | _ => True) [1, 2, 3, 4] [1, 2] [(6, 2, 1, 7), (7, 0, 2, 9)] hst3 ?_ ?_ ?_
  · exact fun ix _ _ _ _ _ _ hs hb hx h => match ix, h with
    | 1, h => by dsimp only at h ⊢; rw [← hs 15 rfl, ← hx 4 rfl]; exact h
    | 0, _ | _ + 2, _ => trivial
  · refine ⟨?_, ?_, trivial⟩
    · refine sv_any rfl rfl fun ρ β W X cx => ?_
      refine DoesU.call (run_callV (f := 100) (args := #[]) (args' := #[.pointer (some ⟨B4_2, 0, none⟩)]) rfl rfl (cx.anc 0 rfl) (by kernel_rfl) map0 rfl) ?_
      refine (one1_any _ _ [0] _ (cx.blk (cx.init 0 _ rfl) rfl) (cx.blk (cx.init 3 _ rfl) rfl) (by have h_ := cx.ap 0 3 rfl rfl (by decide); rw [(cx.init 0 _ rfl), (cx.init 3 _ rfl)] at h_; intro e_; exact h_ _ (List.mem_singleton.2 rfl) (List.mem_singleton.2 e_)) (by simp)).mono ?_
      rintro e W1 ⟨rfl, hb1, hu⟩
      refine ⟨_, rfl, post_mut (cx.init 0 _ rfl) rfl rfl hu hb1 (fun σ β' X' hs hb hv hx => ?_)⟩
      exact ⟨(hv 15 rfl).1.trans rfl, hx⟩
    · exact s4 rfl (fun _ _ _ h => h) fun cx => run_assign' rfl (dTn (cx.anc 1 rfl)).1
  intro σ β X W4 hD hX hst4 fr hfr
  simp only [zM, exq 1 (hX 1 _ rfl), exq 2 (hX 2 _ rfl), exq 3 (hX 3 _ rfl), exq 4 ((dTn (hD 1 lq)).2)] at hst4
  dsimp only [mgT, vals, List.take, List.drop, List.cons_append, List.nil_append] at hfr
  simp only [ed 15 ((dTn (hD 1 lq)).1)] at hfr
  clear hX hD; subst hfr; clear σ β X
  refine then_normal ?_
  refine wp_seq ?_
  refine wp_region_T [0, 1, 3] [] [] [] [.k 16 (.int .i64 0), .k 17 (.bool true), .c 18 (.tuple #[])] (fun _ _ _ _ => True) [0, 1, 2, 3] [2] [(16, 0, 3, 19)] hst4 ?_ ?_ ?_
  · exact fun _ _ _ _ _ _ _ _ _ _ h => h
  · refine ⟨?_, trivial⟩
    · exact sv_call rfl rfl rfl rfl rfl (fun _ _ _ h => h) fun ρ β W X cx => ⟨_, _, run_callF (args := #[.bool true, .int .i64 2]) rfl cx.sees rfl (by kernel_rfl) (map2 (cx.anc 1 rfl) (cx.sees.const _)), must_true _ _⟩
  intro σ β X W5 hD hX hst5 fr hfr
  simp only [zM, exq 0 (hX 0 _ rfl), exq 1 (hX 1 _ rfl), exq 2 (hX 2 _ rfl), exq 3 (hX 3 _ rfl)] at hst5
  dsimp only [mgT, vals, List.take, List.drop, List.cons_append, List.nil_append] at hfr
  clear hX hD; subst hfr; clear σ β X
  refine then_normal ?_
  refine wp_seq ?_
  refine wp_seq ?_
  refine wp_region_P [0, 0] [.k 19 (.int .i64 0), .k 20 (.int .i64 0)] [(19, 0, 2, 21)] hst5 fun W6 hst6 => ?_
  refine then_normal ?_
  refine wp_block ?_
  refine wp_loopN (fun mz az W => ∃ u7_ : List Value, True ∧ mz = 0 ∧ az = ⟨#[.string (strL [0]), .pointer (some ⟨B1_1, 0, none⟩), .pointer (some ⟨B2_1, 0, none⟩), .pointer (some ⟨B3_1, 0, none⟩), .pointer (some ⟨B4_2, 0, none⟩), .func (.func 100) #[] #[.pointer (some ⟨B4_2, 0, none⟩)], .int .i64 0, (u7_.getD 0 undef), undef, (u7_.getD 1 undef), (u7_.getD 2 undef), .func (.func 97) #[] #[.pointer (some ⟨B2_1, 0, none⟩), .pointer (some ⟨B3_1, 0, none⟩)], .func (.func 98) #[] #[.pointer (some ⟨B1_1, 0, none⟩)], .func (.func 100) #[] #[.pointer (some ⟨B4_2, 0, none⟩)], .func (.func 100) #[] #[.pointer (some ⟨B4_2, 0, none⟩)], .int .i64 0, .int .i64 0, .bool true, .tuple #[], .int .i64 0, .int .i64 0, (u7_.getD 3 undef), (u7_.getD 4 undef), (u7_.getD 5 undef), (u7_.getD 6 undef), (u7_.getD 7 undef), (u7_.getD 8 undef), (u7_.getD 9 undef), (u7_.getD 10 undef), (u7_.getD 11 undef), (u7_.getD 12 undef), (u7_.getD 13 undef), (u7_.getD 14 undef), (u7_.getD 15 undef), (u7_.getD 16 undef), (u7_.getD 17 undef), (u7_.getD 18 undef), (u7_.getD 19 undef), (u7_.getD 20 undef), (u7_.getD 21 undef), (u7_.getD 22 undef), (u7_.getD 23 undef), (u7_.getD 24 undef), (u7_.getD 25 undef), (u7_.getD 26 undef), (u7_.getD 27 undef), (u7_.getD 28 undef), (u7_.getD 29 undef), (u7_.getD 30 undef), (u7_.getD 31 undef), (u7_.getD 32 undef), (u7_.getD 33 undef), (u7_.getD 34 undef), (u7_.getD 35 undef), (u7_.getD 36 undef), (u7_.getD 37 undef), (u7_.getD 38 undef), (u7_.getD 39 undef), (u7_.getD 40 undef), (u7_.getD 41 undef), (u7_.getD 42 undef), (u7_.getD 43 undef), (u7_.getD 44 undef), (u7_.getD 45 undef), (u7_.getD 46 undef), undef, undef, undef, undef], [{ target := .fn (.func 97) #[.pointer (some ⟨B2_1, 0, none⟩), .pointer (some ⟨B3_1, 0, none⟩)], args := #[] }]⟩ ∧ St w [] [eB B2_1 25 #[.slice none 0 0], eB B3_1 32 #[.int .i64 0], eB B4_2 155 #[.func (.func 98) #[] #[.pointer (some ⟨B1_1, 0, none⟩)]], eB B1_1 9 #[.string (strL [])]] W) (0) ?_ ?_
  · -- the loop begins
    have hp8 := hst6.pick [0, 1, 2, 3] (by decide) rfl
    exact ⟨[undef, undef, undef, undef, undef, undef, undef, undef, undef, undef, undef, undef, undef, undef, undef, undef, undef, undef, undef, undef, undef, undef, undef, undef, undef, undef, undef, undef, undef, undef, undef, undef, undef, undef, undef, undef, undef, undef, undef, undef, undef, undef, undef, undef, undef, undef, undef], trivial, rfl, rfl, hp8⟩
  rintro n7 a7 W7 ⟨u7_, -, rfl, rfl, hst7⟩
  refine wp_seq ?_
  refine wp_region_P [0] [.k 21 (.bool false)] [(21, 0, 1, 22)] hst7 fun W9 hst9 => ?_
  refine then_normal ?_
  refine wp_seq ?_
  refine wp_cond_false (show Act.eval _ _ = .bool false from rfl) ?_
  refine wp_exit ?_
  refine then_exit ?_
  refine then_exit ?_
  refine blk_eq ?_
  refine then_normal ?_
  refine wp_seq ?_
  have hd11 : ((strL []).toList == ((⟨#[]⟩ : ByteArray)).toList) = true := beq_self_eq_true (strL []).toList
  refine wp_region_T [0, 1, 3] [[3]] [] [] [.c 65 (.string (strL [])), .e 66 (.bool ((strL []).toList == ((⟨#[]⟩ : ByteArray)).toList)) (.bool true) (congrArg Value.bool hd11), .c 67 (.tuple #[])] (fun _ _ _ _ => True) [0, 1, 2, 3] [0, 2] [(65, 0, 3, 68)] hst9 ?_ ?_ ?_
  · exact fun _ _ _ _ _ _ _ _ _ _ h => h
  · refine ⟨?_, ?_, trivial⟩
    · exact s4 rfl (fun _ _ _ h => h) fun cx => run_load1 rfl (by kernel_rfl) (cx.out 1 rfl) ((cx.blk (cx.init 3 _ rfl) rfl).cell 0)
    · exact sv_call rfl rfl rfl rfl rfl (fun _ _ _ h => h) fun ρ β W X cx => ⟨_, _, run_callF (args := #[.bool true, .int .i64 11]) rfl cx.sees rfl (by kernel_rfl) (map2 (cx.anc 1 rfl) (cx.sees.const _)), must_true _ _⟩
  intro σ β X W10 hD hX hst10 fr hfr
  simp only [zM, exq 0 (hX 0 _ rfl), exq 1 (hX 1 _ rfl), exq 2 (hX 2 _ rfl), exq 3 (hX 3 _ rfl)] at hst10
  dsimp only [mgT, vals, List.take, List.drop, List.cons_append, List.nil_append] at hfr
  clear hX hD; subst hfr; clear σ β X
  refine then_normal ?_
  refine wp_seq ?_
  refine wp_region_T [0, 1, 3] [[0], [0], [1]] [[], [4], [5]] [[], [0], [1]] [.c 68 (.slice none 0 0), .n, .n] (fun ix σ β X => match ix with | 0 => True | 1 => X 4 = eB B2_1 25 #[.slice none 0 0] | 2 => X 5 = eB B3_1 32 #[.int .i64 0] | _ => True) [2, 3, 4, 5] [0, 1, 2] [(68, 0, 1, 69)] hst10 ?_ ?_ ?_
  · exact fun ix _ _ _ _ _ _ hs hb hx h => match ix, h with
    | 1, h => by dsimp only at h ⊢; rw [← hx 4 rfl]; exact h
    | 2, h => by dsimp only at h ⊢; rw [← hx 5 rfl]; exact h
    | 0, _ | _ + 3, _ => trivial
  · refine ⟨?_, ?_, ?_, trivial⟩
    · exact s4 rfl (fun _ _ _ h => h) fun cx => run_load1 rfl (by kernel_rfl) (cx.out 2 rfl) ((cx.blk (cx.init 0 _ rfl) rfl).cell 0)
    · refine sv_any rfl rfl fun ρ β W X cx => ?_
      exact dv_store (n := 1) rfl (cx.out 2 rfl) (cx.anc 0 rfl) (by kernel_rfl) (by kernel_rfl) (by kernel_rfl) cx (cx.init 0 _ rfl) rfl (Nat.le_of_ble_eq_true rfl) (by kernel_rfl) rfl rfl rfl (fun σ β' X' hs hb hx => hx)
    · refine sv_any rfl rfl fun ρ β W X cx => ?_
      exact dv_store (n := 1) rfl (cx.out 3 rfl) (cx.sees.const _) (by kernel_rfl) (by kernel_rfl) (by kernel_rfl) cx (cx.init 1 _ rfl) rfl (Nat.le_of_ble_eq_true rfl) (by kernel_rfl) rfl rfl rfl (fun σ β' X' hs hb hx => hx)
  intro σ β X W12 hD hX hst12 fr hfr
  simp only [zM, exq 2 (hX 2 _ rfl), exq 3 (hX 3 _ rfl), exq 4 ((dTn (hD 1 lq))), exq 5 ((dTn (hD 2 lq)))] at hst12
  dsimp only [mgT, vals, List.take, List.drop, List.cons_append, List.nil_append] at hfr
  clear hX hD; subst hfr; clear σ β X
  refine then_normal ?_
  refine wp_ret ?_
  have c2 := (hst12.blk 2 rfl).cell 0
  have c3 := (hst12.blk 3 rfl).cell 0
  refine leaves_cons (f := 97) (args := #[.pointer (some ⟨B2_1, 0, none⟩), .pointer (some ⟨B3_1, 0, none⟩)]) (by simp) (by simp [go_sem]) ?_
  refine (catch_idle _ _ _).mono ?_
  rintro e u' w'' ⟨rfl, rfl, rfl⟩
  refine ⟨.tuple #[.slice none 0 0, .int .i64 0], ?_, rfl, hst12.ext⟩
  simp at c2 c3
  simp [results, Tryd.results54, go_sem, c2, c3]

end Go.Proofs.YtfjpglohcppjeaaDoor

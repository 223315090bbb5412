/- The reference's ring; states out of a list; numbers as texts; rows built from integers. -/
import Derived.Test.YtfjpglohcppjeaaDoorT1
import Derived.Test.YtfjpglohcppjeaaDoorVq
namespace Go.Proofs.YtfjpglohcppjeaaDoor
open Go.RowKit
set_option linter.unusedVariables false
set_option linter.unusedSimpArgs false

theorem Tryd.infoInt : (Tryd.prog.info? 3).map (fun i => (i.zero, i.size, i.bytes)) = some (some (.int .i64 0), 1, 8) := by kernel_rfl
theorem Tryd.infoVal : (Tryd.prog.info? 103).map (fun i => (i.zero, i.size, i.bytes)) = some (some (.agg #[.int .i64 0, .int .i64 0, .string ByteArray.empty]), 3, 32) := by kernel_rfl
def turnF (x by' : Int) : Int := if onF x then 3 + (x - 3 + by') % 125 else x
theorem turnF_on {x k : Int} (h : onF x = true) (hk : 0 ≤ k) : turnF x k = 3 + (x - 3 + k) % 125 := by rw [turnF, if_pos h]
theorem turnF_0 {x : Int} (h : onF x = true) : turnF x 0 = x := by rw [turnF_on h (Int.le_refl 0)]; have := onF_iff.1 h; omega
def nextF (x : Int) : Int := if !onF x || x == 127 then 3 else x + 1
theorem nextF_turn {x k : Int} (h : onF x = true) (hk : 0 ≤ k) : nextF (turnF x k) = turnF x (k + 1) := by
  have h2 := onF_iff.1 h
  rw [turnF_on h hk, turnF_on h (by omega)]
  have h3 : onF (3 + (x - 3 + k) % 125) = true := onF_iff.2 (by omega)
  unfold nextF
  rw [h3]
  simp only [Bool.not_true, Bool.false_or, beq_iff_eq]
  split <;> omega
theorem turnF_range {x k : Int} (h : onF x = true) (hk : 0 ≤ k) : 3 ≤ turnF x k ∧ turnF x k ≤ 127 := by rw [turnF_on h hk]; omega
/-- the states that a list of bytes gives -/
def standF (bs : List Int) (x : Int) : Int := if x = 2 then 2 else if x < 3 ∨ 127 < x ∨ bs.length = 0 then 0 else bs.getD ((x - 3) % bs.length).toNat 0 % 5
def oneS (n : Int) : ByteArray := strOfNums [n % 256]
theorem oneS_size (n : Int) : (oneS n).size = 1 := by rw [oneS, strOfNums_size]; rfl
def digA : Nat → Int → ByteArray → ByteArray
  | 0, _, s => s
  | f + 1, m, s => if m = 0 then s else digA f (m / 10) (oneS (48 + m % 10) ++ s)
def digG (first : Bool) (f : Nat) (m : Int) (s : ByteArray) : ByteArray := if first then digA f (m / 10) (oneS (48 + m % 10) ++ s) else digA f m s
def digF (n : Int) : ByteArray := digG true 5 n ⟨#[]⟩
theorem digG_true (f : Nat) (m : Int) (s : ByteArray) : digG true f m s = digG false f (m / 10) (oneS (48 + m % 10) ++ s) := rfl
theorem digG_false (f : Nat) (m : Int) (s : ByteArray) (h : m ≠ 0) : digG false (f + 1) m s = digG false f (m / 10) (oneS (48 + m % 10) ++ s) := by
  show digA (f + 1) m s = _
  rw [digA, if_neg h]; rfl
theorem digG_end (f : Nat) (s : ByteArray) : digG false f 0 s = s := by
  show digA f 0 s = s
  cases f <;> simp [digA]
theorem int_one {k : IntKind} (l : List Int) : ∀ u ∈ l.map (Value.int k), u.oneCell' = true := by
  intro u hu
  obtain ⟨s, _, rfl⟩ := List.mem_map.1 hu
  rfl
abbrev Val := Int × Int × ByteArray
def cellsV (v : Val) : List Value := [.int .i64 v.1, .int .i64 v.2.1, .string v.2.2]
def flatR (rs : List Val) : List Value := rs.flatMap cellsV
theorem flatR_len (rs : List Val) : (flatR rs).length = rs.length * 3 := by
  induction rs with
  | nil => rfl
  | cons v l ih => rw [flatR, List.flatMap_cons, List.length_append]; show 3 + (flatR l).length = _; rw [ih, List.length_cons]; omega
theorem flatR_snoc (rs : List Val) (v : Val) : flatR (rs ++ [v]) = flatR rs ++ cellsV v := by simp [flatR]
def valF (x : Int) : Val := if x % 5 = 0 then (0, 0, ByteArray.empty) else if x % 5 = 1 then (2, 0, (⟨#[97, 98, 99]⟩ : ByteArray).extract 0 (x / 5 % 4).toNat) else if x % 5 = 2 then (2, 0, digF (x / 5)) else (1, x / 5 % 9 - 2, ByteArray.empty)
def madeR (k : Nat) (l : List Int) : List Val := (List.range k).map fun i => valF (l.getD i 0 % 65536)
theorem madeR_succ (k : Nat) (l : List Int) : madeR (k + 1) l = madeR k l ++ [valF (l.getD k 0 % 65536)] := by simp [madeR, List.range_succ]
theorem madeR_len (k : Nat) (l : List Int) : (madeR k l).length = k := by simp [madeR]

def RowPost (rs : List Val) (w : World) (e : Ending) (w' : World) : Prop := ∃ A c, e = .returned (.slice A rs.length c) ∧ w'.ownsRow w.heap.size 103 3 (.slice A rs.length c) rs.length (flatR rs) ∧ Ext w w'
set_option maxRecDepth 100000 in
set_option maxHeartbeats 2000000 in
theorem ron_any (x : Int) (w : World) :
    Calls Tryd.prog 60 #[.int .i64 x] w (Ret (.bool (onF x)) w) := by
  go_enter Tryd.func60, Tryd.ntmps60
  have hst0 := St.start w
  refine wp_seq ?_
  refine wp_region_P [0] [.k 2 (.bool false)] [(2, 0, 1, 3)] hst0 fun W1 hst1 => ?_
  refine then_normal ?_
  refine wp_seq ?_
  refine wp_region_P [0, 1, 3, 7, 15, 31, 63] [.k 3 (.int .i64 x), .k 4 (.bool (decide (3 ≤ x))), .k 5 (.bool (decide (3 ≤ x))), .z 6 (decide (3 ≤ x)) (.int .i64 x), .z 7 (decide (3 ≤ x)) (.bool (decide (x ≤ 127))), tA 8 (decide (3 ≤ x)) (decide (x ≤ 127)), .k 2 (.bool ((decide (3 ≤ x)) && (decide (x ≤ 127))))] [(2, 6, 1, 3), (0, 0, 6, 6)] hst1 fun W2 hst2 => ?_
  refine then_normal ?_
  refine wp_ret ?_
  refine bodyPost_ret (v := .bool ((decide (3 ≤ x)) && (decide (x ≤ 127)))) (results_tmp Tryd.results60 rfl) rfl ?_
  exact Ret.bool (Bool.eq_iff_iff.2 (by simp [onF]; omega)) hst2.ext

set_option maxRecDepth 100000 in
set_option maxHeartbeats 2000000 in
theorem rnext_any (x : Int) (w : World) :
    Calls Tryd.prog 78 #[.int .i64 x] w (Ret (.int .i64 (nextF x)) w) := by
  go_enter Tryd.func78, Tryd.ntmps78
  have hst0 := St.start w
  refine wp_seq ?_
  refine wp_region_P [0] [.k 2 (.int .i64 0)] [(2, 0, 1, 3)] hst0 fun W1 hst1 => ?_
  refine then_normal ?_
  refine wp_seq ?_
  refine wp_region_T [0, 1, 3] [] [] [] [.k 4 (.int .i64 x), .c 5 (.bool (onF x)), .k 3 (.bool (onF x))] (fun _ _ _ _ => True) [] [1] [(3, 2, 1, 4), (0, 0, 2, 2)] hst1 ?_ ?_ ?_
  · exact fun _ _ _ _ _ _ _ _ _ _ h => h
  · refine ⟨?_, trivial⟩
    · exact sv_call rfl rfl rfl rfl rfl (fun _ _ _ h => h) fun ρ β W X cx => ⟨_, _, run_callF (args := #[.int .i64 x]) rfl cx.sees rfl (by kernel_rfl) (map1 (cx.anc 0 rfl)), ron_any x _⟩
  intro σ β X W2 hD hX hst2 fr hfr
  simp only [zM] at hst2
  dsimp only [mgT, vals, List.take, List.drop, List.cons_append, List.nil_append] at hfr
  clear hX hD; subst hfr; clear σ β X
  refine then_normal ?_
  refine wp_seq ?_
  refine wp_seq ?_
  refine wp_region_P [0, 1, 3, 7, 15, 31] [.k 6 (.bool (onF x)), .k 7 (.bool (!(onF x))), .k 8 (.bool (!(onF x))), .z 9 (!(!(onF x))) (.int .i64 x), .z 10 (!(!(onF x))) (.bool (x == 127)), tO 11 (!(onF x)) (x == 127)] [(6, 0, 6, 12)] hst2 fun W3 hst3 => ?_
  refine then_normal ?_
  rcases Bool.eq_false_or_eq_true ((!(onF x)) || (x == 127)) with hs4 | hs4
  · skip
    have hs4p := hs4
    simp only [zB] at hs4p
    refine wp_cond_true (show Act.eval _ _ = .bool true from (congrArg Value.bool hs4)) ?_
    refine wp_seq ?_
    refine wp_region_P [0] [.k 2 (.int .i64 3)] [(2, 0, 1, 3)] hst3 fun W5 hst5 => ?_
    refine then_normal ?_
    refine wp_ret ?_
    refine then_ret ?_
    refine bodyPost_ret (v := .int .i64 3) (results_tmp Tryd.results78 rfl) rfl ?_
    exact Ret.int (by simp_all [nextF]) hst5.ext
  have hs4p := hs4
  simp only [zB] at hs4p
  obtain ⟨hs4p1, hs4p2⟩ := hs4p
  refine wp_cond_false (show Act.eval _ _ = .bool false from (congrArg Value.bool hs4)) ?_
  refine wp_skip ?_
  refine then_normal ?_
  refine wp_seq ?_
  have hon := onF_iff.1 (by assumption)
  refine wp_region_P [0, 1, 3] [.k 12 (.int .i64 x), tI 13 (x + 1) (by omega), .k 2 (.int .i64 (x + 1))] [(2, 2, 1, 3), (9, 0, 2, 11)] hst3 fun W6 hst6 => ?_
  refine then_normal ?_
  refine wp_ret ?_
  refine bodyPost_ret (v := .int .i64 (x + 1)) (results_tmp Tryd.results78 rfl) rfl ?_
  exact Ret.int (by simp_all [nextF]) hst6.ext

set_option maxRecDepth 100000 in
set_option maxHeartbeats 2000000 in
theorem turn_any (x b : Int) (w : World) (hb : 0 ≤ b ∧ b ≤ 100000) :
    Calls Tryd.prog 37 #[.int .i64 x, .int .i64 b] w (Ret (.int .i64 (turnF x b)) w) := by
  go_enter Tryd.func37, Tryd.ntmps37
  have hst0 := St.start w
  refine wp_seq ?_
  refine wp_region_P [0] [.k 4 (.int .i64 0)] [(4, 0, 1, 5)] hst0 fun W1 hst1 => ?_
  refine then_normal ?_
  refine wp_seq ?_
  refine wp_region_T [0, 1, 3] [] [] [] [.k 7 (.int .i64 x), .c 8 (.bool (onF x)), .k 5 (.bool (onF x))] (fun _ _ _ _ => True) [] [1] [(5, 2, 1, 6), (1, 0, 2, 3)] hst1 ?_ ?_ ?_
  · exact fun _ _ _ _ _ _ _ _ _ _ h => h
  · refine ⟨?_, trivial⟩
    · exact sv_call rfl rfl rfl rfl rfl (fun _ _ _ h => h) fun ρ β W X cx => ⟨_, _, run_callF (args := #[.int .i64 x]) rfl cx.sees rfl (by kernel_rfl) (map1 (cx.anc 0 rfl)), ron_any x _⟩
  intro σ β X W2 hD hX hst2 fr hfr
  simp only [zM] at hst2
  dsimp only [mgT, vals, List.take, List.drop, List.cons_append, List.nil_append] at hfr
  clear hX hD; subst hfr; clear σ β X
  refine then_normal ?_
  refine wp_seq ?_
  refine wp_seq ?_
  refine wp_region_P [0, 1] [.k 9 (.bool (onF x)), .k 10 (.bool (!(onF x)))] [(9, 0, 2, 11)] hst2 fun W3 hst3 => ?_
  refine then_normal ?_
  rcases Bool.eq_false_or_eq_true (onF x) with hs4 | hs4
  · skip
    refine wp_cond_false (show Act.eval _ _ = .bool false from (congrArg Value.bool (by rw [hs4]; rfl))) ?_
    refine wp_skip ?_
    refine then_normal ?_
    refine wp_seq ?_
    refine wp_seq ?_
    have hon : onF x = true := by assumption
    have hx0 : turnF x 0 = x := turnF_0 hon
    refine wp_region_P [0] [.k 6 (.int .i64 0)] [(6, 0, 1, 7)] hst3 fun W5 hst5 => ?_
    refine then_normal ?_
    refine wp_block ?_
    refine wp_loopN (fun mz az W => ∃ k : Nat, ∃ u6_ : List Value, (k : Int) ≤ b ∧ mz = b.toNat - k ∧ az = ⟨#[.int .i64 (turnF x (k : Int)), .int .i64 b, undef, undef, .int .i64 0, .bool (onF x), .int .i64 ((k : Int)), .int .i64 x, .bool (onF x), .bool (onF x), .bool (!(onF x)), undef, (u6_.getD 0 undef), (u6_.getD 1 undef), (u6_.getD 2 undef), (u6_.getD 3 undef), (u6_.getD 4 undef), (u6_.getD 5 undef), (u6_.getD 6 undef), undef], []⟩ ∧ St w [] [] W) (b.toNat - 0) ?_ ?_
    · -- the loop begins
      have hp7 := hst5.pick [] (by decide) rfl
      exact ⟨0, [undef, undef, undef, undef, undef, undef, undef], by omega, rfl, (by rw [show turnF x ((0 : Nat) : Int) = x from hx0]; rfl), hp7⟩
    rintro n6 a6 W6 ⟨k, u6_, hk, rfl, rfl, hst6⟩
    refine wp_seq ?_
    refine wp_seq ?_
    refine wp_region_P [0, 0, 3] [.k 12 (.int .i64 ((k : Int))), .k 13 (.int .i64 b), .k 14 (.bool (decide ((k : Int) < b)))] [(12, 0, 3, 15)] hst6 fun W8 hst8 => ?_
    refine then_normal ?_
    rcases Bool.eq_false_or_eq_true (decide ((k : Int) < b)) with hs9 | hs9
    · skip
      have hs9p : (k : Int) < b := by simpa using hs9
      refine wp_cond_true (show Act.eval _ _ = .bool true from (congrArg Value.bool hs9)) ?_
      refine wp_skip ?_
      refine then_normal ?_
      refine wp_seq ?_
      refine wp_block ?_
      refine wp_region_T [0, 1, 3] [] [] [] [.k 17 (.int .i64 (turnF x (k : Int))), .c 18 (.int .i64 (nextF (turnF x (k : Int)))), .c 0 (.int .i64 (turnF x ((k : Int) + 1)))] (fun _ _ _ _ => True) [] [1, 2] [(0, 2, 1, 1), (16, 0, 2, 18)] hst8 ?_ ?_ ?_
      · exact fun _ _ _ _ _ _ _ _ _ _ h => h
      · refine ⟨?_, ?_, trivial⟩
        · exact sv_call rfl rfl rfl rfl rfl (fun _ _ _ h => h) fun ρ β W X cx => ⟨_, _, run_callF (args := #[.int .i64 (turnF x (k : Int))]) rfl cx.sees rfl (by kernel_rfl) (map1 (cx.anc 0 rfl)), rnext_any (turnF x (k : Int)) _⟩
        · exact s4 rfl (fun _ _ _ h => h) fun cx => (by rw [← nextF_turn hon (by omega : (0 : Int) ≤ (k : Int))]; exact run_assign' rfl (cx.anc 1 rfl))
      intro σ β X W10 hD hX hst10 fr hfr
      simp only [zM] at hst10
      dsimp only [mgT, vals, List.take, List.drop, List.cons_append, List.nil_append] at hfr
      clear hX hD; subst hfr; clear σ β X
      refine blk_normal ?_
      refine then_normal ?_
      refine wp_region_P [0, 1, 3] [.k 15 (.int .i64 ((k : Int))), tI 16 ((k : Int) + 1) (by omega), .k 6 (.int .i64 ((k : Int) + 1))] [(6, 2, 1, 7), (8, 0, 2, 10)] hst10 fun W11 hst11 => ?_
      refine then_normal ?_
      refine ⟨b.toNat - ((k + 1)), by omega, ?_⟩
      have hp12 := hst11.pick [] (by decide) rfl
      exact ⟨(k + 1), [.int .i64 ((k : Int)), .int .i64 b, .bool (decide ((k : Int) < b)), .int .i64 ((k : Int)), .int .i64 ((k : Int) + 1), .int .i64 (turnF x (k : Int)), .int .i64 (nextF (turnF x (k : Int)))], by omega, rfl, rfl, hp12⟩
    have hs9p : ¬ ((k : Int) < b) := by simpa using hs9
    refine wp_cond_false (show Act.eval _ _ = .bool false from (congrArg Value.bool hs9)) ?_
    refine wp_exit ?_
    refine then_exit ?_
    refine then_exit ?_
    refine blk_eq ?_
    refine then_normal ?_
    refine wp_seq ?_
    refine wp_region_P [0, 1] [.k 19 (.int .i64 (turnF x (k : Int))), .k 4 (.int .i64 (turnF x (k : Int)))] [(4, 1, 1, 5), (14, 0, 1, 15)] hst8 fun W13 hst13 => ?_
    refine then_normal ?_
    refine wp_ret ?_
    refine bodyPost_ret (v := .int .i64 (turnF x (k : Int))) (results_tmp Tryd.results37 rfl) rfl ?_
    exact Ret.int (by rw [show (k : Int) = b by omega]) hst13.ext
  refine wp_cond_true (show Act.eval _ _ = .bool true from (congrArg Value.bool (by rw [hs4]; rfl))) ?_
  refine wp_seq ?_
  refine wp_region_P [0, 1] [.k 11 (.int .i64 x), .k 4 (.int .i64 x)] [(4, 1, 1, 5), (6, 0, 1, 7)] hst3 fun W14 hst14 => ?_
  refine then_normal ?_
  refine wp_ret ?_
  refine then_ret ?_
  refine bodyPost_ret (v := .int .i64 x) (results_tmp Tryd.results37 rfl) rfl ?_
  exact Ret.int (by simp_all [turnF]) hst14.ext

set_option maxRecDepth 100000 in
set_option maxHeartbeats 2000000 in
theorem one_any (n : Int) (w : World) :
    Calls Tryd.prog 111 #[.int .i64 n] w (Ret (.string (oneS n)) w) := by
  go_enter Tryd.func111, Tryd.ntmps111
  have hst0 := St.start w
  refine wp_seq ?_
  refine wp_region_P [0] [.k 2 (.string ⟨#[]⟩)] [(2, 0, 1, 3)] hst0 fun W1 hst1 => ?_
  refine then_normal ?_
  refine wp_seq ?_
  refine wp_region_T [0, 1, 3, 7, 15] [[], [], [], [0]] [[], [], [0]] [] [.k 3 (.int .i64 n), tW 4 .u8 n (n % 256) (IntKind.wrap_u8 _), .a 5, .c 6 (.string (strOfNums ([(n % 256)]))), .k 2 (.string (strOfNums ([(n % 256)])))] (fun ix σ β X => match ix with | 0 => True | 1 => True | 2 => σ 5 = .slice (sA (β 5)) 1 1 ∧ X 0 = eO 5 1 (.slice (sA (β 5)) 1 1) 1 ([.int .u8 (n % 256)]) | _ => True) [0] [2, 3] [(2, 4, 1, 3), (0, 0, 4, 4)] hst1 ?_ ?_ ?_
  · exact fun ix _ _ _ _ _ _ hs hb hx h => match ix, h with
    | 2, h => by dsimp only at h ⊢; rw [← hs 5 rfl, ← hb 5 rfl, ← hx 0 rfl]; exact h
    | 0, _ | 1, _ | _ + 3, _ => trivial
  · refine ⟨?_, ?_, trivial⟩
    · refine sv_any rfl rfl fun ρ β W X cx => ?_
      have fF4 : ρ (.tmp 4) = .int .u8 (n % 256) := (cx.anc 1 rfl)
      exact dv_lit (e := 5) (xs := [.int .u8 (n % 256)]) rfl (by simp [go_sem, fF4]) rfl (by decide) rfl rfl (fun σ β' X' hs hb hv hx => ⟨hv, hx⟩)
    · exact s4 rfl (fun _ _ _ h => h) fun cx => run_convB (e := 5) rfl (by kernel_rfl) (by kernel_rfl) (by kernel_rfl) (dTn (cx.anc 2 rfl)).1 (cx.row (dTn (cx.anc 2 rfl)).2 rfl)
  intro σ β X W2 hD hX hst2 fr hfr
  obtain ⟨A5_2, hu_A5_2⟩ : ∃ z, sA (β 5) = z := ⟨_, rfl⟩
  simp only [zM, exq 0 ((dTn (hD 2 lq)).2), hu_A5_2] at hst2
  dsimp only [mgT, vals, List.take, List.drop, List.cons_append, List.nil_append] at hfr
  simp only [ed 5 ((dTn (hD 2 lq)).1), hu_A5_2] at hfr
  clear hX hD hu_A5_2; subst hfr; clear σ β X
  refine then_normal ?_
  refine wp_ret ?_
  refine bodyPost_ret (v := .string (strOfNums ([(n % 256)]))) (results_tmp Tryd.results111 rfl) rfl ?_
  exact Ret.of rfl hst2.ext

theorem digbound {m : Int} {f : Nat} (hm : 0 < m) (hf : 1 ≤ f) (h : m < 10 ^ f) : m / 10 < 10 ^ (f - 1) := by
  obtain ⟨g, rfl⟩ : ∃ g, f = g + 1 := ⟨f - 1, by omega⟩
  rw [Nat.add_sub_cancel]
  rw [Int.pow_succ] at h
  omega
theorem digfirst {m : Int} {f : Nat} (h : m < 100000) (hf : f = 5) : m / 10 < 10 ^ f := by
  subst hf
  have h6 : (10 : Int) ^ 5 = 100000 := by decide
  omega
theorem digsmall {m : Int} {f : Nat} (h : m < 10 ^ f) (hf : f ≤ 5) : m < 100000 := by
  have h2 : (10 : Int) ^ f ≤ 10 ^ 5 := by
    have : (10 : Nat) ^ f ≤ 10 ^ 5 := Nat.pow_le_pow_right (by omega) hf
    exact_mod_cast this
  have h3 : (10 : Int) ^ 5 = 100000 := by decide
  omega
set_option maxRecDepth 100000 in
set_option maxHeartbeats 2000000 in
theorem dig_any (n : Int) (w : World) (hn : 0 ≤ n ∧ n < 100000) :
    Calls Tryd.prog 94 #[.int .i64 n] w (Ret (.string (digF n)) w) := by
  go_enter Tryd.func94, Tryd.ntmps94
  have hst0 := St.start w
  refine wp_seq ?_
  refine wp_region_P [0] [.k 2 (.string ⟨#[]⟩)] [(2, 0, 1, 3)] hst0 fun W1 hst1 => ?_
  refine then_normal ?_
  refine wp_seq ?_
  refine wp_region_P [0] [.k 3 (.string ⟨#[]⟩)] [(3, 0, 1, 4)] hst1 fun W2 hst2 => ?_
  refine then_normal ?_
  refine wp_seq ?_
  refine wp_region_P [0, 1] [.k 7 (.int .i64 n), .k 4 (.int .i64 n)] [(4, 1, 1, 5), (2, 0, 1, 3)] hst2 fun W3 hst3 => ?_
  refine then_normal ?_
  refine wp_seq ?_
  refine wp_seq ?_
  refine wp_region_P [0] [.k 5 (.bool true)] [(5, 0, 1, 6)] hst3 fun W4 hst4 => ?_
  refine then_normal ?_
  refine wp_block ?_
  refine wp_loopN (fun mz az W => ∃ f : Nat, ∃ m : Int, ∃ s : ByteArray, ∃ fs : Bool, ∃ u5_ : List Value, digF n = digG fs f m s ∧ 0 ≤ m ∧ (fs = false → m < 10 ^ f) ∧ (fs = true → m < 100000 ∧ f = 5) ∧ s.size + f + fs.toNat ≤ 30 ∧ f ≤ 5 ∧ mz = 2 * f + fs.toNat ∧ az = ⟨#[.int .i64 n, undef, .string ⟨#[]⟩, .string s, .int .i64 m, .bool fs, (u5_.getD 0 undef), .int .i64 n, (u5_.getD 1 undef), (u5_.getD 2 undef), (u5_.getD 3 undef), (u5_.getD 4 undef), (u5_.getD 5 undef), (u5_.getD 6 undef), (u5_.getD 7 undef), (u5_.getD 8 undef), (u5_.getD 9 undef), (u5_.getD 10 undef), (u5_.getD 11 undef), (u5_.getD 12 undef), (u5_.getD 13 undef), (u5_.getD 14 undef), (u5_.getD 15 undef), (u5_.getD 16 undef), (u5_.getD 17 undef), (u5_.getD 18 undef), undef, undef, undef, undef, undef], []⟩ ∧ St w [] [] W) (2 * 5 + true.toNat) ?_ ?_
  · -- the loop begins
    have hp6 := hst4.pick [] (by decide) rfl
    exact ⟨5, n, ⟨#[]⟩, true, [undef, undef, undef, undef, undef, undef, undef, undef, undef, undef, undef, undef, undef, undef, undef, undef, undef, undef, undef], rfl, hn.1, fun h => (by cases h), fun _ => ⟨by omega, rfl⟩, by show 0 + 5 + 1 ≤ 30; omega, Nat.le_refl 5, rfl, rfl, hp6⟩
  rintro n5 a5 W5 ⟨f, m, s, fs, u5_, hG, hm, hff, hft, hsz, hf5, rfl, rfl, hst5⟩
  refine wp_seq ?_
  refine wp_seq ?_
  rcases Bool.eq_false_or_eq_true (fs) with hs8 | hs8
  · skip
    refine wp_region_T [0, 1, 3, 7, 15] [] [] [] [.c 8 (.bool true), .k 9 (.bool true), .u 10, .u 11, .k 12 (.bool true)] (fun _ _ _ _ => True) [] [0] [(8, 0, 5, 13)] hst5 ?_ ?_ ?_
    · exact fun _ _ _ _ _ _ _ _ _ _ h => h
    · refine ⟨?_, trivial⟩
      · exact s4 rfl (fun _ _ _ h => h) fun cx => run_move' rfl (Eq.trans (cx.out 5 rfl) (congrArg Value.bool hs8))
    intro σ β X W9 hD hX hst9 fr hfr
    simp only [zM] at hst9
    dsimp only [mgT, vals, List.take, List.drop, List.cons_append, List.nil_append] at hfr
    clear hX hD; subst hfr; clear σ β X
    refine then_normal ?_
    refine wp_cond_true (show Act.eval _ _ = .bool true from rfl) ?_
    refine wp_skip ?_
    refine then_normal ?_
    refine wp_seq ?_
    refine wp_block ?_
    refine wp_seq ?_
    have hs1 := oneS_size (48 + m % 10)
    have hr : 0 ≤ m % 10 ∧ m % 10 < 10 := by omega
    have hml : m < 100000 := by
      cases fs
      · have h3 := hff rfl; exact digsmall h3 hf5
      · exact (hft rfl).1
    have hs0 : fs = true := by assumption
    refine wp_region_P [0, 1, 3] [.k 13 (.int .i64 m), tRe 14 .i64 m 10 (m % 10) (Int.tmod_eq_emod_of_nonneg (by omega)), .k 6 (.int .i64 (m % 10))] [(6, 2, 1, 7), (6, 0, 2, 8)] hst9 fun W10 hst10 => ?_
    refine then_normal ?_
    refine wp_seq ?_
    refine wp_seq ?_
    have hd12 : (decide (m % 10 < 0)) = false := decide_eq_false (by omega)
    refine wp_region_P [0, 1] [.k 15 (.int .i64 (m % 10)), .e 16 (.bool (decide (m % 10 < 0))) (.bool false) (congrArg Value.bool hd12)] [(15, 0, 2, 17)] hst10 fun W11 hst11 => ?_
    refine then_normal ?_
    refine wp_cond_false (show Act.eval _ _ = .bool false from rfl) ?_
    refine wp_skip ?_
    refine then_normal ?_
    refine wp_seq ?_
    refine wp_region_T [0, 1, 3, 0, 15, 31] [] [] [] [.k 19 (.int .i64 (m % 10)), tI 20 (48 + (m % 10)) (by omega), .c 21 (.string (oneS (48 + (m % 10)))), .k 22 (.string s), tS 23 (oneS (48 + (m % 10))) s (by omega), .k 3 (.string ((oneS (48 + (m % 10))) ++ s))] (fun _ _ _ _ => True) [] [2] [(3, 5, 1, 4), (15, 0, 5, 20)] hst11 ?_ ?_ ?_
    · exact fun _ _ _ _ _ _ _ _ _ _ h => h
    · refine ⟨?_, trivial⟩
      · exact sv_call rfl rfl rfl rfl rfl (fun _ _ _ h => h) fun ρ β W X cx => ⟨_, _, run_callF (args := #[.int .i64 (48 + (m % 10))]) rfl cx.sees rfl (by kernel_rfl) (map1 (cx.anc 1 rfl)), one_any (48 + (m % 10)) _⟩
    intro σ β X W13 hD hX hst13 fr hfr
    simp only [zM] at hst13
    dsimp only [mgT, vals, List.take, List.drop, List.cons_append, List.nil_append] at hfr
    clear hX hD; subst hfr; clear σ β X
    refine then_normal ?_
    refine wp_region_P [0, 1, 3] [.k 24 (.int .i64 m), tQu 25 .i64 m 10 (m / 10) (by rw [Int.tdiv_eq_ediv_of_nonneg (by omega)]; exact IntWalk.i64_in _ (by omega)), .k 4 (.int .i64 (m / 10))] [(4, 2, 1, 5), (19, 0, 2, 21)] hst13 fun W14 hst14 => ?_
    refine blk_normal ?_
    refine then_normal ?_
    refine wp_region_P [0] [.k 5 (.bool false)] [(5, 0, 1, 6)] hst14 fun W15 hst15 => ?_
    refine then_normal ?_
    refine ⟨2 * f + false.toNat, by rw [hs0]; first | (simp; done) | (simp; omega), ?_⟩
    have hp16 := hst15.pick [] (by decide) rfl
    exact ⟨f, (m / 10), (oneS (48 + m % 10) ++ s), false, [.int .i64 (m % 10), .bool true, .bool true, undef, undef, .bool true, .int .i64 m, .int .i64 (m % 10), .int .i64 (m % 10), .bool false, (u5_.getD 10 undef), (u5_.getD 11 undef), .int .i64 (m % 10), .int .i64 (48 + (m % 10)), .string (oneS (48 + (m % 10))), .string s, .string ((oneS (48 + (m % 10))) ++ s), .int .i64 m, .int .i64 (m / 10)], by rw [hG, hs0, digG_true], by omega, fun _ => digfirst (hft hs0).1 (hft hs0).2, fun h => (by cases h), by rw [ByteArray.size_append]; rw [hs0] at hsz; simp at hsz ⊢; omega, by omega, rfl, rfl, hp16⟩
  refine wp_region_T [0, 1, 3, 7, 15] [] [] [] [.c 8 (.bool false), .k 9 (.bool false), .k 10 (.int .i64 m), .k 11 (.bool (m != 0)), .k 12 (.bool (m != 0))] (fun _ _ _ _ => True) [] [0] [(8, 0, 5, 13)] hst5 ?_ ?_ ?_
  · exact fun _ _ _ _ _ _ _ _ _ _ h => h
  · refine ⟨?_, trivial⟩
    · exact s4 rfl (fun _ _ _ h => h) fun cx => run_move' rfl (Eq.trans (cx.out 5 rfl) (congrArg Value.bool hs8))
  intro σ β X W17 hD hX hst17 fr hfr
  simp only [zM] at hst17
  dsimp only [mgT, vals, List.take, List.drop, List.cons_append, List.nil_append] at hfr
  clear hX hD; subst hfr; clear σ β X
  refine then_normal ?_
  rcases Bool.eq_false_or_eq_true (m != 0) with hs18 | hs18
  · skip
    have hs18p : m ≠ 0 := by simpa using hs18
    refine wp_cond_true (show Act.eval _ _ = .bool true from (congrArg Value.bool hs18)) ?_
    refine wp_skip ?_
    refine then_normal ?_
    refine wp_seq ?_
    refine wp_block ?_
    refine wp_seq ?_
    have hs1 := oneS_size (48 + m % 10)
    have hr : 0 ≤ m % 10 ∧ m % 10 < 10 := by omega
    have hml : m < 100000 := by
      cases fs
      · have h3 := hff rfl; exact digsmall h3 hf5
      · exact (hft rfl).1
    have hm0 : m ≠ 0 := by assumption
    have hm0p : 0 < m := by omega
    have hf1 : 1 ≤ f := by
      rcases Nat.lt_or_ge f 1 with h | h
      · have h3 := hff (by assumption); have : f = 0 := by omega
        subst this; simp at h3; omega
      · exact h
    have hs0 : fs = false := by assumption
    refine wp_region_P [0, 1, 3] [.k 13 (.int .i64 m), tRe 14 .i64 m 10 (m % 10) (Int.tmod_eq_emod_of_nonneg (by omega)), .k 6 (.int .i64 (m % 10))] [(6, 2, 1, 7), (6, 0, 2, 8)] hst17 fun W19 hst19 => ?_
    refine then_normal ?_
    refine wp_seq ?_
    refine wp_seq ?_
    have hd21 : (decide (m % 10 < 0)) = false := decide_eq_false (by omega)
    refine wp_region_P [0, 1] [.k 15 (.int .i64 (m % 10)), .e 16 (.bool (decide (m % 10 < 0))) (.bool false) (congrArg Value.bool hd21)] [(15, 0, 2, 17)] hst19 fun W20 hst20 => ?_
    refine then_normal ?_
    refine wp_cond_false (show Act.eval _ _ = .bool false from rfl) ?_
    refine wp_skip ?_
    refine then_normal ?_
    refine wp_seq ?_
    refine wp_region_T [0, 1, 3, 0, 15, 31] [] [] [] [.k 19 (.int .i64 (m % 10)), tI 20 (48 + (m % 10)) (by omega), .c 21 (.string (oneS (48 + (m % 10)))), .k 22 (.string s), tS 23 (oneS (48 + (m % 10))) s (by omega), .k 3 (.string ((oneS (48 + (m % 10))) ++ s))] (fun _ _ _ _ => True) [] [2] [(3, 5, 1, 4), (15, 0, 5, 20)] hst20 ?_ ?_ ?_
    · exact fun _ _ _ _ _ _ _ _ _ _ h => h
    · refine ⟨?_, trivial⟩
      · exact sv_call rfl rfl rfl rfl rfl (fun _ _ _ h => h) fun ρ β W X cx => ⟨_, _, run_callF (args := #[.int .i64 (48 + (m % 10))]) rfl cx.sees rfl (by kernel_rfl) (map1 (cx.anc 1 rfl)), one_any (48 + (m % 10)) _⟩
    intro σ β X W22 hD hX hst22 fr hfr
    simp only [zM] at hst22
    dsimp only [mgT, vals, List.take, List.drop, List.cons_append, List.nil_append] at hfr
    clear hX hD; subst hfr; clear σ β X
    refine then_normal ?_
    refine wp_region_P [0, 1, 3] [.k 24 (.int .i64 m), tQu 25 .i64 m 10 (m / 10) (by rw [Int.tdiv_eq_ediv_of_nonneg (by omega)]; exact IntWalk.i64_in _ (by omega)), .k 4 (.int .i64 (m / 10))] [(4, 2, 1, 5), (19, 0, 2, 21)] hst22 fun W23 hst23 => ?_
    refine blk_normal ?_
    refine then_normal ?_
    refine wp_region_P [0] [.k 5 (.bool false)] [(5, 0, 1, 6)] hst23 fun W24 hst24 => ?_
    refine then_normal ?_
    refine ⟨2 * ((f - 1)) + false.toNat, by rw [hs0]; first | (simp; done) | (simp; omega), ?_⟩
    have hp25 := hst24.pick [] (by decide) rfl
    exact ⟨(f - 1), (m / 10), (oneS (48 + m % 10) ++ s), false, [.int .i64 (m % 10), .bool false, .bool false, .int .i64 m, .bool (m != 0), .bool (m != 0), .int .i64 m, .int .i64 (m % 10), .int .i64 (m % 10), .bool false, (u5_.getD 10 undef), (u5_.getD 11 undef), .int .i64 (m % 10), .int .i64 (48 + (m % 10)), .string (oneS (48 + (m % 10))), .string s, .string ((oneS (48 + (m % 10))) ++ s), .int .i64 m, .int .i64 (m / 10)], by rw [hG, hs0, ← digG_false (f - 1) m s hm0, Nat.sub_add_cancel hf1], by omega, fun _ => digbound hm0p hf1 (hff hs0), fun h => (by cases h), by rw [ByteArray.size_append]; rw [hs0] at hsz; simp at hsz ⊢; omega, by omega, rfl, rfl, hp25⟩
  have hs18p : m = 0 := by simpa using hs18
  refine wp_cond_false (show Act.eval _ _ = .bool false from (congrArg Value.bool hs18)) ?_
  refine wp_exit ?_
  refine then_exit ?_
  refine then_exit ?_
  refine blk_eq ?_
  refine then_normal ?_
  refine wp_seq ?_
  refine wp_seq ?_
  have hd27 : (decide (n < 0)) = false := decide_eq_false (by omega)
  refine wp_region_P [0, 1] [.k 26 (.int .i64 n), .e 27 (.bool (decide (n < 0))) (.bool false) (congrArg Value.bool hd27)] [(26, 0, 2, 28)] hst17 fun W26 hst26 => ?_
  refine then_normal ?_
  refine wp_cond_false (show Act.eval _ _ = .bool false from rfl) ?_
  refine wp_skip ?_
  refine then_normal ?_
  refine wp_seq ?_
  refine wp_region_P [0, 1] [.k 30 (.string s), .k 2 (.string s)] [(2, 1, 1, 3), (27, 0, 1, 28)] hst26 fun W28 hst28 => ?_
  refine then_normal ?_
  refine wp_ret ?_
  refine bodyPost_ret (v := .string s) (results_tmp Tryd.results94 rfl) rfl ?_
  exact Ret.of (by rw [hG, show fs = false by assumption, show m = 0 by assumption, digG_end]) hst28.ext

end Go.Proofs.YtfjpglohcppjeaaDoor

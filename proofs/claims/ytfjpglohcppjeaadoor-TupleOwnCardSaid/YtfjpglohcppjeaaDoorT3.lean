/- The reference's ring; states out of a list; numbers as texts; rows built from integers. -/
import Derived.Test.YtfjpglohcppjeaaDoorT1
import Derived.Test.YtfjpglohcppjeaaDoorVq
namespace Go.Proofs.YtfjpglohcppjeaaDoor
open Go.RowKit
set_option linter.unusedVariables false

theorem Tryd.infoInt : (Tryd.prog.info? 3).map (fun i => (i.zero, i.size, i.bytes)) = some (some (.int .i64 0), 1, 8) := by kernel_rfl
theorem Tryd.infoVal : (Tryd.prog.info? 103).map (fun i => (i.zero, i.size, i.bytes)) = some (some (.agg #[.int .i64 0, .int .i64 0, .string ByteArray.empty]), 3, 32) := by kernel_rfl
def turnF (x by' : Int) : Int := if onF x then 3 + (x - 3 + by') % 125 else x
theorem turnF_on {x k : Int} (h : onF x = true) (hk : 0 ≤ k) : turnF x k = 3 + (x - 3 + k) % 125 := by rw [turnF, if_pos h]
theorem turnF_0 {x : Int} (h : onF x = true) : turnF x 0 = x := by rw [turnF_on h (Int.le_refl 0)]; have := onF_iff.1 h; omega
def nextF (x : Int) : Int := if !onF x || x == 127 then 3 else x + 1
theorem nextF_turn {x k : Int} (h : onF x = true) (hk : 0 ≤ k) : nextF (turnF x k) = turnF x (k + 1) := by
  have h2 := onF_iff.1 h
  rw [turnF_on h hk, turnF_on h (by omega)]
  have h3 : onF (3 + (x - 3 + k) % 125) = true := onF_iff.2 (by omega)
  unfold nextF
  rw [h3]
  simp only [Bool.not_true, Bool.false_or, beq_iff_eq]
  split <;> omega
theorem turnF_range {x k : Int} (h : onF x = true) (hk : 0 ≤ k) : 3 ≤ turnF x k ∧ turnF x k ≤ 127 := by rw [turnF_on h hk]; omega
/-- the states that a list of bytes gives -/
def standF (bs : List Int) (x : Int) : Int := if x = 2 then 2 else if x < 3 ∨ 127 < x ∨ bs.length = 0 then 0 else bs.getD ((x - 3) % bs.length).toNat 0 % 5
def oneS (n : Int) : ByteArray := strOfNums [n % 256]
theorem oneS_size (n : Int) : (oneS n).size = 1 := by rw [oneS, strOfNums_size]; rfl
def digA : Nat → Int → ByteArray → ByteArray
  | 0, _, s => s
  | f + 1, m, s => if m = 0 then s else digA f (m / 10) (oneS (48 + m % 10) ++ s)
def digG (first : Bool) (f : Nat) (m : Int) (s : ByteArray) : ByteArray := if first then digA f (m / 10) (oneS (48 + m % 10) ++ s) else digA f m s
def digF (n : Int) : ByteArray := digG true 5 n ⟨#[]⟩
theorem digG_true (f : Nat) (m : Int) (s : ByteArray) : digG true f m s = digG false f (m / 10) (oneS (48 + m % 10) ++ s) := rfl
theorem digG_false (f : Nat) (m : Int) (s : ByteArray) (h : m ≠ 0) : digG false (f + 1) m s = digG false f (m / 10) (oneS (48 + m % 10) ++ s) := by
  show digA (f + 1) m s = _
  rw [digA, if_neg h]; rfl
theorem digG_end (f : Nat) (s : ByteArray) : digG false f 0 s = s := by
  show digA f 0 s = s
  cases f <;> simp [digA]
theorem int_one {k : IntKind} (l : List Int) : ∀ u ∈ l.map (Value.int k), u.oneCell' = true := by
  intro u hu
  obtain ⟨s, _, rfl⟩ := List.mem_map.1 hu
  rfl
abbrev Val := Int × Int × ByteArray
def cellsV (v : Val) : List Value := [.int .i64 v.1, .int .i64 v.2.1, .string v.2.2]
def flatR (rs : List Val) : List Value := rs.flatMap cellsV
theorem flatR_len (rs : List Val) : (flatR rs).length = rs.length * 3 := by
  induction rs with
  | nil => rfl
  | cons v l ih => rw [flatR, List.flatMap_cons, List.length_append]; show 3 + (flatR l).length = _; rw [ih, List.length_cons]; omega
theorem flatR_snoc (rs : List Val) (v : Val) : flatR (rs ++ [v]) = flatR rs ++ cellsV v := by simp [flatR]
def valF (x : Int) : Val := if x % 5 = 0 then (0, 0, ByteArray.empty) else if x % 5 = 1 then (2, 0, (⟨#[97, 98, 99]⟩ : ByteArray).extract 0 (x / 5 % 4).toNat) else if x % 5 = 2 then (2, 0, digF (x / 5)) else (1, x / 5 % 9 - 2, ByteArray.empty)
def madeR (k : Nat) (l : List Int) : List Val := (List.range k).map fun i => valF (l.getD i 0 % 65536)
theorem madeR_succ (k : Nat) (l : List Int) : madeR (k + 1) l = madeR k l ++ [valF (l.getD k 0 % 65536)] := by simp [madeR, List.range_succ]
theorem madeR_len (k : Nat) (l : List Int) : (madeR k l).length = k := by simp [madeR]

def RowPost (rs : List Val) (w : World) (e : Ending) (w' : World) : Prop := ∃ A c, e = .returned (.slice A rs.length c) ∧ w'.ownsRow w.heap.size 103 3 (.slice A rs.length c) rs.length (flatR rs) ∧ Ext w w'
set_option maxRecDepth 100000 in
set_option maxHeartbeats 2000000 in
theorem ron_any (x : Int) (w : World) :
    Calls Tryd.prog 60 #[.int .i64 x] w (Ret (.bool (onF x)) w) := by
  go_enter Tryd.func60, Tryd.ntmps60
  have hst0 := St.start w
  refine wp_seq ?_
  refine wp_region_X [0] [] [] [] (fun ix σ β X => match ix with | 0 => σ 2 = .bool false | _ => True) [] [2] hst0 ?_ ?_ ?_
  · exact fun ix _ _ _ _ _ _ hs hb hx h => match ix, h with
    | 0, h => (hs _ rfl).symm.trans h
    | _ + 1, _ => trivial
  · refine ⟨trivial, ?_⟩
    · exact s0 rfl fun cx => run_assign' rfl (cx.sees.const _)
  intro σ β X W1 hD hX hst1 fr hfr
  simp only [zM] at hst1
  simp only [zP, ed 2 (hD 0 lq)] at hfr
  clear hX hD; subst hfr; clear σ β X
  refine then_normal ?_
  refine wp_seq ?_
  rcases Bool.eq_false_or_eq_true (decide (3 ≤ x)) with hs3 | hs3
  · skip
    have hs3p : 3 ≤ x := by simpa using hs3
    refine wp_region_X [0, 1, 3, 7, 15, 31, 63] [] [] [] (fun ix σ β X => match ix with | 0 => σ 3 = .int .i64 x | 1 => σ 4 = .bool (decide (3 ≤ x)) | 2 => σ 5 = .bool true | 3 => σ 6 = .int .i64 x | 4 => σ 7 = .bool (decide (x ≤ 127)) | 5 => σ 8 = .bool (decide (x ≤ 127)) | 6 => σ 2 = .bool (decide (x ≤ 127)) | _ => True) [] [3, 4, 5, 6, 7, 8, 2] hst1 ?_ ?_ ?_
    · exact fun ix _ _ _ _ _ _ hs hb hx h => match ix, h with
      | 0, h | 1, h | 2, h | 3, h | 4, h | 5, h | 6, h => (hs _ rfl).symm.trans h
      | _ + 7, _ => trivial
    · refine ⟨⟨⟨⟨⟨⟨⟨trivial, ?_⟩, ?_⟩, ?_⟩, ?_⟩, ?_⟩, ?_⟩, ?_⟩
      · exact mo rfl
      · exact s0 rfl fun cx => run_bin rfl (cx.anc 0 rfl) (cx.sees.const _) rfl
      · exact s0 rfl fun cx => run_move' rfl (Eq.trans (cx.anc 1 rfl) (congrArg Value.bool hs3))
      · exact s1 rfl (fun cx => (cx.anc 2 rfl)) fun cx => run_move' rfl (cx.out 0 rfl)
      · exact s1 rfl (fun cx => (cx.anc 2 rfl)) fun cx => run_bin rfl (cx.anc 3 rfl) (cx.sees.const _) rfl
      · exact s0 rfl fun cx => run_pick_t rfl (cx.anc 2 rfl) (cx.anc 4 rfl)
      · exact s0 rfl fun cx => run_assign' rfl (cx.anc 5 rfl)
    intro σ β X W4 hD hX hst4 fr hfr
    simp only [zM] at hst4
    simp only [zP, ed 3 (hD 0 lq), ed 4 (hD 1 lq), ed 5 (hD 2 lq), ed 6 (hD 3 lq), ed 7 (hD 4 lq), ed 8 (hD 5 lq), ed 2 (hD 6 lq)] at hfr
    clear hX hD; subst hfr; clear σ β X
    refine then_normal ?_
    refine wp_ret ?_
    refine bodyPost_ret (v := .bool (decide (x ≤ 127))) (by simp [results, Tryd.results60, go_sem]) rfl ?_
    exact Ret.bool (by first | (simp [onF, *]; done) | (simp [onF, *]; omega)) hst4.ext
  have hs3p : ¬ (3 ≤ x) := by simpa using hs3
  refine wp_region_X [0, 1, 3, 7, 15, 31, 63] [] [] [] (fun ix σ β X => match ix with | 0 => σ 3 = .int .i64 x | 1 => σ 4 = .bool (decide (3 ≤ x)) | 2 => σ 5 = .bool false | 3 => σ 6 = undef | 4 => σ 7 = undef | 5 => σ 8 = .bool false | 6 => σ 2 = .bool false | _ => True) [] [3, 4, 5, 6, 7, 8, 2] hst1 ?_ ?_ ?_
  · exact fun ix _ _ _ _ _ _ hs hb hx h => match ix, h with
    | 0, h | 1, h | 2, h | 3, h | 4, h | 5, h | 6, h => (hs _ rfl).symm.trans h
    | _ + 7, _ => trivial
  · refine ⟨⟨⟨⟨⟨⟨⟨trivial, ?_⟩, ?_⟩, ?_⟩, ?_⟩, ?_⟩, ?_⟩, ?_⟩
    · exact mo rfl
    · exact s0 rfl fun cx => run_bin rfl (cx.anc 0 rfl) (cx.sees.const _) rfl
    · exact s0 rfl fun cx => run_move' rfl (Eq.trans (cx.anc 1 rfl) (congrArg Value.bool hs3))
    · exact s2 rfl fun cx => (cx.anc 2 rfl)
    · exact s2 rfl fun cx => (cx.anc 2 rfl)
    · exact s0 rfl fun cx => run_pick_f rfl (cx.anc 2 rfl) (cx.sees.const _)
    · exact s0 rfl fun cx => run_assign' rfl (cx.anc 5 rfl)
  intro σ β X W5 hD hX hst5 fr hfr
  simp only [zM] at hst5
  simp only [zP, ed 3 (hD 0 lq), ed 4 (hD 1 lq), ed 5 (hD 2 lq), ed 6 (hD 3 lq), ed 7 (hD 4 lq), ed 8 (hD 5 lq), ed 2 (hD 6 lq)] at hfr
  clear hX hD; subst hfr; clear σ β X
  refine then_normal ?_
  refine wp_ret ?_
  refine bodyPost_ret (v := .bool false) (by simp [results, Tryd.results60, go_sem]) rfl ?_
  exact Ret.bool (by first | (simp [onF, *]; done) | (simp [onF, *]; omega)) hst5.ext

set_option maxRecDepth 100000 in
set_option maxHeartbeats 2000000 in
theorem rnext_any (x : Int) (w : World) :
    Calls Tryd.prog 78 #[.int .i64 x] w (Ret (.int .i64 (nextF x)) w) := by
  go_enter Tryd.func78, Tryd.ntmps78
  have hst0 := St.start w
  refine wp_seq ?_
  refine wp_region_X [0] [] [] [] (fun ix σ β X => match ix with | 0 => σ 2 = .int .i64 0 | _ => True) [] [2] hst0 ?_ ?_ ?_
  · exact fun ix _ _ _ _ _ _ hs hb hx h => match ix, h with
    | 0, h => (hs _ rfl).symm.trans h
    | _ + 1, _ => trivial
  · refine ⟨trivial, ?_⟩
    · exact s0 rfl fun cx => run_assign' rfl (cx.sees.const _)
  intro σ β X W1 hD hX hst1 fr hfr
  simp only [zM] at hst1
  simp only [zP, ed 2 (hD 0 lq)] at hfr
  clear hX hD; subst hfr; clear σ β X
  refine then_normal ?_
  refine wp_seq ?_
  refine wp_region_X [0, 1, 3] [] [] [] (fun ix σ β X => match ix with | 0 => σ 4 = .int .i64 x | 1 => σ 5 = .bool (onF x) | 2 => σ 3 = .bool (onF x) | _ => True) [] [4, 5, 3] hst1 ?_ ?_ ?_
  · exact fun ix _ _ _ _ _ _ hs hb hx h => match ix, h with
    | 0, h | 1, h | 2, h => (hs _ rfl).symm.trans h
    | _ + 3, _ => trivial
  · refine ⟨⟨⟨trivial, ?_⟩, ?_⟩, ?_⟩
    · exact mo rfl
    · exact sv_call rfl rfl rfl rfl rfl (fun _ _ _ h => h) fun ρ β W X cx => ⟨_, _, run_callF (args := #[.int .i64 x]) rfl cx.sees rfl (by kernel_rfl) (map1 (cx.anc 0 rfl)), ron_any x _⟩
    · exact s0 rfl fun cx => run_assign' rfl (cx.anc 1 rfl)
  intro σ β X W2 hD hX hst2 fr hfr
  simp only [zM] at hst2
  simp only [zP, ed 4 (hD 0 lq), ed 5 (hD 1 lq), ed 3 (hD 2 lq)] at hfr
  clear hX hD; subst hfr; clear σ β X
  refine then_normal ?_
  refine wp_seq ?_
  refine wp_seq ?_
  rcases Bool.eq_false_or_eq_true (onF x) with hs4 | hs4
  · skip
    refine wp_region_X [0, 1, 3, 7, 15, 31] [] [] [] (fun ix σ β X => match ix with | 0 => σ 6 = .bool true | 1 => σ 7 = .bool false | 2 => σ 8 = .bool false | 3 => σ 9 = .int .i64 x | 4 => σ 10 = .bool (x == 127) | 5 => σ 11 = .bool (x == 127) | _ => True) [] [6, 7, 8, 9, 10, 11] hst2 ?_ ?_ ?_
    · exact fun ix _ _ _ _ _ _ hs hb hx h => match ix, h with
      | 0, h | 1, h | 2, h | 3, h | 4, h | 5, h => (hs _ rfl).symm.trans h
      | _ + 6, _ => trivial
    · refine ⟨⟨⟨⟨⟨⟨trivial, ?_⟩, ?_⟩, ?_⟩, ?_⟩, ?_⟩, ?_⟩
      · exact s0 rfl fun cx => run_move' rfl (Eq.trans (cx.out 3 rfl) (congrArg Value.bool hs4))
      · exact s0 rfl fun cx => run_not rfl (cx.anc 0 rfl) rfl
      · exact s0 rfl fun cx => run_move' rfl (cx.anc 1 rfl)
      · exact s1 rfl (fun cx => (cx.anc 2 rfl)) fun cx => run_move' rfl (cx.out 0 rfl)
      · exact s1 rfl (fun cx => (cx.anc 2 rfl)) fun cx => run_bin rfl (cx.anc 3 rfl) (cx.sees.const _) rfl
      · exact s0 rfl fun cx => run_pick_f rfl (cx.anc 2 rfl) (cx.anc 4 rfl)
    intro σ β X W5 hD hX hst5 fr hfr
    simp only [zM] at hst5
    simp only [zP, ed 6 (hD 0 lq), ed 7 (hD 1 lq), ed 8 (hD 2 lq), ed 9 (hD 3 lq), ed 10 (hD 4 lq), ed 11 (hD 5 lq)] at hfr
    clear hX hD; subst hfr; clear σ β X
    refine then_normal ?_
    rcases Bool.eq_false_or_eq_true (x == 127) with hs6 | hs6
    · skip
      have hs6p : x = 127 := by simpa using hs6
      refine wp_cond_true (show Act.eval _ _ = .bool true from (congrArg Value.bool hs6)) ?_
      refine wp_seq ?_
      refine wp_region_X [0] [] [] [] (fun ix σ β X => match ix with | 0 => σ 2 = .int .i64 3 | _ => True) [] [2] hst5 ?_ ?_ ?_
      · exact fun ix _ _ _ _ _ _ hs hb hx h => match ix, h with
        | 0, h => (hs _ rfl).symm.trans h
        | _ + 1, _ => trivial
      · refine ⟨trivial, ?_⟩
        · exact s0 rfl fun cx => run_assign' rfl (cx.sees.const _)
      intro σ β X W7 hD hX hst7 fr hfr
      simp only [zM] at hst7
      simp only [zP, ed 2 (hD 0 lq)] at hfr
      clear hX hD; subst hfr; clear σ β X
      refine then_normal ?_
      refine wp_ret ?_
      refine then_ret ?_
      refine bodyPost_ret (v := .int .i64 3) (by simp [results, Tryd.results78, go_sem]) rfl ?_
      exact Ret.int (by simp_all [nextF]) hst7.ext
    have hs6p : x ≠ 127 := by simpa using hs6
    refine wp_cond_false (show Act.eval _ _ = .bool false from (congrArg Value.bool hs6)) ?_
    refine wp_skip ?_
    refine then_normal ?_
    refine wp_seq ?_
    have hon := onF_iff.1 (by assumption)
    refine wp_region_X [0, 1, 3] [] [] [] (fun ix σ β X => match ix with | 0 => σ 12 = .int .i64 x | 1 => σ 13 = .int .i64 (x + 1) | 2 => σ 2 = .int .i64 (x + 1) | _ => True) [] [12, 13, 2] hst5 ?_ ?_ ?_
    · exact fun ix _ _ _ _ _ _ hs hb hx h => match ix, h with
      | 0, h | 1, h | 2, h => (hs _ rfl).symm.trans h
      | _ + 3, _ => trivial
    · refine ⟨⟨⟨trivial, ?_⟩, ?_⟩, ?_⟩
      · exact mo rfl
      · exact s4 rfl (fun _ _ _ h => h) fun cx => run_bin rfl (cx.anc 0 rfl) (cx.sees.const _) (congrArg (fun z => some (Value.int .i64 z)) ((IntWalk.i64_in _ (by omega)).trans (by omega)))
      · exact s0 rfl fun cx => run_assign' rfl (cx.anc 1 rfl)
    intro σ β X W8 hD hX hst8 fr hfr
    simp only [zM] at hst8
    simp only [zP, ed 12 (hD 0 lq), ed 13 (hD 1 lq), ed 2 (hD 2 lq)] at hfr
    clear hX hD; subst hfr; clear σ β X
    refine then_normal ?_
    refine wp_ret ?_
    refine bodyPost_ret (v := .int .i64 (x + 1)) (by simp [results, Tryd.results78, go_sem]) rfl ?_
    exact Ret.int (by simp_all [nextF]) hst8.ext
  refine wp_region_X [0, 1, 3, 7, 15, 31] [] [] [] (fun ix σ β X => match ix with | 0 => σ 6 = .bool false | 1 => σ 7 = .bool true | 2 => σ 8 = .bool true | 3 => σ 9 = undef | 4 => σ 10 = undef | 5 => σ 11 = .bool true | _ => True) [] [6, 7, 8, 9, 10, 11] hst2 ?_ ?_ ?_
  · exact fun ix _ _ _ _ _ _ hs hb hx h => match ix, h with
    | 0, h | 1, h | 2, h | 3, h | 4, h | 5, h => (hs _ rfl).symm.trans h
    | _ + 6, _ => trivial
  · refine ⟨⟨⟨⟨⟨⟨trivial, ?_⟩, ?_⟩, ?_⟩, ?_⟩, ?_⟩, ?_⟩
    · exact s0 rfl fun cx => run_move' rfl (Eq.trans (cx.out 3 rfl) (congrArg Value.bool hs4))
    · exact s0 rfl fun cx => run_not rfl (cx.anc 0 rfl) rfl
    · exact s0 rfl fun cx => run_move' rfl (cx.anc 1 rfl)
    · exact s2 rfl fun cx => (cx.anc 2 rfl)
    · exact s2 rfl fun cx => (cx.anc 2 rfl)
    · exact s0 rfl fun cx => run_pick_t rfl (cx.anc 2 rfl) (cx.sees.const _)
  intro σ β X W9 hD hX hst9 fr hfr
  simp only [zM] at hst9
  simp only [zP, ed 6 (hD 0 lq), ed 7 (hD 1 lq), ed 8 (hD 2 lq), ed 9 (hD 3 lq), ed 10 (hD 4 lq), ed 11 (hD 5 lq)] at hfr
  clear hX hD; subst hfr; clear σ β X
  refine then_normal ?_
  refine wp_cond_true (show Act.eval _ _ = .bool true from rfl) ?_
  refine wp_seq ?_
  refine wp_region_X [0] [] [] [] (fun ix σ β X => match ix with | 0 => σ 2 = .int .i64 3 | _ => True) [] [2] hst9 ?_ ?_ ?_
  · exact fun ix _ _ _ _ _ _ hs hb hx h => match ix, h with
    | 0, h => (hs _ rfl).symm.trans h
    | _ + 1, _ => trivial
  · refine ⟨trivial, ?_⟩
    · exact s0 rfl fun cx => run_assign' rfl (cx.sees.const _)
  intro σ β X W10 hD hX hst10 fr hfr
  simp only [zM] at hst10
  simp only [zP, ed 2 (hD 0 lq)] at hfr
  clear hX hD; subst hfr; clear σ β X
  refine then_normal ?_
  refine wp_ret ?_
  refine then_ret ?_
  refine bodyPost_ret (v := .int .i64 3) (by simp [results, Tryd.results78, go_sem]) rfl ?_
  exact Ret.int (by simp_all [nextF]) hst10.ext

set_option maxRecDepth 100000 in
set_option maxHeartbeats 2000000 in
theorem turn_any (x b : Int) (w : World) (hb : 0 ≤ b ∧ b ≤ 100000) :
    Calls Tryd.prog 37 #[.int .i64 x, .int .i64 b] w (Ret (.int .i64 (turnF x b)) w) := by
  go_enter Tryd.func37, Tryd.ntmps37
  have hst0 := St.start w
  refine wp_seq ?_
  refine wp_region_X [0] [] [] [] (fun ix σ β X => match ix with | 0 => σ 4 = .int .i64 0 | _ => True) [] [4] hst0 ?_ ?_ ?_
  · exact fun ix _ _ _ _ _ _ hs hb hx h => match ix, h with
    | 0, h => (hs _ rfl).symm.trans h
    | _ + 1, _ => trivial
  · refine ⟨trivial, ?_⟩
    · exact s0 rfl fun cx => run_assign' rfl (cx.sees.const _)
  intro σ β X W1 hD hX hst1 fr hfr
  simp only [zM] at hst1
  simp only [zP, ed 4 (hD 0 lq)] at hfr
  clear hX hD; subst hfr; clear σ β X
  refine then_normal ?_
  refine wp_seq ?_
  refine wp_region_X [0, 1, 3] [] [] [] (fun ix σ β X => match ix with | 0 => σ 7 = .int .i64 x | 1 => σ 8 = .bool (onF x) | 2 => σ 5 = .bool (onF x) | _ => True) [] [7, 8, 5] hst1 ?_ ?_ ?_
  · exact fun ix _ _ _ _ _ _ hs hb hx h => match ix, h with
    | 0, h | 1, h | 2, h => (hs _ rfl).symm.trans h
    | _ + 3, _ => trivial
  · refine ⟨⟨⟨trivial, ?_⟩, ?_⟩, ?_⟩
    · exact mo rfl
    · exact sv_call rfl rfl rfl rfl rfl (fun _ _ _ h => h) fun ρ β W X cx => ⟨_, _, run_callF (args := #[.int .i64 x]) rfl cx.sees rfl (by kernel_rfl) (map1 (cx.anc 0 rfl)), ron_any x _⟩
    · exact s0 rfl fun cx => run_assign' rfl (cx.anc 1 rfl)
  intro σ β X W2 hD hX hst2 fr hfr
  simp only [zM] at hst2
  simp only [zP, ed 7 (hD 0 lq), ed 8 (hD 1 lq), ed 5 (hD 2 lq)] at hfr
  clear hX hD; subst hfr; clear σ β X
  refine then_normal ?_
  refine wp_seq ?_
  refine wp_seq ?_
  refine wp_region_X [0, 1] [] [] [] (fun ix σ β X => match ix with | 0 => σ 9 = .bool (onF x) | 1 => σ 10 = .bool (!(onF x)) | _ => True) [] [9, 10] hst2 ?_ ?_ ?_
  · exact fun ix _ _ _ _ _ _ hs hb hx h => match ix, h with
    | 0, h | 1, h => (hs _ rfl).symm.trans h
    | _ + 2, _ => trivial
  · refine ⟨⟨trivial, ?_⟩, ?_⟩
    · exact mo rfl
    · exact s0 rfl fun cx => run_not rfl (cx.anc 0 rfl) rfl
  intro σ β X W3 hD hX hst3 fr hfr
  simp only [zM] at hst3
  simp only [zP, ed 9 (hD 0 lq), ed 10 (hD 1 lq)] at hfr
  clear hX hD; subst hfr; clear σ β X
  refine then_normal ?_
  rcases Bool.eq_false_or_eq_true (onF x) with hs4 | hs4
  · skip
    refine wp_cond_false (show Act.eval _ _ = .bool false from (congrArg Value.bool (by rw [hs4]; rfl))) ?_
    refine wp_skip ?_
    refine then_normal ?_
    refine wp_seq ?_
    refine wp_seq ?_
    have hon : onF x = true := by assumption
    have hx0 : turnF x 0 = x := turnF_0 hon
    refine wp_region_X [0] [] [] [] (fun ix σ β X => match ix with | 0 => σ 6 = .int .i64 0 | _ => True) [] [6] hst3 ?_ ?_ ?_
    · exact fun ix _ _ _ _ _ _ hs hb hx h => match ix, h with
      | 0, h => (hs _ rfl).symm.trans h
      | _ + 1, _ => trivial
    · refine ⟨trivial, ?_⟩
      · exact s0 rfl fun cx => run_assign' rfl (cx.sees.const _)
    intro σ β X W5 hD hX hst5 fr hfr
    simp only [zM] at hst5
    simp only [zP, ed 6 (hD 0 lq)] at hfr
    clear hX hD; subst hfr; clear σ β X
    refine then_normal ?_
    refine wp_block ?_
    refine wp_loopN (fun mz az W => ∃ k : Nat, ∃ u6_ : List Value, (k : Int) ≤ b ∧ mz = b.toNat - k ∧ az = ⟨#[.int .i64 (turnF x (k : Int)), .int .i64 b, undef, undef, .int .i64 0, .bool (onF x), .int .i64 ((k : Int)), .int .i64 x, .bool (onF x), .bool (onF x), .bool (!(onF x)), undef, (u6_.getD 0 undef), (u6_.getD 1 undef), (u6_.getD 2 undef), (u6_.getD 3 undef), (u6_.getD 4 undef), (u6_.getD 5 undef), (u6_.getD 6 undef), undef], []⟩ ∧ St w [] [] W) (b.toNat - 0) ?_ ?_
    · -- the loop begins
      have hp7 := hst5.pick [] (by decide) rfl
      exact ⟨0, [undef, undef, undef, undef, undef, undef, undef], by omega, rfl, (by rw [show turnF x ((0 : Nat) : Int) = x from hx0]; rfl), hp7⟩
    rintro n6 a6 W6 ⟨k, u6_, hk, rfl, rfl, hst6⟩
    refine wp_seq ?_
    refine wp_seq ?_
    refine wp_region_X [0, 0, 3] [] [] [] (fun ix σ β X => match ix with | 0 => σ 12 = .int .i64 ((k : Int)) | 1 => σ 13 = .int .i64 b | 2 => σ 14 = .bool (decide ((k : Int) < b)) | _ => True) [] [12, 13, 14] hst6 ?_ ?_ ?_
    · exact fun ix _ _ _ _ _ _ hs hb hx h => match ix, h with
      | 0, h | 1, h | 2, h => (hs _ rfl).symm.trans h
      | _ + 3, _ => trivial
    · refine ⟨⟨⟨trivial, ?_⟩, ?_⟩, ?_⟩
      · exact mo rfl
      · exact mo rfl
      · exact s0 rfl fun cx => run_bin rfl (cx.anc 0 rfl) (cx.anc 1 rfl) rfl
    intro σ β X W8 hD hX hst8 fr hfr
    simp only [zM] at hst8
    simp only [zP, ed 12 (hD 0 lq), ed 13 (hD 1 lq), ed 14 (hD 2 lq)] at hfr
    clear hX hD; subst hfr; clear σ β X
    refine then_normal ?_
    rcases Bool.eq_false_or_eq_true (decide ((k : Int) < b)) with hs9 | hs9
    · skip
      have hs9p : (k : Int) < b := by simpa using hs9
      refine wp_cond_true (show Act.eval _ _ = .bool true from (congrArg Value.bool hs9)) ?_
      refine wp_skip ?_
      refine then_normal ?_
      refine wp_seq ?_
      refine wp_block ?_
      refine wp_region_X [0, 1, 3] [] [] [] (fun ix σ β X => match ix with | 0 => σ 17 = .int .i64 (turnF x (k : Int)) | 1 => σ 18 = .int .i64 (nextF (turnF x (k : Int))) | 2 => σ 0 = .int .i64 (turnF x ((k : Int) + 1)) | _ => True) [] [17, 18, 0] hst8 ?_ ?_ ?_
      · exact fun ix _ _ _ _ _ _ hs hb hx h => match ix, h with
        | 0, h | 1, h | 2, h => (hs _ rfl).symm.trans h
        | _ + 3, _ => trivial
      · refine ⟨⟨⟨trivial, ?_⟩, ?_⟩, ?_⟩
        · exact mo rfl
        · exact sv_call rfl rfl rfl rfl rfl (fun _ _ _ h => h) fun ρ β W X cx => ⟨_, _, run_callF (args := #[.int .i64 (turnF x (k : Int))]) rfl cx.sees rfl (by kernel_rfl) (map1 (cx.anc 0 rfl)), rnext_any (turnF x (k : Int)) _⟩
        · exact s4 rfl (fun _ _ _ h => h) fun cx => (by rw [← nextF_turn hon (by omega : (0 : Int) ≤ (k : Int))]; exact run_assign' rfl (cx.anc 1 rfl))
      intro σ β X W10 hD hX hst10 fr hfr
      simp only [zM] at hst10
      simp only [zP, ed 17 (hD 0 lq), ed 18 (hD 1 lq), ed 0 (hD 2 lq)] at hfr
      clear hX hD; subst hfr; clear σ β X
      refine blk_normal ?_
      refine then_normal ?_
      refine wp_region_X [0, 1, 3] [] [] [] (fun ix σ β X => match ix with | 0 => σ 15 = .int .i64 ((k : Int)) | 1 => σ 16 = .int .i64 ((k : Int) + 1) | 2 => σ 6 = .int .i64 ((k : Int) + 1) | _ => True) [] [15, 16, 6] hst10 ?_ ?_ ?_
      · exact fun ix _ _ _ _ _ _ hs hb hx h => match ix, h with
        | 0, h | 1, h | 2, h => (hs _ rfl).symm.trans h
        | _ + 3, _ => trivial
      · refine ⟨⟨⟨trivial, ?_⟩, ?_⟩, ?_⟩
        · exact mo rfl
        · exact s4 rfl (fun _ _ _ h => h) fun cx => run_bin rfl (cx.anc 0 rfl) (cx.sees.const _) (congrArg (fun z => some (Value.int .i64 z)) ((IntWalk.i64_in _ (by omega)).trans (by omega)))
        · exact s0 rfl fun cx => run_assign' rfl (cx.anc 1 rfl)
      intro σ β X W11 hD hX hst11 fr hfr
      simp only [zM] at hst11
      simp only [zP, ed 15 (hD 0 lq), ed 16 (hD 1 lq), ed 6 (hD 2 lq)] at hfr
      clear hX hD; subst hfr; clear σ β X
      refine then_normal ?_
      refine ⟨b.toNat - ((k + 1)), by omega, ?_⟩
      have hp12 := hst11.pick [] (by decide) rfl
      exact ⟨(k + 1), [.int .i64 ((k : Int)), .int .i64 b, .bool (decide ((k : Int) < b)), .int .i64 ((k : Int)), .int .i64 ((k : Int) + 1), .int .i64 (turnF x (k : Int)), .int .i64 (nextF (turnF x (k : Int)))], by omega, rfl, rfl, hp12⟩
    have hs9p : ¬ ((k : Int) < b) := by simpa using hs9
    refine wp_cond_false (show Act.eval _ _ = .bool false from (congrArg Value.bool hs9)) ?_
    refine wp_exit ?_
    refine then_exit ?_
    refine then_exit ?_
    refine blk_eq ?_
    refine then_normal ?_
    refine wp_seq ?_
    refine wp_region_X [0, 1] [] [] [] (fun ix σ β X => match ix with | 0 => σ 19 = .int .i64 (turnF x (k : Int)) | 1 => σ 4 = .int .i64 (turnF x (k : Int)) | _ => True) [] [19, 4] hst8 ?_ ?_ ?_
    · exact fun ix _ _ _ _ _ _ hs hb hx h => match ix, h with
      | 0, h | 1, h => (hs _ rfl).symm.trans h
      | _ + 2, _ => trivial
    · refine ⟨⟨trivial, ?_⟩, ?_⟩
      · exact mo rfl
      · exact s0 rfl fun cx => run_assign' rfl (cx.anc 0 rfl)
    intro σ β X W13 hD hX hst13 fr hfr
    simp only [zM] at hst13
    simp only [zP, ed 19 (hD 0 lq), ed 4 (hD 1 lq)] at hfr
    clear hX hD; subst hfr; clear σ β X
    refine then_normal ?_
    refine wp_ret ?_
    refine bodyPost_ret (v := .int .i64 (turnF x (k : Int))) (by simp [results, Tryd.results37, go_sem]) rfl ?_
    exact Ret.int (by rw [show (k : Int) = b by omega]) hst13.ext
  refine wp_cond_true (show Act.eval _ _ = .bool true from (congrArg Value.bool (by rw [hs4]; rfl))) ?_
  refine wp_seq ?_
  refine wp_region_X [0, 1] [] [] [] (fun ix σ β X => match ix with | 0 => σ 11 = .int .i64 x | 1 => σ 4 = .int .i64 x | _ => True) [] [11, 4] hst3 ?_ ?_ ?_
  · exact fun ix _ _ _ _ _ _ hs hb hx h => match ix, h with
    | 0, h | 1, h => (hs _ rfl).symm.trans h
    | _ + 2, _ => trivial
  · refine ⟨⟨trivial, ?_⟩, ?_⟩
    · exact mo rfl
    · exact s0 rfl fun cx => run_assign' rfl (cx.anc 0 rfl)
  intro σ β X W14 hD hX hst14 fr hfr
  simp only [zM] at hst14
  simp only [zP, ed 11 (hD 0 lq), ed 4 (hD 1 lq)] at hfr
  clear hX hD; subst hfr; clear σ β X
  refine then_normal ?_
  refine wp_ret ?_
  refine then_ret ?_
  refine bodyPost_ret (v := .int .i64 x) (by simp [results, Tryd.results37, go_sem]) rfl ?_
  exact Ret.int (by simp_all [turnF]) hst14.ext

set_option maxRecDepth 100000 in
set_option maxHeartbeats 2000000 in
theorem one_any (n : Int) (w : World) :
    Calls Tryd.prog 111 #[.int .i64 n] w (Ret (.string (oneS n)) w) := by
  go_enter Tryd.func111, Tryd.ntmps111
  have hst0 := St.start w
  refine wp_seq ?_
  refine wp_region_X [0] [] [] [] (fun ix σ β X => match ix with | 0 => σ 2 = .string ⟨#[]⟩ | _ => True) [] [2] hst0 ?_ ?_ ?_
  · exact fun ix _ _ _ _ _ _ hs hb hx h => match ix, h with
    | 0, h => (hs _ rfl).symm.trans h
    | _ + 1, _ => trivial
  · refine ⟨trivial, ?_⟩
    · exact s0 rfl fun cx => run_assign' rfl (cx.sees.const _)
  intro σ β X W1 hD hX hst1 fr hfr
  simp only [zM] at hst1
  simp only [zP, ed 2 (hD 0 lq)] at hfr
  clear hX hD; subst hfr; clear σ β X
  refine then_normal ?_
  refine wp_seq ?_
  refine wp_region_X [0, 1, 3, 7, 15] [[], [], [], [0]] [[], [], [0]] [] (fun ix σ β X => match ix with | 0 => σ 3 = .int .i64 n | 1 => σ 4 = .int .u8 (n % 256) | 2 => σ 5 = .slice (sA (β 5)) 1 1 ∧ X 0 = eO 5 1 (.slice (sA (β 5)) 1 1) 1 ([.int .u8 (n % 256)]) | 3 => σ 6 = .string (strOfNums ([(n % 256)])) | 4 => σ 2 = .string (strOfNums ([(n % 256)])) | _ => True) [0] [3, 4, 5, 6, 2] hst1 ?_ ?_ ?_
  · exact fun ix _ _ _ _ _ _ hs hb hx h => match ix, h with
    | 0, h | 1, h | 3, h | 4, h => (hs _ rfl).symm.trans h
    | 2, h => by dsimp only at h ⊢; rw [← hs 5 rfl, ← hb 5 rfl, ← hx 0 rfl]; exact h
    | _ + 5, _ => trivial
  · refine ⟨⟨⟨⟨⟨trivial, ?_⟩, ?_⟩, ?_⟩, ?_⟩, ?_⟩
    · exact mo rfl
    · exact s0 rfl fun cx => run_convI rfl (by kernel_rfl) (by kernel_rfl) (cx.anc 0 rfl) (IntKind.wrap_u8 _)
    · refine sv_any rfl rfl fun ρ β W X cx => ?_
      have fF4 : ρ (.tmp 4) = .int .u8 (n % 256) := (cx.anc 1 rfl)
      exact dv_lit (e := 5) (xs := [.int .u8 (n % 256)]) rfl (by simp [go_sem, fF4, cx.sees.const]) rfl (by decide) rfl rfl (fun σ β' X' hs hb hv hx => ⟨hv, hx⟩)
    · exact s0 rfl fun cx => run_convB (e := 5) rfl (by kernel_rfl) (by kernel_rfl) (by kernel_rfl) (cx.anc 2 rfl).1 (cx.row (cx.anc 2 rfl).2 rfl)
    · exact s0 rfl fun cx => run_assign' rfl (cx.anc 3 rfl)
  intro σ β X W2 hD hX hst2 fr hfr
  obtain ⟨A5_2, hu_A5_2⟩ : ∃ z, sA (β 5) = z := ⟨_, rfl⟩
  simp only [zM, exq 0 ((hD 2 lq).2), hu_A5_2] at hst2
  simp only [zP, ed 3 (hD 0 lq), ed 4 (hD 1 lq), ed 5 ((hD 2 lq).1), ed 6 (hD 3 lq), ed 2 (hD 4 lq), hu_A5_2] at hfr
  clear hX hD hu_A5_2; subst hfr; clear σ β X
  refine then_normal ?_
  refine wp_ret ?_
  refine bodyPost_ret (v := .string (strOfNums ([(n % 256)]))) (by simp [results, Tryd.results111, go_sem]) rfl ?_
  exact Ret.of rfl hst2.ext

theorem digbound {m : Int} {f : Nat} (hm : 0 < m) (hf : 1 ≤ f) (h : m < 10 ^ f) : m / 10 < 10 ^ (f - 1) := by
  obtain ⟨g, rfl⟩ : ∃ g, f = g + 1 := ⟨f - 1, by omega⟩
  rw [Nat.add_sub_cancel]
  rw [Int.pow_succ] at h
  omega
theorem digfirst {m : Int} {f : Nat} (h : m < 100000) (hf : f = 5) : m / 10 < 10 ^ f := by
  subst hf
  have h6 : (10 : Int) ^ 5 = 100000 := by decide
  omega
theorem digsmall {m : Int} {f : Nat} (h : m < 10 ^ f) (hf : f ≤ 5) : m < 100000 := by
  have h2 : (10 : Int) ^ f ≤ 10 ^ 5 := by
    have : (10 : Nat) ^ f ≤ 10 ^ 5 := Nat.pow_le_pow_right (by omega) hf
    exact_mod_cast this
  have h3 : (10 : Int) ^ 5 = 100000 := by decide
  omega
set_option maxRecDepth 100000 in
set_option maxHeartbeats 2000000 in
theorem dig_any (n : Int) (w : World) (hn : 0 ≤ n ∧ n < 100000) :
    Calls Tryd.prog 94 #[.int .i64 n] w (Ret (.string (digF n)) w) := by
  go_enter Tryd.func94, Tryd.ntmps94
  have hst0 := St.start w
  refine wp_seq ?_
  refine wp_region_X [0] [] [] [] (fun ix σ β X => match ix with | 0 => σ 2 = .string ⟨#[]⟩ | _ => True) [] [2] hst0 ?_ ?_ ?_
  · exact fun ix _ _ _ _ _ _ hs hb hx h => match ix, h with
    | 0, h => (hs _ rfl).symm.trans h
    | _ + 1, _ => trivial
  · refine ⟨trivial, ?_⟩
    · exact s0 rfl fun cx => run_assign' rfl (cx.sees.const _)
  intro σ β X W1 hD hX hst1 fr hfr
  simp only [zM] at hst1
  simp only [zP, ed 2 (hD 0 lq)] at hfr
  clear hX hD; subst hfr; clear σ β X
  refine then_normal ?_
  refine wp_seq ?_
  refine wp_region_X [0] [] [] [] (fun ix σ β X => match ix with | 0 => σ 3 = .string ⟨#[]⟩ | _ => True) [] [3] hst1 ?_ ?_ ?_
  · exact fun ix _ _ _ _ _ _ hs hb hx h => match ix, h with
    | 0, h => (hs _ rfl).symm.trans h
    | _ + 1, _ => trivial
  · refine ⟨trivial, ?_⟩
    · exact s0 rfl fun cx => run_assign' rfl (cx.sees.const _)
  intro σ β X W2 hD hX hst2 fr hfr
  simp only [zM] at hst2
  simp only [zP, ed 3 (hD 0 lq)] at hfr
  clear hX hD; subst hfr; clear σ β X
  refine then_normal ?_
  refine wp_seq ?_
  refine wp_region_X [0, 1] [] [] [] (fun ix σ β X => match ix with | 0 => σ 7 = .int .i64 n | 1 => σ 4 = .int .i64 n | _ => True) [] [7, 4] hst2 ?_ ?_ ?_
  · exact fun ix _ _ _ _ _ _ hs hb hx h => match ix, h with
    | 0, h | 1, h => (hs _ rfl).symm.trans h
    | _ + 2, _ => trivial
  · refine ⟨⟨trivial, ?_⟩, ?_⟩
    · exact mo rfl
    · exact s0 rfl fun cx => run_assign' rfl (cx.anc 0 rfl)
  intro σ β X W3 hD hX hst3 fr hfr
  simp only [zM] at hst3
  simp only [zP, ed 7 (hD 0 lq), ed 4 (hD 1 lq)] at hfr
  clear hX hD; subst hfr; clear σ β X
  refine then_normal ?_
  refine wp_seq ?_
  refine wp_seq ?_
  refine wp_region_X [0] [] [] [] (fun ix σ β X => match ix with | 0 => σ 5 = .bool true | _ => True) [] [5] hst3 ?_ ?_ ?_
  · exact fun ix _ _ _ _ _ _ hs hb hx h => match ix, h with
    | 0, h => (hs _ rfl).symm.trans h
    | _ + 1, _ => trivial
  · refine ⟨trivial, ?_⟩
    · exact s0 rfl fun cx => run_assign' rfl (cx.sees.const _)
  intro σ β X W4 hD hX hst4 fr hfr
  simp only [zM] at hst4
  simp only [zP, ed 5 (hD 0 lq)] at hfr
  clear hX hD; subst hfr; clear σ β X
  refine then_normal ?_
  refine wp_block ?_
  refine wp_loopN (fun mz az W => ∃ f : Nat, ∃ m : Int, ∃ s : ByteArray, ∃ fs : Bool, ∃ u5_ : List Value, digF n = digG fs f m s ∧ 0 ≤ m ∧ (fs = false → m < 10 ^ f) ∧ (fs = true → m < 100000 ∧ f = 5) ∧ s.size + f + fs.toNat ≤ 30 ∧ f ≤ 5 ∧ mz = 2 * f + fs.toNat ∧ az = ⟨#[.int .i64 n, undef, .string ⟨#[]⟩, .string s, .int .i64 m, .bool fs, (u5_.getD 0 undef), .int .i64 n, (u5_.getD 1 undef), (u5_.getD 2 undef), (u5_.getD 3 undef), (u5_.getD 4 undef), (u5_.getD 5 undef), (u5_.getD 6 undef), (u5_.getD 7 undef), (u5_.getD 8 undef), (u5_.getD 9 undef), (u5_.getD 10 undef), (u5_.getD 11 undef), (u5_.getD 12 undef), (u5_.getD 13 undef), (u5_.getD 14 undef), (u5_.getD 15 undef), (u5_.getD 16 undef), (u5_.getD 17 undef), (u5_.getD 18 undef), undef, undef, undef, undef, undef], []⟩ ∧ St w [] [] W) (2 * 5 + true.toNat) ?_ ?_
  · -- the loop begins
    have hp6 := hst4.pick [] (by decide) rfl
    exact ⟨5, n, ⟨#[]⟩, true, [undef, undef, undef, undef, undef, undef, undef, undef, undef, undef, undef, undef, undef, undef, undef, undef, undef, undef, undef], rfl, hn.1, fun h => (by cases h), fun _ => ⟨by omega, rfl⟩, by show 0 + 5 + 1 ≤ 30; omega, Nat.le_refl 5, rfl, rfl, hp6⟩
  rintro n5 a5 W5 ⟨f, m, s, fs, u5_, hG, hm, hff, hft, hsz, hf5, rfl, rfl, hst5⟩
  refine wp_seq ?_
  refine wp_seq ?_
  rcases Bool.eq_false_or_eq_true (fs) with hs8 | hs8
  · skip
    refine wp_region_X [0, 1, 3, 7, 15] [] [] [] (fun ix σ β X => match ix with | 0 => σ 8 = .bool true | 1 => σ 9 = .bool true | 2 => σ 10 = undef | 3 => σ 11 = undef | 4 => σ 12 = .bool true | _ => True) [] [8, 9, 10, 11, 12] hst5 ?_ ?_ ?_
    · exact fun ix _ _ _ _ _ _ hs hb hx h => match ix, h with
      | 0, h | 1, h | 2, h | 3, h | 4, h => (hs _ rfl).symm.trans h
      | _ + 5, _ => trivial
    · refine ⟨⟨⟨⟨⟨trivial, ?_⟩, ?_⟩, ?_⟩, ?_⟩, ?_⟩
      · exact s0 rfl fun cx => run_move' rfl (Eq.trans (cx.out 5 rfl) (congrArg Value.bool hs8))
      · exact s0 rfl fun cx => run_move' rfl (cx.anc 0 rfl)
      · exact s2 rfl fun cx => (cx.anc 1 rfl)
      · exact s2 rfl fun cx => (cx.anc 1 rfl)
      · exact s0 rfl fun cx => run_pick_t rfl (cx.anc 1 rfl) (cx.sees.const _)
    intro σ β X W9 hD hX hst9 fr hfr
    simp only [zM] at hst9
    simp only [zP, ed 8 (hD 0 lq), ed 9 (hD 1 lq), ed 10 (hD 2 lq), ed 11 (hD 3 lq), ed 12 (hD 4 lq)] at hfr
    clear hX hD; subst hfr; clear σ β X
    refine then_normal ?_
    refine wp_cond_true (show Act.eval _ _ = .bool true from rfl) ?_
    refine wp_skip ?_
    refine then_normal ?_
    refine wp_seq ?_
    refine wp_block ?_
    refine wp_seq ?_
    have hs1 := oneS_size (48 + m % 10)
    have hr : 0 ≤ m % 10 ∧ m % 10 < 10 := by omega
    have hml : m < 100000 := by
      cases fs
      · have h3 := hff rfl; exact digsmall h3 hf5
      · exact (hft rfl).1
    have hs0 : fs = true := by assumption
    refine wp_region_X [0, 1, 3] [] [] [] (fun ix σ β X => match ix with | 0 => σ 13 = .int .i64 m | 1 => σ 14 = .int .i64 (m % 10) | 2 => σ 6 = .int .i64 (m % 10) | _ => True) [] [13, 14, 6] hst9 ?_ ?_ ?_
    · exact fun ix _ _ _ _ _ _ hs hb hx h => match ix, h with
      | 0, h | 1, h | 2, h => (hs _ rfl).symm.trans h
      | _ + 3, _ => trivial
    · refine ⟨⟨⟨trivial, ?_⟩, ?_⟩, ?_⟩
      · exact mo rfl
      · exact s4 rfl (fun _ _ _ h => h) fun cx => run_rem rfl (cx.anc 0 rfl) (cx.sees.const _) (by decide) (Int.tmod_eq_emod_of_nonneg (by omega))
      · exact s0 rfl fun cx => run_assign' rfl (cx.anc 1 rfl)
    intro σ β X W10 hD hX hst10 fr hfr
    simp only [zM] at hst10
    simp only [zP, ed 13 (hD 0 lq), ed 14 (hD 1 lq), ed 6 (hD 2 lq)] at hfr
    clear hX hD; subst hfr; clear σ β X
    refine then_normal ?_
    refine wp_seq ?_
    refine wp_seq ?_
    refine wp_region_X [0, 1] [] [] [] (fun ix σ β X => match ix with | 0 => σ 15 = .int .i64 (m % 10) | 1 => σ 16 = .bool (decide (m % 10 < 0)) | _ => True) [] [15, 16] hst10 ?_ ?_ ?_
    · exact fun ix _ _ _ _ _ _ hs hb hx h => match ix, h with
      | 0, h | 1, h => (hs _ rfl).symm.trans h
      | _ + 2, _ => trivial
    · refine ⟨⟨trivial, ?_⟩, ?_⟩
      · exact mo rfl
      · exact s0 rfl fun cx => run_bin rfl (cx.anc 0 rfl) (cx.sees.const _) rfl
    intro σ β X W11 hD hX hst11 fr hfr
    simp only [zM] at hst11
    simp only [zP, ed 15 (hD 0 lq), ed 16 (hD 1 lq)] at hfr
    clear hX hD; subst hfr; clear σ β X
    refine then_normal ?_
    have hd12 : (decide (m % 10 < 0)) = false := decide_eq_false (by omega)
    refine wp_cond_false (show Act.eval _ _ = .bool false from (congrArg Value.bool hd12)) ?_
    refine wp_skip ?_
    refine then_normal ?_
    refine wp_seq ?_
    refine wp_region_X [0, 1, 3, 0, 15, 31] [] [] [] (fun ix σ β X => match ix with | 0 => σ 19 = .int .i64 (m % 10) | 1 => σ 20 = .int .i64 (48 + (m % 10)) | 2 => σ 21 = .string (oneS (48 + (m % 10))) | 3 => σ 22 = .string s | 4 => σ 23 = .string ((oneS (48 + (m % 10))) ++ s) | 5 => σ 3 = .string ((oneS (48 + (m % 10))) ++ s) | _ => True) [] [19, 20, 21, 22, 23, 3] hst11 ?_ ?_ ?_
    · exact fun ix _ _ _ _ _ _ hs hb hx h => match ix, h with
      | 0, h | 1, h | 2, h | 3, h | 4, h | 5, h => (hs _ rfl).symm.trans h
      | _ + 6, _ => trivial
    · refine ⟨⟨⟨⟨⟨⟨trivial, ?_⟩, ?_⟩, ?_⟩, ?_⟩, ?_⟩, ?_⟩
      · exact mo rfl
      · exact s4 rfl (fun _ _ _ h => h) fun cx => run_bin rfl (cx.sees.const _) (cx.anc 0 rfl) (congrArg (fun z => some (Value.int .i64 z)) ((IntWalk.i64_in _ (by omega)).trans (by omega)))
      · exact sv_call rfl rfl rfl rfl rfl (fun _ _ _ h => h) fun ρ β W X cx => ⟨_, _, run_callF (args := #[.int .i64 (48 + (m % 10))]) rfl cx.sees rfl (by kernel_rfl) (map1 (cx.anc 1 rfl)), one_any (48 + (m % 10)) _⟩
      · exact mo rfl
      · exact s4 rfl (fun _ _ _ h => h) fun cx => run_strcat rfl (cx.anc 2 rfl) (cx.anc 3 rfl) (by omega)
      · exact s0 rfl fun cx => run_assign' rfl (cx.anc 4 rfl)
    intro σ β X W13 hD hX hst13 fr hfr
    simp only [zM] at hst13
    simp only [zP, ed 19 (hD 0 lq), ed 20 (hD 1 lq), ed 21 (hD 2 lq), ed 22 (hD 3 lq), ed 23 (hD 4 lq), ed 3 (hD 5 lq)] at hfr
    clear hX hD; subst hfr; clear σ β X
    refine then_normal ?_
    refine wp_region_X [0, 1, 3] [] [] [] (fun ix σ β X => match ix with | 0 => σ 24 = .int .i64 m | 1 => σ 25 = .int .i64 (m / 10) | 2 => σ 4 = .int .i64 (m / 10) | _ => True) [] [24, 25, 4] hst13 ?_ ?_ ?_
    · exact fun ix _ _ _ _ _ _ hs hb hx h => match ix, h with
      | 0, h | 1, h | 2, h => (hs _ rfl).symm.trans h
      | _ + 3, _ => trivial
    · refine ⟨⟨⟨trivial, ?_⟩, ?_⟩, ?_⟩
      · exact mo rfl
      · exact s4 rfl (fun _ _ _ h => h) fun cx => run_quo rfl (cx.anc 0 rfl) (cx.sees.const _) (by decide) (by rw [Int.tdiv_eq_ediv_of_nonneg (by omega)]; exact IntWalk.i64_in _ (by omega))
      · exact s0 rfl fun cx => run_assign' rfl (cx.anc 1 rfl)
    intro σ β X W14 hD hX hst14 fr hfr
    simp only [zM] at hst14
    simp only [zP, ed 24 (hD 0 lq), ed 25 (hD 1 lq), ed 4 (hD 2 lq)] at hfr
    clear hX hD; subst hfr; clear σ β X
    refine blk_normal ?_
    refine then_normal ?_
    refine wp_region_X [0] [] [] [] (fun ix σ β X => match ix with | 0 => σ 5 = .bool false | _ => True) [] [5] hst14 ?_ ?_ ?_
    · exact fun ix _ _ _ _ _ _ hs hb hx h => match ix, h with
      | 0, h => (hs _ rfl).symm.trans h
      | _ + 1, _ => trivial
    · refine ⟨trivial, ?_⟩
      · exact s0 rfl fun cx => run_assign' rfl (cx.sees.const _)
    intro σ β X W15 hD hX hst15 fr hfr
    simp only [zM] at hst15
    simp only [zP, ed 5 (hD 0 lq)] at hfr
    clear hX hD; subst hfr; clear σ β X
    refine then_normal ?_
    refine ⟨2 * f + false.toNat, by rw [hs0]; first | (simp; done) | (simp; omega), ?_⟩
    have hp16 := hst15.pick [] (by decide) rfl
    exact ⟨f, (m / 10), (oneS (48 + m % 10) ++ s), false, [.int .i64 (m % 10), .bool true, .bool true, undef, undef, .bool true, .int .i64 m, .int .i64 (m % 10), .int .i64 (m % 10), .bool (decide (m % 10 < 0)), (u5_.getD 10 undef), (u5_.getD 11 undef), .int .i64 (m % 10), .int .i64 (48 + (m % 10)), .string (oneS (48 + (m % 10))), .string s, .string ((oneS (48 + (m % 10))) ++ s), .int .i64 m, .int .i64 (m / 10)], by rw [hG, hs0, digG_true], by omega, fun _ => digfirst (hft hs0).1 (hft hs0).2, fun h => (by cases h), by rw [ByteArray.size_append]; rw [hs0] at hsz; simp at hsz ⊢; omega, by omega, rfl, rfl, hp16⟩
  refine wp_region_X [0, 1, 3, 7, 15] [] [] [] (fun ix σ β X => match ix with | 0 => σ 8 = .bool false | 1 => σ 9 = .bool false | 2 => σ 10 = .int .i64 m | 3 => σ 11 = .bool (m != 0) | 4 => σ 12 = .bool (m != 0) | _ => True) [] [8, 9, 10, 11, 12] hst5 ?_ ?_ ?_
  · exact fun ix _ _ _ _ _ _ hs hb hx h => match ix, h with
    | 0, h | 1, h | 2, h | 3, h | 4, h => (hs _ rfl).symm.trans h
    | _ + 5, _ => trivial
  · refine ⟨⟨⟨⟨⟨trivial, ?_⟩, ?_⟩, ?_⟩, ?_⟩, ?_⟩
    · exact s0 rfl fun cx => run_move' rfl (Eq.trans (cx.out 5 rfl) (congrArg Value.bool hs8))
    · exact s0 rfl fun cx => run_move' rfl (cx.anc 0 rfl)
    · exact s1 rfl (fun cx => (cx.anc 1 rfl)) fun cx => run_move' rfl (cx.out 4 rfl)
    · exact s1 rfl (fun cx => (cx.anc 1 rfl)) fun cx => run_bin rfl (cx.anc 2 rfl) (cx.sees.const _) rfl
    · exact s0 rfl fun cx => run_pick_f rfl (cx.anc 1 rfl) (cx.anc 3 rfl)
  intro σ β X W17 hD hX hst17 fr hfr
  simp only [zM] at hst17
  simp only [zP, ed 8 (hD 0 lq), ed 9 (hD 1 lq), ed 10 (hD 2 lq), ed 11 (hD 3 lq), ed 12 (hD 4 lq)] at hfr
  clear hX hD; subst hfr; clear σ β X
  refine then_normal ?_
  rcases Bool.eq_false_or_eq_true (m != 0) with hs18 | hs18
  · skip
    have hs18p : m ≠ 0 := by simpa using hs18
    refine wp_cond_true (show Act.eval _ _ = .bool true from (congrArg Value.bool hs18)) ?_
    refine wp_skip ?_
    refine then_normal ?_
    refine wp_seq ?_
    refine wp_block ?_
    refine wp_seq ?_
    have hs1 := oneS_size (48 + m % 10)
    have hr : 0 ≤ m % 10 ∧ m % 10 < 10 := by omega
    have hml : m < 100000 := by
      cases fs
      · have h3 := hff rfl; exact digsmall h3 hf5
      · exact (hft rfl).1
    have hm0 : m ≠ 0 := by assumption
    have hm0p : 0 < m := by omega
    have hf1 : 1 ≤ f := by
      rcases Nat.lt_or_ge f 1 with h | h
      · have h3 := hff (by assumption); have : f = 0 := by omega
        subst this; simp at h3; omega
      · exact h
    have hs0 : fs = false := by assumption
    refine wp_region_X [0, 1, 3] [] [] [] (fun ix σ β X => match ix with | 0 => σ 13 = .int .i64 m | 1 => σ 14 = .int .i64 (m % 10) | 2 => σ 6 = .int .i64 (m % 10) | _ => True) [] [13, 14, 6] hst17 ?_ ?_ ?_
    · exact fun ix _ _ _ _ _ _ hs hb hx h => match ix, h with
      | 0, h | 1, h | 2, h => (hs _ rfl).symm.trans h
      | _ + 3, _ => trivial
    · refine ⟨⟨⟨trivial, ?_⟩, ?_⟩, ?_⟩
      · exact mo rfl
      · exact s4 rfl (fun _ _ _ h => h) fun cx => run_rem rfl (cx.anc 0 rfl) (cx.sees.const _) (by decide) (Int.tmod_eq_emod_of_nonneg (by omega))
      · exact s0 rfl fun cx => run_assign' rfl (cx.anc 1 rfl)
    intro σ β X W19 hD hX hst19 fr hfr
    simp only [zM] at hst19
    simp only [zP, ed 13 (hD 0 lq), ed 14 (hD 1 lq), ed 6 (hD 2 lq)] at hfr
    clear hX hD; subst hfr; clear σ β X
    refine then_normal ?_
    refine wp_seq ?_
    refine wp_seq ?_
    refine wp_region_X [0, 1] [] [] [] (fun ix σ β X => match ix with | 0 => σ 15 = .int .i64 (m % 10) | 1 => σ 16 = .bool (decide (m % 10 < 0)) | _ => True) [] [15, 16] hst19 ?_ ?_ ?_
    · exact fun ix _ _ _ _ _ _ hs hb hx h => match ix, h with
      | 0, h | 1, h => (hs _ rfl).symm.trans h
      | _ + 2, _ => trivial
    · refine ⟨⟨trivial, ?_⟩, ?_⟩
      · exact mo rfl
      · exact s0 rfl fun cx => run_bin rfl (cx.anc 0 rfl) (cx.sees.const _) rfl
    intro σ β X W20 hD hX hst20 fr hfr
    simp only [zM] at hst20
    simp only [zP, ed 15 (hD 0 lq), ed 16 (hD 1 lq)] at hfr
    clear hX hD; subst hfr; clear σ β X
    refine then_normal ?_
    have hd21 : (decide (m % 10 < 0)) = false := decide_eq_false (by omega)
    refine wp_cond_false (show Act.eval _ _ = .bool false from (congrArg Value.bool hd21)) ?_
    refine wp_skip ?_
    refine then_normal ?_
    refine wp_seq ?_
    refine wp_region_X [0, 1, 3, 0, 15, 31] [] [] [] (fun ix σ β X => match ix with | 0 => σ 19 = .int .i64 (m % 10) | 1 => σ 20 = .int .i64 (48 + (m % 10)) | 2 => σ 21 = .string (oneS (48 + (m % 10))) | 3 => σ 22 = .string s | 4 => σ 23 = .string ((oneS (48 + (m % 10))) ++ s) | 5 => σ 3 = .string ((oneS (48 + (m % 10))) ++ s) | _ => True) [] [19, 20, 21, 22, 23, 3] hst20 ?_ ?_ ?_
    · exact fun ix _ _ _ _ _ _ hs hb hx h => match ix, h with
      | 0, h | 1, h | 2, h | 3, h | 4, h | 5, h => (hs _ rfl).symm.trans h
      | _ + 6, _ => trivial
    · refine ⟨⟨⟨⟨⟨⟨trivial, ?_⟩, ?_⟩, ?_⟩, ?_⟩, ?_⟩, ?_⟩
      · exact mo rfl
      · exact s4 rfl (fun _ _ _ h => h) fun cx => run_bin rfl (cx.sees.const _) (cx.anc 0 rfl) (congrArg (fun z => some (Value.int .i64 z)) ((IntWalk.i64_in _ (by omega)).trans (by omega)))
      · exact sv_call rfl rfl rfl rfl rfl (fun _ _ _ h => h) fun ρ β W X cx => ⟨_, _, run_callF (args := #[.int .i64 (48 + (m % 10))]) rfl cx.sees rfl (by kernel_rfl) (map1 (cx.anc 1 rfl)), one_any (48 + (m % 10)) _⟩
      · exact mo rfl
      · exact s4 rfl (fun _ _ _ h => h) fun cx => run_strcat rfl (cx.anc 2 rfl) (cx.anc 3 rfl) (by omega)
      · exact s0 rfl fun cx => run_assign' rfl (cx.anc 4 rfl)
    intro σ β X W22 hD hX hst22 fr hfr
    simp only [zM] at hst22
    simp only [zP, ed 19 (hD 0 lq), ed 20 (hD 1 lq), ed 21 (hD 2 lq), ed 22 (hD 3 lq), ed 23 (hD 4 lq), ed 3 (hD 5 lq)] at hfr
    clear hX hD; subst hfr; clear σ β X
    refine then_normal ?_
    refine wp_region_X [0, 1, 3] [] [] [] (fun ix σ β X => match ix with | 0 => σ 24 = .int .i64 m | 1 => σ 25 = .int .i64 (m / 10) | 2 => σ 4 = .int .i64 (m / 10) | _ => True) [] [24, 25, 4] hst22 ?_ ?_ ?_
    · exact fun ix _ _ _ _ _ _ hs hb hx h => match ix, h with
      | 0, h | 1, h | 2, h => (hs _ rfl).symm.trans h
      | _ + 3, _ => trivial
    · refine ⟨⟨⟨trivial, ?_⟩, ?_⟩, ?_⟩
      · exact mo rfl
      · exact s4 rfl (fun _ _ _ h => h) fun cx => run_quo rfl (cx.anc 0 rfl) (cx.sees.const _) (by decide) (by rw [Int.tdiv_eq_ediv_of_nonneg (by omega)]; exact IntWalk.i64_in _ (by omega))
      · exact s0 rfl fun cx => run_assign' rfl (cx.anc 1 rfl)
    intro σ β X W23 hD hX hst23 fr hfr
    simp only [zM] at hst23
    simp only [zP, ed 24 (hD 0 lq), ed 25 (hD 1 lq), ed 4 (hD 2 lq)] at hfr
    clear hX hD; subst hfr; clear σ β X
    refine blk_normal ?_
    refine then_normal ?_
    refine wp_region_X [0] [] [] [] (fun ix σ β X => match ix with | 0 => σ 5 = .bool false | _ => True) [] [5] hst23 ?_ ?_ ?_
    · exact fun ix _ _ _ _ _ _ hs hb hx h => match ix, h with
      | 0, h => (hs _ rfl).symm.trans h
      | _ + 1, _ => trivial
    · refine ⟨trivial, ?_⟩
      · exact s0 rfl fun cx => run_assign' rfl (cx.sees.const _)
    intro σ β X W24 hD hX hst24 fr hfr
    simp only [zM] at hst24
    simp only [zP, ed 5 (hD 0 lq)] at hfr
    clear hX hD; subst hfr; clear σ β X
    refine then_normal ?_
    refine ⟨2 * ((f - 1)) + false.toNat, by rw [hs0]; first | (simp; done) | (simp; omega), ?_⟩
    have hp25 := hst24.pick [] (by decide) rfl
    exact ⟨(f - 1), (m / 10), (oneS (48 + m % 10) ++ s), false, [.int .i64 (m % 10), .bool false, .bool false, .int .i64 m, .bool (m != 0), .bool (m != 0), .int .i64 m, .int .i64 (m % 10), .int .i64 (m % 10), .bool (decide (m % 10 < 0)), (u5_.getD 10 undef), (u5_.getD 11 undef), .int .i64 (m % 10), .int .i64 (48 + (m % 10)), .string (oneS (48 + (m % 10))), .string s, .string ((oneS (48 + (m % 10))) ++ s), .int .i64 m, .int .i64 (m / 10)], by rw [hG, hs0, ← digG_false (f - 1) m s hm0, Nat.sub_add_cancel hf1], by omega, fun _ => digbound hm0p hf1 (hff hs0), fun h => (by cases h), by rw [ByteArray.size_append]; rw [hs0] at hsz; simp at hsz ⊢; omega, by omega, rfl, rfl, hp25⟩
  have hs18p : m = 0 := by simpa using hs18
  refine wp_cond_false (show Act.eval _ _ = .bool false from (congrArg Value.bool hs18)) ?_
  refine wp_exit ?_
  refine then_exit ?_
  refine then_exit ?_
  refine blk_eq ?_
  refine then_normal ?_
  refine wp_seq ?_
  refine wp_seq ?_
  refine wp_region_X [0, 1] [] [] [] (fun ix σ β X => match ix with | 0 => σ 26 = .int .i64 n | 1 => σ 27 = .bool (decide (n < 0)) | _ => True) [] [26, 27] hst17 ?_ ?_ ?_
  · exact fun ix _ _ _ _ _ _ hs hb hx h => match ix, h with
    | 0, h | 1, h => (hs _ rfl).symm.trans h
    | _ + 2, _ => trivial
  · refine ⟨⟨trivial, ?_⟩, ?_⟩
    · exact mo rfl
    · exact s0 rfl fun cx => run_bin rfl (cx.anc 0 rfl) (cx.sees.const _) rfl
  intro σ β X W26 hD hX hst26 fr hfr
  simp only [zM] at hst26
  simp only [zP, ed 26 (hD 0 lq), ed 27 (hD 1 lq)] at hfr
  clear hX hD; subst hfr; clear σ β X
  refine then_normal ?_
  have hd27 : (decide (n < 0)) = false := decide_eq_false (by omega)
  refine wp_cond_false (show Act.eval _ _ = .bool false from (congrArg Value.bool hd27)) ?_
  refine wp_skip ?_
  refine then_normal ?_
  refine wp_seq ?_
  refine wp_region_X [0, 1] [] [] [] (fun ix σ β X => match ix with | 0 => σ 30 = .string s | 1 => σ 2 = .string s | _ => True) [] [30, 2] hst26 ?_ ?_ ?_
  · exact fun ix _ _ _ _ _ _ hs hb hx h => match ix, h with
    | 0, h | 1, h => (hs _ rfl).symm.trans h
    | _ + 2, _ => trivial
  · refine ⟨⟨trivial, ?_⟩, ?_⟩
    · exact mo rfl
    · exact s0 rfl fun cx => run_assign' rfl (cx.anc 0 rfl)
  intro σ β X W28 hD hX hst28 fr hfr
  simp only [zM] at hst28
  simp only [zP, ed 30 (hD 0 lq), ed 2 (hD 1 lq)] at hfr
  clear hX hD; subst hfr; clear σ β X
  refine then_normal ?_
  refine wp_ret ?_
  refine bodyPost_ret (v := .string s) (by simp [results, Tryd.results94, go_sem]) rfl ?_
  exact Ret.of (by rw [hG, show fs = false by assumption, show m = 0 by assumption, digG_end]) hst28.ext

end Go.Proofs.YtfjpglohcppjeaaDoor

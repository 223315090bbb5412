/- octet.Text; equality of values, rows, versions. -/
import Derived.Test.YtfjpglohcppjeaaDoorT6
import Derived.Test.YtfjpglohcppjeaaDoorRd
import Derived.Laws.StructEq
namespace Go.Proofs.YtfjpglohcppjeaaDoor
open Go.RowKit
set_option linter.unusedVariables false

theorem ex_all (s : ByteArray) : s.extract 0 s.size = s := by
  apply ByteArray.ext
  simp
def textO (s : ByteArray) : ByteArray := putS s.size 2 ++ s
def vd : Val := (0, 0, ByteArray.empty)
def eqV (u v : Val) : Bool := u.1 == v.1 && (u.2.1 == v.2.1 && u.2.2.toList == v.2.2.toList)
theorem str_eq {a b : ByteArray} (h : a.toList = b.toList) : a = b := by
  rw [ByteArray.toList_eq, ByteArray.toList_eq] at h
  apply ByteArray.ext
  exact Array.toList_inj.1 h
theorem eqV_iff {u v : Val} : eqV u v = true ↔ u = v := by
  unfold eqV
  simp only [Bool.and_eq_true, beq_iff_eq]
  exact ⟨fun ⟨h1, h2, h3⟩ => Prod.ext h1 (Prod.ext h2 (str_eq h3)), fun h => by subst h; simp⟩
theorem flatR_get {rs : List Val} {m j : Nat} (hm : m < rs.length) (hj : j < 3) : (flatR rs)[m * 3 + j]? = (cellsV (rs.getD m vd))[j]? := by
  induction rs generalizing m with
  | nil => simp at hm
  | cons v l ih =>
    have e : flatR (v :: l) = cellsV v ++ flatR l := by simp [flatR]
    rw [e]
    rcases m with _ | m
    · rw [List.getElem?_append_left (by show 0 * 3 + j < 3; omega)]
      simp
    · rw [List.getElem?_append_right (by show 3 ≤ _; omega)]
      have h2 : (m + 1) * 3 + j - (cellsV v).length = m * 3 + j := by show (m + 1) * 3 + j - 3 = _; omega
      rw [h2, ih (by simpa using hm)]
      simp
section
variable {P : Program} {o : Oper} {ρ : Operand → Value} {W : World}
theorem run_indexSlN {x y : Operand} {t e : TypeId} {A : Option Addr} {n c m sz : Nat} {k : IntKind} {j : Int} {xs : List Value} (h : o.op = .indexAddr t x y) (ht : P.underlying t = some (.slice e)) (hz : szP P e = some sz) (h0 : 0 < sz) (hx : ρ x = .slice A n c) (hy : ρ y = .int k j)
    (hj : j = (m : Int)) (hm : m < n) (hA : At W A xs) (hl : xs.length = n * sz) : (execOp ρ o).run P W = .ok (.value (.pointer (some ((ad A).add (m * sz))))) W := by
  subst hj
  have hlt : 0 < xs.length := by rw [hl]; exact Nat.mul_pos (by omega) h0
  obtain ⟨a, rfl, _, _⟩ := hA.get (k := 0) hlt
  unfold execOp; rw [h]
  have h1 : (0 : Int) ≤ (m : Int) ∧ (m : Int) < (n : Int) := ⟨by omega, by omega⟩
  simp only [hx, hy, Instr.indexAt, asIntOf, Sem.run_bind, Sem.run_pure, Result.andThen_ok, run_underlying ht, h1, and_self, if_true, run_size hz]
  simp [ad]
theorem run_loadVal {t : TypeId} {x : Operand} {A : Option Addr} {rs : List Val} {m : Nat} (h : o.op = .load t x) (ht : aggP P t = some true) (hn : szP P t = some 3) (hx : ρ x = .pointer (some ((ad A).add (m * 3)))) (hA : At W A (flatR rs)) (hm : m < rs.length) :
    (execOp ρ o).run P W = .ok (.value (.agg #[.int .i64 (rs.getD m vd).1, .int .i64 (rs.getD m vd).2.1, .string (rs.getD m vd).2.2])) W := by
  have hc : ∀ j u, j < 3 → (cellsV (rs.getD m vd))[j]? = some u → W.cell? (((ad A).add (m * 3)).add j) = some u := fun j u hj hu => by
    rw [add_add']
    exact At.cellAd hA (by rw [flatR_get hm hj]; exact hu)
  have c0 := hc 0 _ (by omega) rfl
  have c1 := hc 1 _ (by omega) rfl
  have c2 := hc 2 _ (by omega) rfl
  unfold execOp; rw [h]
  simp only [hx, Instr.loadAt, Instr.sureAddr, loadVar, Sem.run_bind, Sem.run_pure, Result.andThen_ok, run_isAgg ht, if_true, run_size hn, loadCells, loadCellsFrom, load, Sem.run, c0, c1, c2]
  rfl
theorem run_eqTID {x y : Operand} {a b c d : Int} (h : o.op = .binOp .eql 23 x y 23) (hx : ρ x = .agg #[.int .i64 a, .int .i64 b]) (hy : ρ y = .agg #[.int .i64 c, .int .i64 d]) :
    (execOp ρ o).run Tryd.prog W = .ok (.value (.bool (a == c && b == d))) W := by
  unfold execOp; rw [h]
  simp [go_sem, hx, hy]
  by_cases h1 : a = c <;> by_cases h2 : b = d <;> simp [h1, h2]
theorem run_neqV {x y : Operand} {u v : Val} (h : o.op = .binOp .neq 103 x y 103) (hx : ρ x = .agg #[.int .i64 u.1, .int .i64 u.2.1, .string u.2.2]) (hy : ρ y = .agg #[.int .i64 v.1, .int .i64 v.2.1, .string v.2.2]) :
    (execOp ρ o).run Tryd.prog W = .ok (.value (.bool (!(eqV u v)))) W := by
  unfold execOp; rw [h]
  simp [go_sem, hx, hy, eqV]
  by_cases h1 : u.1 = v.1 <;> by_cases h2 : u.2.1 = v.2.1 <;> by_cases h3 : u.2.2.toList = v.2.2.toList <;> simp [h1, h2, h3]
theorem run_slice_all {P : Program} {t : TypeId} {x y : Operand} {s : ByteArray} {k : IntKind} {j : Int} (h : o.op = .slice t x none (some y) none) (ht : P.underlying t = some .string) (hx : ρ x = .string s) (hy : ρ y = .int k j) (hj : j = (s.size : Int)) :
    (execOp ρ o).run P W = .ok (.value (.string s)) W := by
  have e := run_slice_hi (P := P) (W := W) h ht hx hy hj (Nat.le_refl _)
  rw [ex_all] at e
  exact e
end
set_option maxRecDepth 100000 in
set_option maxHeartbeats 2000000 in
theorem otext_any (s : ByteArray) (w : World) (hs : s.size ≤ 65535) :
    Calls Tryd.prog 58 #[.string s] w (Ret (.string (textO s)) w) := by
  have hp := putS_size (s.size : Int) 2 (by omega)
  go_enter Tryd.func58, Tryd.ntmps58
  have hst0 := St.start w
  refine wp_seq ?_
  refine wp_region_X [0] [] [] [] (fun ix σ β X => match ix with | 0 => σ 2 = .string ⟨#[]⟩ | _ => True) [] [2] hst0 ?_ ?_ ?_
  · exact fun ix _ _ _ _ _ _ hs hb hx h => match ix, h with
    | 0, h => (hs _ rfl).symm.trans h
    | _ + 1, _ => trivial
  · refine ⟨trivial, ?_⟩
    · exact s0 rfl fun cx => run_assign' rfl (cx.sees.const _)
  intro σ β X W1 hD hX hst1 fr hfr
  simp only [zM] at hst1
  simp only [zP, ed 2 (hD 0 lq)] at hfr
  clear hX hD; subst hfr; clear σ β X
  refine then_normal ?_
  refine wp_seq ?_
  refine wp_region_X [0, 0, 2, 6, 15, 31] [] [] [] (fun ix σ β X => match ix with | 0 => σ 3 = .string s | 1 => σ 4 = .string s | 2 => σ 5 = .int .i64 ((s.size : Int)) | 3 => σ 6 = .int .i64 ((s.size : Int)) | 4 => σ 7 = .string s | 5 => σ 0 = .string s | _ => True) [] [3, 4, 5, 6, 7, 0] hst1 ?_ ?_ ?_
  · exact fun ix _ _ _ _ _ _ hs hb hx h => match ix, h with
    | 0, h | 1, h | 2, h | 3, h | 4, h | 5, h => (hs _ rfl).symm.trans h
    | _ + 6, _ => trivial
  · refine ⟨⟨⟨⟨⟨⟨trivial, ?_⟩, ?_⟩, ?_⟩, ?_⟩, ?_⟩, ?_⟩
    · exact mo rfl
    · exact mo rfl
    · exact s0 rfl fun cx => run_len_s rfl (by kernel_rfl) (cx.anc 1 rfl)
    · exact s4 rfl (fun _ _ _ h => h) fun cx => run_min2 rfl (cx.anc 2 rfl) (cx.sees.const _) (by omega)
    · exact s4 rfl (fun _ _ _ h => h) fun cx => run_slice_all rfl (by kernel_rfl) (cx.anc 0 rfl) (cx.anc 3 rfl) (by omega)
    · exact s0 rfl fun cx => run_assign' rfl (cx.anc 4 rfl)
  intro σ β X W2 hD hX hst2 fr hfr
  simp only [zM] at hst2
  simp only [zP, ed 3 (hD 0 lq), ed 4 (hD 1 lq), ed 5 (hD 2 lq), ed 6 (hD 3 lq), ed 7 (hD 4 lq), ed 0 (hD 5 lq)] at hfr
  clear hX hD; subst hfr; clear σ β X
  refine then_normal ?_
  refine wp_seq ?_
  refine wp_region_X [0, 1, 3, 0, 15, 31] [] [] [] (fun ix σ β X => match ix with | 0 => σ 8 = .string s | 1 => σ 9 = .int .i64 ((s.size : Int)) | 2 => σ 10 = .string (putS (s.size : Int) 2) | 3 => σ 11 = .string s | 4 => σ 12 = .string ((putS (s.size : Int) 2) ++ s) | 5 => σ 2 = .string ((putS (s.size : Int) 2) ++ s) | _ => True) [] [8, 9, 10, 11, 12, 2] hst2 ?_ ?_ ?_
  · exact fun ix _ _ _ _ _ _ hs hb hx h => match ix, h with
    | 0, h | 1, h | 2, h | 3, h | 4, h | 5, h => (hs _ rfl).symm.trans h
    | _ + 6, _ => trivial
  · refine ⟨⟨⟨⟨⟨⟨trivial, ?_⟩, ?_⟩, ?_⟩, ?_⟩, ?_⟩, ?_⟩
    · exact mo rfl
    · exact s0 rfl fun cx => run_len_s rfl (by kernel_rfl) (cx.anc 0 rfl)
    · exact sv_call rfl rfl rfl rfl rfl (fun _ _ _ h => h) fun ρ β W X cx => ⟨_, _, run_callF (args := #[.int .i64 ((s.size : Int)), .int .i64 2]) rfl cx.sees rfl (by kernel_rfl) (map2 (cx.anc 1 rfl) (cx.sees.const _)), oput2_any (s.size : Int) _⟩
    · exact mo rfl
    · exact s4 rfl (fun _ _ _ h => h) fun cx => run_strcat rfl (cx.anc 2 rfl) (cx.anc 3 rfl) (by omega)
    · exact s0 rfl fun cx => run_assign' rfl (cx.anc 4 rfl)
  intro σ β X W3 hD hX hst3 fr hfr
  simp only [zM] at hst3
  simp only [zP, ed 8 (hD 0 lq), ed 9 (hD 1 lq), ed 10 (hD 2 lq), ed 11 (hD 3 lq), ed 12 (hD 4 lq), ed 2 (hD 5 lq)] at hfr
  clear hX hD; subst hfr; clear σ β X
  refine then_normal ?_
  refine wp_ret ?_
  refine bodyPost_ret (v := .string ((putS (s.size : Int) 2) ++ s)) (by simp [results, Tryd.results58, go_sem]) rfl ?_
  exact Ret.of rfl hst3.ext

theorem take_eq {rs ts : List Val} {k : Nat} (h : rs.take k = ts.take k) (h1 : k < rs.length) (h2 : k < ts.length) (he : rs.getD k vd = ts.getD k vd) : rs.take (k + 1) = ts.take (k + 1) := by
  rw [List.take_succ_eq_append_getElem h1, List.take_succ_eq_append_getElem h2, h]
  have e1 : rs.getD k vd = rs[k] := by simp [h1]
  have e2 : ts.getD k vd = ts[k] := by simp [h2]
  rw [← e1, ← e2, he]

theorem row_ne {rs ts : List Val} {k : Nat} (h1 : k < rs.length) (he : ¬ rs.getD k vd = ts.getD k vd) : rs ≠ ts := fun h => he (by rw [h])

set_option maxRecDepth 100000 in
set_option maxHeartbeats 2000000 in
theorem rsame_any (RA : Option Addr) (rc : Nat) (rs : List Val) (RB : Option Addr) (tc : Nat) (ts : List Val) (w : World) (hA : At w RA (flatR rs)) (hB : At w RB (flatR ts)) (hl : rs.length ≤ 1000) (hl2 : ts.length ≤ 1000) :
    Calls Tryd.prog 62 #[.slice RA rs.length rc, .slice RB ts.length tc] w (Ret (.bool (decide (rs = ts))) w) := by
  go_enter Tryd.func62, Tryd.ntmps62
  have hst0 := St.start w
  refine wp_seq ?_
  refine wp_region_X [0] [] [] [] (fun ix σ β X => match ix with | 0 => σ 4 = .bool false | _ => True) [] [4] hst0 ?_ ?_ ?_
  · exact fun ix _ _ _ _ _ _ hs hb hx h => match ix, h with
    | 0, h => (hs _ rfl).symm.trans h
    | _ + 1, _ => trivial
  · refine ⟨trivial, ?_⟩
    · exact s0 rfl fun cx => run_assign' rfl (cx.sees.const _)
  intro σ β X W1 hD hX hst1 fr hfr
  simp only [zM] at hst1
  simp only [zP, ed 4 (hD 0 lq)] at hfr
  clear hX hD; subst hfr; clear σ β X
  refine then_normal ?_
  refine wp_seq ?_
  refine wp_seq ?_
  refine wp_region_X [0, 1, 0, 4, 15] [] [] [] (fun ix σ β X => match ix with | 0 => σ 6 = .slice RA rs.length rc | 1 => σ 7 = .int .i64 ((rs.length : Int)) | 2 => σ 8 = .slice RB ts.length tc | 3 => σ 9 = .int .i64 ((ts.length : Int)) | 4 => σ 10 = .bool ((rs.length : Int) != (ts.length : Int)) | _ => True) [] [6, 7, 8, 9, 10] hst1 ?_ ?_ ?_
  · exact fun ix _ _ _ _ _ _ hs hb hx h => match ix, h with
    | 0, h | 1, h | 2, h | 3, h | 4, h => (hs _ rfl).symm.trans h
    | _ + 5, _ => trivial
  · refine ⟨⟨⟨⟨⟨trivial, ?_⟩, ?_⟩, ?_⟩, ?_⟩, ?_⟩
    · exact mo rfl
    · exact s0 rfl fun cx => run_len_l (e := 103) rfl (by kernel_rfl) (cx.anc 0 rfl)
    · exact mo rfl
    · exact s0 rfl fun cx => run_len_l (e := 103) rfl (by kernel_rfl) (cx.anc 2 rfl)
    · exact s0 rfl fun cx => run_bin rfl (cx.anc 1 rfl) (cx.anc 3 rfl) rfl
  intro σ β X W2 hD hX hst2 fr hfr
  simp only [zM] at hst2
  simp only [zP, ed 6 (hD 0 lq), ed 7 (hD 1 lq), ed 8 (hD 2 lq), ed 9 (hD 3 lq), ed 10 (hD 4 lq)] at hfr
  clear hX hD; subst hfr; clear σ β X
  refine then_normal ?_
  rcases Bool.eq_false_or_eq_true ((rs.length : Int) != (ts.length : Int)) with hs3 | hs3
  · skip
    have hs3p : (rs.length : Int) ≠ (ts.length : Int) := by simpa using hs3
    refine wp_cond_true (show Act.eval _ _ = .bool true from (congrArg Value.bool hs3)) ?_
    refine wp_seq ?_
    refine wp_region_X [0] [] [] [] (fun ix σ β X => match ix with | 0 => σ 4 = .bool false | _ => True) [] [4] hst2 ?_ ?_ ?_
    · exact fun ix _ _ _ _ _ _ hs hb hx h => match ix, h with
      | 0, h => (hs _ rfl).symm.trans h
      | _ + 1, _ => trivial
    · refine ⟨trivial, ?_⟩
      · exact s0 rfl fun cx => run_assign' rfl (cx.sees.const _)
    intro σ β X W4 hD hX hst4 fr hfr
    simp only [zM] at hst4
    simp only [zP, ed 4 (hD 0 lq)] at hfr
    clear hX hD; subst hfr; clear σ β X
    refine then_normal ?_
    refine wp_ret ?_
    refine then_ret ?_
    refine bodyPost_ret (v := .bool false) (by simp [results, Tryd.results62, go_sem]) rfl ?_
    exact Ret.bool (by rw [eq_comm, decide_eq_false_iff_not]; rintro rfl; simp_all) hst4.ext
  have hs3p : (rs.length : Int) = (ts.length : Int) := by simpa using hs3
  refine wp_cond_false (show Act.eval _ _ = .bool false from (congrArg Value.bool hs3)) ?_
  refine wp_skip ?_
  refine then_normal ?_
  refine wp_seq ?_
  refine wp_seq ?_
  refine wp_region_X [0] [] [] [] (fun ix σ β X => match ix with | 0 => σ 5 = .int .i64 0 | _ => True) [] [5] hst2 ?_ ?_ ?_
  · exact fun ix _ _ _ _ _ _ hs hb hx h => match ix, h with
    | 0, h => (hs _ rfl).symm.trans h
    | _ + 1, _ => trivial
  · refine ⟨trivial, ?_⟩
    · exact s0 rfl fun cx => run_assign' rfl (cx.sees.const _)
  intro σ β X W5 hD hX hst5 fr hfr
  simp only [zM] at hst5
  simp only [zP, ed 5 (hD 0 lq)] at hfr
  clear hX hD; subst hfr; clear σ β X
  refine then_normal ?_
  refine wp_block ?_
  refine wp_loopN (fun mz az W => ∃ k : Nat, ∃ u6_ : List Value, k ≤ rs.length ∧ rs.take k = ts.take k ∧ mz = rs.length - k ∧ az = ⟨#[.slice RA rs.length rc, .slice RB ts.length tc, undef, undef, (u6_.getD 0 undef), .int .i64 ((k : Int)), .slice RA rs.length rc, .int .i64 ((rs.length : Int)), .slice RB ts.length tc, .int .i64 ((ts.length : Int)), .bool ((rs.length : Int) != (ts.length : Int)), (u6_.getD 1 undef), (u6_.getD 2 undef), (u6_.getD 3 undef), (u6_.getD 4 undef), (u6_.getD 5 undef), (u6_.getD 6 undef), (u6_.getD 7 undef), (u6_.getD 8 undef), (u6_.getD 9 undef), (u6_.getD 10 undef), (u6_.getD 11 undef), (u6_.getD 12 undef), (u6_.getD 13 undef), (u6_.getD 14 undef), (u6_.getD 15 undef)], []⟩ ∧ St w [] [] W) (rs.length - 0) ?_ ?_
  · -- the loop begins
    have hp7 := hst5.pick [] (by decide) rfl
    exact ⟨0, [.bool false, undef, undef, undef, undef, undef, undef, undef, undef, undef, undef, undef, undef, undef, undef, undef], Nat.zero_le _, rfl, rfl, rfl, hp7⟩
  rintro n6 a6 W6 ⟨k, u6_, hk, hT, rfl, rfl, hst6⟩
  refine wp_seq ?_
  refine wp_seq ?_
  refine wp_region_X [0, 0, 2, 7] [] [] [] (fun ix σ β X => match ix with | 0 => σ 11 = .int .i64 ((k : Int)) | 1 => σ 12 = .slice RA rs.length rc | 2 => σ 13 = .int .i64 ((rs.length : Int)) | 3 => σ 14 = .bool (decide ((k : Int) < (rs.length : Int))) | _ => True) [] [11, 12, 13, 14] hst6 ?_ ?_ ?_
  · exact fun ix _ _ _ _ _ _ hs hb hx h => match ix, h with
    | 0, h | 1, h | 2, h | 3, h => (hs _ rfl).symm.trans h
    | _ + 4, _ => trivial
  · refine ⟨⟨⟨⟨trivial, ?_⟩, ?_⟩, ?_⟩, ?_⟩
    · exact mo rfl
    · exact mo rfl
    · exact s0 rfl fun cx => run_len_l (e := 103) rfl (by kernel_rfl) (cx.anc 1 rfl)
    · exact s0 rfl fun cx => run_bin rfl (cx.anc 0 rfl) (cx.anc 2 rfl) rfl
  intro σ β X W8 hD hX hst8 fr hfr
  simp only [zM] at hst8
  simp only [zP, ed 11 (hD 0 lq), ed 12 (hD 1 lq), ed 13 (hD 2 lq), ed 14 (hD 3 lq)] at hfr
  clear hX hD; subst hfr; clear σ β X
  refine then_normal ?_
  rcases Bool.eq_false_or_eq_true (decide ((k : Int) < (rs.length : Int))) with hs9 | hs9
  · skip
    have hs9p : (k : Int) < (rs.length : Int) := by simpa using hs9
    refine wp_cond_true (show Act.eval _ _ = .bool true from (congrArg Value.bool hs9)) ?_
    refine wp_skip ?_
    refine then_normal ?_
    refine wp_seq ?_
    refine wp_block ?_
    refine wp_seq ?_
    refine wp_region_X [0, 0, 3, 7, 0, 0, 48, 112, 255] [] [] [] (fun ix σ β X => match ix with | 0 => σ 17 = .slice RA rs.length rc | 1 => σ 18 = .int .i64 ((k : Int)) | 2 => σ 19 = .pointer (some ((ad RA).add (k * 3))) | 3 => σ 20 = .agg #[.int .i64 ((rs.getD k vd).1), .int .i64 ((rs.getD k vd).2.1), .string ((rs.getD k vd).2.2)] | 4 => σ 21 = .slice RB ts.length tc | 5 => σ 22 = .int .i64 ((k : Int)) | 6 => σ 23 = .pointer (some ((ad RB).add (k * 3))) | 7 => σ 24 = .agg #[.int .i64 ((ts.getD k vd).1), .int .i64 ((ts.getD k vd).2.1), .string ((ts.getD k vd).2.2)] | 8 => σ 25 = .bool (!(eqV (rs.getD k vd) (ts.getD k vd))) | _ => True) [] [17, 18, 19, 20, 21, 22, 23, 24, 25] hst8 ?_ ?_ ?_
    · exact fun ix _ _ _ _ _ _ hs hb hx h => match ix, h with
      | 0, h | 1, h | 2, h | 3, h | 4, h | 5, h | 6, h | 7, h | 8, h => (hs _ rfl).symm.trans h
      | _ + 9, _ => trivial
    · refine ⟨⟨⟨⟨⟨⟨⟨⟨⟨trivial, ?_⟩, ?_⟩, ?_⟩, ?_⟩, ?_⟩, ?_⟩, ?_⟩, ?_⟩, ?_⟩
      · exact mo rfl
      · exact mo rfl
      · exact s4 rfl (fun _ _ _ h => h) fun cx => run_indexSlN (e := 103) (sz := 3) (m := k) rfl (by kernel_rfl) (by kernel_rfl) (by decide) (cx.anc 0 rfl) (cx.anc 1 rfl) (by omega) (by omega) (hA.ext cx.upd.to_ext) (by rw [flatR_len])
      · exact s4 rfl (fun _ _ _ h => h) fun cx => run_loadVal rfl (by kernel_rfl) (by kernel_rfl) (cx.anc 2 rfl) (hA.ext cx.upd.to_ext) (by omega)
      · exact mo rfl
      · exact mo rfl
      · exact s4 rfl (fun _ _ _ h => h) fun cx => run_indexSlN (e := 103) (sz := 3) (m := k) rfl (by kernel_rfl) (by kernel_rfl) (by decide) (cx.anc 4 rfl) (cx.anc 5 rfl) (by omega) (by omega) (hB.ext cx.upd.to_ext) (by rw [flatR_len])
      · exact s4 rfl (fun _ _ _ h => h) fun cx => run_loadVal rfl (by kernel_rfl) (by kernel_rfl) (cx.anc 6 rfl) (hB.ext cx.upd.to_ext) (by omega)
      · exact s0 rfl fun cx => run_neqV rfl (cx.anc 3 rfl) (cx.anc 7 rfl)
    intro σ β X W10 hD hX hst10 fr hfr
    simp only [zM] at hst10
    simp only [zP, ed 17 (hD 0 lq), ed 18 (hD 1 lq), ed 19 (hD 2 lq), ed 20 (hD 3 lq), ed 21 (hD 4 lq), ed 22 (hD 5 lq), ed 23 (hD 6 lq), ed 24 (hD 7 lq), ed 25 (hD 8 lq)] at hfr
    clear hX hD; subst hfr; clear σ β X
    refine then_normal ?_
    rcases Bool.eq_false_or_eq_true (eqV (rs.getD k vd) (ts.getD k vd)) with hs11 | hs11
    · skip
      refine wp_cond_false (show Act.eval _ _ = .bool false from (congrArg Value.bool (by rw [hs11]; rfl))) ?_
      refine wp_skip ?_
      refine blk_normal ?_
      refine then_normal ?_
      refine wp_region_X [0, 1, 3] [] [] [] (fun ix σ β X => match ix with | 0 => σ 15 = .int .i64 ((k : Int)) | 1 => σ 16 = .int .i64 ((k : Int) + 1) | 2 => σ 5 = .int .i64 ((k : Int) + 1) | _ => True) [] [15, 16, 5] hst10 ?_ ?_ ?_
      · exact fun ix _ _ _ _ _ _ hs hb hx h => match ix, h with
        | 0, h | 1, h | 2, h => (hs _ rfl).symm.trans h
        | _ + 3, _ => trivial
      · refine ⟨⟨⟨trivial, ?_⟩, ?_⟩, ?_⟩
        · exact mo rfl
        · exact s4 rfl (fun _ _ _ h => h) fun cx => run_bin rfl (cx.anc 0 rfl) (cx.sees.const _) (congrArg (fun z => some (Value.int .i64 z)) ((IntWalk.i64_in _ (by omega)).trans (by omega)))
        · exact s0 rfl fun cx => run_assign' rfl (cx.anc 1 rfl)
      intro σ β X W12 hD hX hst12 fr hfr
      simp only [zM] at hst12
      simp only [zP, ed 15 (hD 0 lq), ed 16 (hD 1 lq), ed 5 (hD 2 lq)] at hfr
      clear hX hD; subst hfr; clear σ β X
      refine then_normal ?_
      refine ⟨rs.length - ((k + 1)), by omega, ?_⟩
      have hp13 := hst12.pick [] (by decide) rfl
      exact ⟨(k + 1), [(u6_.getD 0 undef), .int .i64 ((k : Int)), .slice RA rs.length rc, .int .i64 ((rs.length : Int)), .bool (decide ((k : Int) < (rs.length : Int))), .int .i64 ((k : Int)), .int .i64 ((k : Int) + 1), .slice RA rs.length rc, .int .i64 ((k : Int)), .pointer (some ((ad RA).add (k * 3))), .agg #[.int .i64 ((rs.getD k vd).1), .int .i64 ((rs.getD k vd).2.1), .string ((rs.getD k vd).2.2)], .slice RB ts.length tc, .int .i64 ((k : Int)), .pointer (some ((ad RB).add (k * 3))), .agg #[.int .i64 ((ts.getD k vd).1), .int .i64 ((ts.getD k vd).2.1), .string ((ts.getD k vd).2.2)], .bool (!(eqV (rs.getD k vd) (ts.getD k vd)))], by omega, take_eq hT (by omega) (by omega) (eqV_iff.1 (by assumption)), rfl, rfl, hp13⟩
    refine wp_cond_true (show Act.eval _ _ = .bool true from (congrArg Value.bool (by rw [hs11]; rfl))) ?_
    refine wp_seq ?_
    refine wp_region_X [0] [] [] [] (fun ix σ β X => match ix with | 0 => σ 4 = .bool false | _ => True) [] [4] hst10 ?_ ?_ ?_
    · exact fun ix _ _ _ _ _ _ hs hb hx h => match ix, h with
      | 0, h => (hs _ rfl).symm.trans h
      | _ + 1, _ => trivial
    · refine ⟨trivial, ?_⟩
      · exact s0 rfl fun cx => run_assign' rfl (cx.sees.const _)
    intro σ β X W14 hD hX hst14 fr hfr
    simp only [zM] at hst14
    simp only [zP, ed 4 (hD 0 lq)] at hfr
    clear hX hD; subst hfr; clear σ β X
    refine then_normal ?_
    refine wp_ret ?_
    refine blk_ret ?_
    refine then_ret ?_
    refine then_ret ?_
    refine blk_ret ?_
    refine then_ret ?_
    refine bodyPost_ret (v := .bool false) (by simp [results, Tryd.results62, go_sem]) rfl ?_
    exact Ret.bool (by rw [eq_comm, decide_eq_false_iff_not]; exact row_ne (k := k) (by omega) (fun h => by rw [eqV_iff.2 h] at *; contradiction)) hst14.ext
  have hs9p : ¬ ((k : Int) < (rs.length : Int)) := by simpa using hs9
  refine wp_cond_false (show Act.eval _ _ = .bool false from (congrArg Value.bool hs9)) ?_
  refine wp_exit ?_
  refine then_exit ?_
  refine then_exit ?_
  refine blk_eq ?_
  refine then_normal ?_
  refine wp_seq ?_
  refine wp_region_X [0] [] [] [] (fun ix σ β X => match ix with | 0 => σ 4 = .bool true | _ => True) [] [4] hst8 ?_ ?_ ?_
  · exact fun ix _ _ _ _ _ _ hs hb hx h => match ix, h with
    | 0, h => (hs _ rfl).symm.trans h
    | _ + 1, _ => trivial
  · refine ⟨trivial, ?_⟩
    · exact s0 rfl fun cx => run_assign' rfl (cx.sees.const _)
  intro σ β X W15 hD hX hst15 fr hfr
  simp only [zM] at hst15
  simp only [zP, ed 4 (hD 0 lq)] at hfr
  clear hX hD; subst hfr; clear σ β X
  refine then_normal ?_
  refine wp_ret ?_
  refine bodyPost_ret (v := .bool true) (by simp [results, Tryd.results62, go_sem]) rfl ?_
  exact Ret.bool (by rw [eq_comm, decide_eq_true_eq]; have h := hT; rw [show k = rs.length by omega, List.take_length] at h; rw [h, List.take_of_length_le (by omega)]) hst15.ext

def sameV (a b n1 n2 : Int) (ho : Bool) (rs : List Val) (a' b' n1' n2' : Int) (ho' : Bool) (ts : List Val) : Bool := a == a' && (b == b' && (n1 == n1' && n2 == n2' && (ho == ho' && decide (rs = ts))))

set_option maxRecDepth 100000 in
set_option maxHeartbeats 2000000 in
theorem vsame_any (a b n1 n2 : Int) (ho : Bool) (RA : Option Addr) (rc : Nat) (rs : List Val) (a' b' n1' n2' : Int) (ho' : Bool) (RB : Option Addr) (tc : Nat) (ts : List Val) (w : World) (hA : At w RA (flatR rs)) (hB : At w RB (flatR ts)) (hl : rs.length ≤ 1000) (hl2 : ts.length ≤ 1000) :
    Calls Tryd.prog 19 #[.agg #[.int .i64 a, .int .i64 b, .int .i64 n1, .int .i64 n2, .bool ho, .slice RA rs.length rc], .agg #[.int .i64 (a'), .int .i64 (b'), .int .i64 (n1'), .int .i64 (n2'), .bool (ho'), .slice RB ts.length tc]] w (Ret (.bool (sameV a b n1 n2 ho rs a' b' n1' n2' ho' ts)) w) := by
  go_enter Tryd.func19, Tryd.ntmps19
  have hst0 := St.start w
  refine wp_seq ?_
  refine wp_region_X [0, 0, 0] [] [[0], [1]] [] (fun ix σ β X => match ix with | 0 => σ 2 = .pointer (some ⟨(pb (β 2)), 0, none⟩) ∧ X 0 = eB (pb (β 2)) 27 #[.int .i64 a, .int .i64 b, .int .i64 n1, .int .i64 n2, .bool ho, .slice RA rs.length rc] | 1 => σ 3 = .pointer (some ⟨(pb (β 3)), 0, none⟩) ∧ X 1 = eB (pb (β 3)) 27 #[.int .i64 (a'), .int .i64 (b'), .int .i64 (n1'), .int .i64 (n2'), .bool (ho'), .slice RB ts.length tc] | 2 => σ 4 = .bool false | _ => True) [0, 1] [2, 3, 4] hst0 ?_ ?_ ?_
  · exact fun ix _ _ _ _ _ _ hs hb hx h => match ix, h with
    | 2, h => (hs _ rfl).symm.trans h
    | 0, h => by dsimp only at h ⊢; rw [← hs 2 rfl, ← hb 2 rfl, ← hx 0 rfl]; exact h
    | 1, h => by dsimp only at h ⊢; rw [← hs 3 rfl, ← hb 3 rfl, ← hx 1 rfl]; exact h
    | _ + 3, _ => trivial
  · refine ⟨⟨⟨trivial, ?_⟩, ?_⟩, ?_⟩
    · refine sv_any rfl rfl fun ρ β W X cx => ?_
      exact dv_box (cs := #[.int .i64 a, .int .i64 b, .int .i64 n1, .int .i64 n2, .bool ho, .slice RA rs.length rc]) rfl (cx.out 0 rfl) rfl rfl rfl (fun σ β' X' hs hb hv hx => ⟨hv, hx⟩)
    · refine sv_any rfl rfl fun ρ β W X cx => ?_
      exact dv_box (cs := #[.int .i64 (a'), .int .i64 (b'), .int .i64 (n1'), .int .i64 (n2'), .bool (ho'), .slice RB ts.length tc]) rfl (cx.out 1 rfl) rfl rfl rfl (fun σ β' X' hs hb hv hx => ⟨hv, hx⟩)
    · exact s0 rfl fun cx => run_assign' rfl (cx.sees.const _)
  intro σ β X W1 hD hX hst1 fr hfr
  obtain ⟨B2_1, hu_B2_1⟩ : ∃ z, pb (β 2) = z := ⟨_, rfl⟩
  obtain ⟨B3_1, hu_B3_1⟩ : ∃ z, pb (β 3) = z := ⟨_, rfl⟩
  simp only [zM, exq 0 ((hD 0 lq).2), exq 1 ((hD 1 lq).2), hu_B2_1, hu_B3_1] at hst1
  simp only [zP, ed 2 ((hD 0 lq).1), ed 3 ((hD 1 lq).1), ed 4 (hD 2 lq), hu_B2_1, hu_B3_1] at hfr
  clear hX hD hu_B2_1 hu_B3_1; subst hfr; clear σ β X
  refine then_normal ?_
  refine wp_seq ?_
  rcases Bool.eq_false_or_eq_true (a == (a')) with hs3 | hs3
  · skip
    have hs3p : a = (a') := by simpa using hs3
    rcases Bool.eq_false_or_eq_true (b == (b')) with hs5 | hs5
    · skip
      have hs5p : b = (b') := by simpa using hs5
      rcases Bool.eq_false_or_eq_true (n1 == n1' && n2 == n2') with hs7 | hs7
      · skip
        rcases Bool.eq_false_or_eq_true (ho == (ho')) with hs9 | hs9
        · skip
          have hs9p : ho = (ho') := by simpa using hs9
          refine wp_region_X [0, 1, 0, 4, 15, 31, 63, 127, 63, 319, 1023, 2047, 4095, 8191, 16383, 8191, 40959, 131071, 262143, 524287, 1048575, 2097151, 1048575, 5242879, 16777215, 33554431, 67108863, 134217727, 268435455, 134217727, 671088639, 2147483647, 4294967295, 8589934591] [[], [0], [], [1], [], [], [], [0], [], [1], [], [], [], [], [0], [], [1], [], [], [], [], [0], [], [1], [], [], [], [], [0], [], [1]] [] [] (fun ix σ β X => match ix with | 0 => σ 5 = .pointer (some ⟨B2_1, 0, none⟩) | 1 => σ 6 = .int .i64 a | 2 => σ 7 = .pointer (some ⟨B3_1, 0, none⟩) | 3 => σ 8 = .int .i64 (a') | 4 => σ 9 = .bool (a == (a')) | 5 => σ 10 = .bool true | 6 => σ 11 = .pointer (some ⟨B2_1, 1, none⟩) | 7 => σ 12 = .int .i64 b | 8 => σ 13 = .pointer (some ⟨B3_1, 1, none⟩) | 9 => σ 14 = .int .i64 (b') | 10 => σ 15 = .bool (b == (b')) | 11 => σ 16 = .bool true | 12 => σ 17 = .bool true | 13 => σ 18 = .pointer (some ⟨B2_1, 2, none⟩) | 14 => σ 19 = .agg #[.int .i64 n1, .int .i64 n2] | 15 => σ 20 = .pointer (some ⟨B3_1, 2, none⟩) | 16 => σ 21 = .agg #[.int .i64 (n1'), .int .i64 (n2')] | 17 => σ 22 = .bool (n1 == n1' && n2 == n2') | 18 => σ 23 = .bool true | 19 => σ 24 = .bool true | 20 => σ 25 = .pointer (some ⟨B2_1, 4, none⟩) | 21 => σ 26 = .bool ho | 22 => σ 27 = .pointer (some ⟨B3_1, 4, none⟩) | 23 => σ 28 = .bool (ho') | 24 => σ 29 = .bool (ho == (ho')) | 25 => σ 30 = .bool true | 26 => σ 31 = .bool true | 27 => σ 32 = .pointer (some ⟨B2_1, 5, none⟩) | 28 => σ 33 = .slice RA rs.length rc | 29 => σ 34 = .pointer (some ⟨B3_1, 5, none⟩) | 30 => σ 35 = .slice RB ts.length tc | 31 => σ 36 = .bool (decide (rs = ts)) | 32 => σ 37 = .bool (decide (rs = ts)) | 33 => σ 4 = .bool (decide (rs = ts)) | _ => True) [0, 1] [5, 6, 7, 8, 9, 10, 11, 12, 13, 14, 15, 16, 17, 18, 19, 20, 21, 22, 23, 24, 25, 26, 27, 28, 29, 30, 31, 32, 33, 34, 35, 36, 37, 4] hst1 ?_ ?_ ?_
          · exact fun ix _ _ _ _ _ _ hs hb hx h => match ix, h with
            | 0, h | 1, h | 2, h | 3, h | 4, h | 5, h | 6, h | 7, h | 8, h | 9, h | 10, h | 11, h | 12, h | 13, h | 14, h | 15, h | 16, h | 17, h | 18, h | 19, h | 20, h | 21, h | 22, h | 23, h | 24, h | 25, h | 26, h | 27, h | 28, h | 29, h | 30, h | 31, h | 32, h | 33, h => (hs _ rfl).symm.trans h
            | _ + 34, _ => trivial
          · refine ⟨⟨⟨⟨⟨⟨⟨⟨⟨⟨⟨⟨⟨⟨⟨⟨⟨⟨⟨⟨⟨⟨⟨⟨⟨⟨⟨⟨⟨⟨⟨⟨⟨⟨trivial, ?_⟩, ?_⟩, ?_⟩, ?_⟩, ?_⟩, ?_⟩, ?_⟩, ?_⟩, ?_⟩, ?_⟩, ?_⟩, ?_⟩, ?_⟩, ?_⟩, ?_⟩, ?_⟩, ?_⟩, ?_⟩, ?_⟩, ?_⟩, ?_⟩, ?_⟩, ?_⟩, ?_⟩, ?_⟩, ?_⟩, ?_⟩, ?_⟩, ?_⟩, ?_⟩, ?_⟩, ?_⟩, ?_⟩, ?_⟩
            · exact s0 rfl fun cx => run_fieldAddr' (k := 0) (n := 0) rfl (by kernel_rfl) (cx.out 2 rfl) rfl
            · exact s0 rfl fun cx => run_load1 rfl (by kernel_rfl) (cx.anc 0 rfl) ((cx.blk (cx.init 0 _ rfl) rfl).cell 0)
            · exact s0 rfl fun cx => run_fieldAddr' (k := 0) (n := 0) rfl (by kernel_rfl) (cx.out 3 rfl) rfl
            · exact s0 rfl fun cx => run_load1 rfl (by kernel_rfl) (cx.anc 2 rfl) ((cx.blk (cx.init 1 _ rfl) rfl).cell 0)
            · exact s0 rfl fun cx => run_bin rfl (cx.anc 1 rfl) (cx.anc 3 rfl) rfl
            · exact s0 rfl fun cx => run_move' rfl (Eq.trans (cx.anc 4 rfl) (congrArg Value.bool hs3))
            · exact s1 rfl (fun cx => (cx.anc 5 rfl)) fun cx => run_fieldAddr' (k := 1) (n := 1) rfl (by kernel_rfl) (cx.out 2 rfl) rfl
            · exact s1 rfl (fun cx => (cx.anc 5 rfl)) fun cx => run_load1 rfl (by kernel_rfl) (cx.anc 6 rfl) ((cx.blk (cx.init 0 _ rfl) rfl).cell 1)
            · exact s1 rfl (fun cx => (cx.anc 5 rfl)) fun cx => run_fieldAddr' (k := 1) (n := 1) rfl (by kernel_rfl) (cx.out 3 rfl) rfl
            · exact s1 rfl (fun cx => (cx.anc 5 rfl)) fun cx => run_load1 rfl (by kernel_rfl) (cx.anc 8 rfl) ((cx.blk (cx.init 1 _ rfl) rfl).cell 1)
            · exact s1 rfl (fun cx => (cx.anc 5 rfl)) fun cx => run_bin rfl (cx.anc 7 rfl) (cx.anc 9 rfl) rfl
            · exact s0 rfl fun cx => run_pick_t rfl (cx.anc 5 rfl) (Eq.trans (cx.anc 10 rfl) (congrArg Value.bool hs5))
            · exact s0 rfl fun cx => run_move' rfl (cx.anc 11 rfl)
            · exact s1 rfl (fun cx => (cx.anc 12 rfl)) fun cx => run_fieldAddr' (k := 2) (n := 2) rfl (by kernel_rfl) (cx.out 2 rfl) rfl
            · exact s1 rfl (fun cx => (cx.anc 12 rfl)) fun cx => run_loadB (n := 2) rfl (by kernel_rfl) (by kernel_rfl) (cx.anc 13 rfl) (cx.blk (cx.init 0 _ rfl) rfl) (Nat.le_of_ble_eq_true rfl) rfl
            · exact s1 rfl (fun cx => (cx.anc 12 rfl)) fun cx => run_fieldAddr' (k := 2) (n := 2) rfl (by kernel_rfl) (cx.out 3 rfl) rfl
            · exact s1 rfl (fun cx => (cx.anc 12 rfl)) fun cx => run_loadB (n := 2) rfl (by kernel_rfl) (by kernel_rfl) (cx.anc 15 rfl) (cx.blk (cx.init 1 _ rfl) rfl) (Nat.le_of_ble_eq_true rfl) rfl
            · exact s1 rfl (fun cx => (cx.anc 12 rfl)) fun cx => run_eqTID rfl (cx.anc 14 rfl) (cx.anc 16 rfl)
            · exact s0 rfl fun cx => run_pick_t rfl (cx.anc 12 rfl) (Eq.trans (cx.anc 17 rfl) (congrArg Value.bool hs7))
            · exact s0 rfl fun cx => run_move' rfl (cx.anc 18 rfl)
            · exact s1 rfl (fun cx => (cx.anc 19 rfl)) fun cx => run_fieldAddr' (k := 4) (n := 4) rfl (by kernel_rfl) (cx.out 2 rfl) rfl
            · exact s1 rfl (fun cx => (cx.anc 19 rfl)) fun cx => run_load1 rfl (by kernel_rfl) (cx.anc 20 rfl) ((cx.blk (cx.init 0 _ rfl) rfl).cell 4)
            · exact s1 rfl (fun cx => (cx.anc 19 rfl)) fun cx => run_fieldAddr' (k := 4) (n := 4) rfl (by kernel_rfl) (cx.out 3 rfl) rfl
            · exact s1 rfl (fun cx => (cx.anc 19 rfl)) fun cx => run_load1 rfl (by kernel_rfl) (cx.anc 22 rfl) ((cx.blk (cx.init 1 _ rfl) rfl).cell 4)
            · exact sv0_on rfl rfl rfl rfl rfl rfl (fun _ _ _ h => h) (fun _ _ _ _ cx => (cx.anc 19 rfl)) fun ρ β W X cx => by
                have fF26 : ρ (.tmp 26) = .bool ho := (cx.anc 21 rfl)
                have fF28 : ρ (.tmp 28) = .bool (ho') := (cx.anc 23 rfl)
                simp [go_sem, cx.sees.const, fF26, fF28]
            · exact s0 rfl fun cx => run_pick_t rfl (cx.anc 19 rfl) (Eq.trans (cx.anc 24 rfl) (congrArg Value.bool hs9))
            · exact s0 rfl fun cx => run_move' rfl (cx.anc 25 rfl)
            · exact s1 rfl (fun cx => (cx.anc 26 rfl)) fun cx => run_fieldAddr' (k := 5) (n := 5) rfl (by kernel_rfl) (cx.out 2 rfl) rfl
            · exact s1 rfl (fun cx => (cx.anc 26 rfl)) fun cx => run_load1 rfl (by kernel_rfl) (cx.anc 27 rfl) ((cx.blk (cx.init 0 _ rfl) rfl).cell 5)
            · exact s1 rfl (fun cx => (cx.anc 26 rfl)) fun cx => run_fieldAddr' (k := 5) (n := 5) rfl (by kernel_rfl) (cx.out 3 rfl) rfl
            · exact s1 rfl (fun cx => (cx.anc 26 rfl)) fun cx => run_load1 rfl (by kernel_rfl) (cx.anc 29 rfl) ((cx.blk (cx.init 1 _ rfl) rfl).cell 5)
            · exact sv_call_on rfl rfl rfl rfl rfl rfl (fun _ _ _ h => h) (fun _ _ _ _ cx => (cx.anc 26 rfl)) fun ρ β W X cx => ⟨_, _, run_callF (args := #[.slice RA rs.length rc, .slice RB ts.length tc]) rfl cx.sees rfl (by kernel_rfl) (map2 (cx.anc 28 rfl) (cx.anc 30 rfl)), rsame_any _ _ rs _ _ ts _ (hA.ext cx.upd.to_ext) (hB.ext cx.upd.to_ext) hl hl2⟩
            · exact s0 rfl fun cx => run_pick_t rfl (cx.anc 26 rfl) (cx.anc 31 rfl)
            · exact s0 rfl fun cx => run_assign' rfl (cx.anc 32 rfl)
          intro σ β X W10 hD hX hst10 fr hfr
          simp only [zM, exq 0 (hX 0 _ rfl), exq 1 (hX 1 _ rfl)] at hst10
          simp only [zP, ed 5 (hD 0 lq), ed 6 (hD 1 lq), ed 7 (hD 2 lq), ed 8 (hD 3 lq), ed 9 (hD 4 lq), ed 10 (hD 5 lq), ed 11 (hD 6 lq), ed 12 (hD 7 lq), ed 13 (hD 8 lq), ed 14 (hD 9 lq), ed 15 (hD 10 lq), ed 16 (hD 11 lq), ed 17 (hD 12 lq), ed 18 (hD 13 lq), ed 19 (hD 14 lq), ed 20 (hD 15 lq), ed 21 (hD 16 lq), ed 22 (hD 17 lq), ed 23 (hD 18 lq), ed 24 (hD 19 lq), ed 25 (hD 20 lq), ed 26 (hD 21 lq), ed 27 (hD 22 lq), ed 28 (hD 23 lq), ed 29 (hD 24 lq), ed 30 (hD 25 lq), ed 31 (hD 26 lq), ed 32 (hD 27 lq), ed 33 (hD 28 lq), ed 34 (hD 29 lq), ed 35 (hD 30 lq), ed 36 (hD 31 lq), ed 37 (hD 32 lq), ed 4 (hD 33 lq)] at hfr
          clear hX hD; subst hfr; clear σ β X
          refine then_normal ?_
          refine wp_ret ?_
          refine bodyPost_ret (v := .bool (decide (rs = ts))) (by simp [results, Tryd.results19, go_sem]) rfl ?_
          exact Ret.bool (by simp_all [sameV]) hst10.ext
        have hs9p : ho ≠ (ho') := by simpa using hs9
        refine wp_region_X [0, 1, 0, 4, 15, 31, 63, 127, 63, 319, 1023, 2047, 4095, 8191, 16383, 8191, 40959, 131071, 262143, 524287, 1048575, 2097151, 1048575, 5242879, 16777215, 33554431, 67108863, 134217727, 268435455, 134217727, 671088639, 2147483647, 4294967295, 8589934591] [[], [0], [], [1], [], [], [], [0], [], [1], [], [], [], [], [0], [], [1], [], [], [], [], [0], [], [1]] [] [] (fun ix σ β X => match ix with | 0 => σ 5 = .pointer (some ⟨B2_1, 0, none⟩) | 1 => σ 6 = .int .i64 a | 2 => σ 7 = .pointer (some ⟨B3_1, 0, none⟩) | 3 => σ 8 = .int .i64 (a') | 4 => σ 9 = .bool (a == (a')) | 5 => σ 10 = .bool true | 6 => σ 11 = .pointer (some ⟨B2_1, 1, none⟩) | 7 => σ 12 = .int .i64 b | 8 => σ 13 = .pointer (some ⟨B3_1, 1, none⟩) | 9 => σ 14 = .int .i64 (b') | 10 => σ 15 = .bool (b == (b')) | 11 => σ 16 = .bool true | 12 => σ 17 = .bool true | 13 => σ 18 = .pointer (some ⟨B2_1, 2, none⟩) | 14 => σ 19 = .agg #[.int .i64 n1, .int .i64 n2] | 15 => σ 20 = .pointer (some ⟨B3_1, 2, none⟩) | 16 => σ 21 = .agg #[.int .i64 (n1'), .int .i64 (n2')] | 17 => σ 22 = .bool (n1 == n1' && n2 == n2') | 18 => σ 23 = .bool true | 19 => σ 24 = .bool true | 20 => σ 25 = .pointer (some ⟨B2_1, 4, none⟩) | 21 => σ 26 = .bool ho | 22 => σ 27 = .pointer (some ⟨B3_1, 4, none⟩) | 23 => σ 28 = .bool (ho') | 24 => σ 29 = .bool (ho == (ho')) | 25 => σ 30 = .bool false | 26 => σ 31 = .bool false | 27 => σ 32 = undef | 28 => σ 33 = undef | 29 => σ 34 = undef | 30 => σ 35 = undef | 31 => σ 36 = undef | 32 => σ 37 = .bool false | 33 => σ 4 = .bool false | _ => True) [0, 1] [5, 6, 7, 8, 9, 10, 11, 12, 13, 14, 15, 16, 17, 18, 19, 20, 21, 22, 23, 24, 25, 26, 27, 28, 29, 30, 31, 32, 33, 34, 35, 36, 37, 4] hst1 ?_ ?_ ?_
        · exact fun ix _ _ _ _ _ _ hs hb hx h => match ix, h with
          | 0, h | 1, h | 2, h | 3, h | 4, h | 5, h | 6, h | 7, h | 8, h | 9, h | 10, h | 11, h | 12, h | 13, h | 14, h | 15, h | 16, h | 17, h | 18, h | 19, h | 20, h | 21, h | 22, h | 23, h | 24, h | 25, h | 26, h | 27, h | 28, h | 29, h | 30, h | 31, h | 32, h | 33, h => (hs _ rfl).symm.trans h
          | _ + 34, _ => trivial
        · refine ⟨⟨⟨⟨⟨⟨⟨⟨⟨⟨⟨⟨⟨⟨⟨⟨⟨⟨⟨⟨⟨⟨⟨⟨⟨⟨⟨⟨⟨⟨⟨⟨⟨⟨trivial, ?_⟩, ?_⟩, ?_⟩, ?_⟩, ?_⟩, ?_⟩, ?_⟩, ?_⟩, ?_⟩, ?_⟩, ?_⟩, ?_⟩, ?_⟩, ?_⟩, ?_⟩, ?_⟩, ?_⟩, ?_⟩, ?_⟩, ?_⟩, ?_⟩, ?_⟩, ?_⟩, ?_⟩, ?_⟩, ?_⟩, ?_⟩, ?_⟩, ?_⟩, ?_⟩, ?_⟩, ?_⟩, ?_⟩, ?_⟩
          · exact s0 rfl fun cx => run_fieldAddr' (k := 0) (n := 0) rfl (by kernel_rfl) (cx.out 2 rfl) rfl
          · exact s0 rfl fun cx => run_load1 rfl (by kernel_rfl) (cx.anc 0 rfl) ((cx.blk (cx.init 0 _ rfl) rfl).cell 0)
          · exact s0 rfl fun cx => run_fieldAddr' (k := 0) (n := 0) rfl (by kernel_rfl) (cx.out 3 rfl) rfl
          · exact s0 rfl fun cx => run_load1 rfl (by kernel_rfl) (cx.anc 2 rfl) ((cx.blk (cx.init 1 _ rfl) rfl).cell 0)
          · exact s0 rfl fun cx => run_bin rfl (cx.anc 1 rfl) (cx.anc 3 rfl) rfl
          · exact s0 rfl fun cx => run_move' rfl (Eq.trans (cx.anc 4 rfl) (congrArg Value.bool hs3))
          · exact s1 rfl (fun cx => (cx.anc 5 rfl)) fun cx => run_fieldAddr' (k := 1) (n := 1) rfl (by kernel_rfl) (cx.out 2 rfl) rfl
          · exact s1 rfl (fun cx => (cx.anc 5 rfl)) fun cx => run_load1 rfl (by kernel_rfl) (cx.anc 6 rfl) ((cx.blk (cx.init 0 _ rfl) rfl).cell 1)
          · exact s1 rfl (fun cx => (cx.anc 5 rfl)) fun cx => run_fieldAddr' (k := 1) (n := 1) rfl (by kernel_rfl) (cx.out 3 rfl) rfl
          · exact s1 rfl (fun cx => (cx.anc 5 rfl)) fun cx => run_load1 rfl (by kernel_rfl) (cx.anc 8 rfl) ((cx.blk (cx.init 1 _ rfl) rfl).cell 1)
          · exact s1 rfl (fun cx => (cx.anc 5 rfl)) fun cx => run_bin rfl (cx.anc 7 rfl) (cx.anc 9 rfl) rfl
          · exact s0 rfl fun cx => run_pick_t rfl (cx.anc 5 rfl) (Eq.trans (cx.anc 10 rfl) (congrArg Value.bool hs5))
          · exact s0 rfl fun cx => run_move' rfl (cx.anc 11 rfl)
          · exact s1 rfl (fun cx => (cx.anc 12 rfl)) fun cx => run_fieldAddr' (k := 2) (n := 2) rfl (by kernel_rfl) (cx.out 2 rfl) rfl
          · exact s1 rfl (fun cx => (cx.anc 12 rfl)) fun cx => run_loadB (n := 2) rfl (by kernel_rfl) (by kernel_rfl) (cx.anc 13 rfl) (cx.blk (cx.init 0 _ rfl) rfl) (Nat.le_of_ble_eq_true rfl) rfl
          · exact s1 rfl (fun cx => (cx.anc 12 rfl)) fun cx => run_fieldAddr' (k := 2) (n := 2) rfl (by kernel_rfl) (cx.out 3 rfl) rfl
          · exact s1 rfl (fun cx => (cx.anc 12 rfl)) fun cx => run_loadB (n := 2) rfl (by kernel_rfl) (by kernel_rfl) (cx.anc 15 rfl) (cx.blk (cx.init 1 _ rfl) rfl) (Nat.le_of_ble_eq_true rfl) rfl
          · exact s1 rfl (fun cx => (cx.anc 12 rfl)) fun cx => run_eqTID rfl (cx.anc 14 rfl) (cx.anc 16 rfl)
          · exact s0 rfl fun cx => run_pick_t rfl (cx.anc 12 rfl) (Eq.trans (cx.anc 17 rfl) (congrArg Value.bool hs7))
          · exact s0 rfl fun cx => run_move' rfl (cx.anc 18 rfl)
          · exact s1 rfl (fun cx => (cx.anc 19 rfl)) fun cx => run_fieldAddr' (k := 4) (n := 4) rfl (by kernel_rfl) (cx.out 2 rfl) rfl
          · exact s1 rfl (fun cx => (cx.anc 19 rfl)) fun cx => run_load1 rfl (by kernel_rfl) (cx.anc 20 rfl) ((cx.blk (cx.init 0 _ rfl) rfl).cell 4)
          · exact s1 rfl (fun cx => (cx.anc 19 rfl)) fun cx => run_fieldAddr' (k := 4) (n := 4) rfl (by kernel_rfl) (cx.out 3 rfl) rfl
          · exact s1 rfl (fun cx => (cx.anc 19 rfl)) fun cx => run_load1 rfl (by kernel_rfl) (cx.anc 22 rfl) ((cx.blk (cx.init 1 _ rfl) rfl).cell 4)
          · exact sv0_on rfl rfl rfl rfl rfl rfl (fun _ _ _ h => h) (fun _ _ _ _ cx => (cx.anc 19 rfl)) fun ρ β W X cx => by
              have fF26 : ρ (.tmp 26) = .bool ho := (cx.anc 21 rfl)
              have fF28 : ρ (.tmp 28) = .bool (ho') := (cx.anc 23 rfl)
              simp [go_sem, cx.sees.const, fF26, fF28]
          · exact s0 rfl fun cx => run_pick_t rfl (cx.anc 19 rfl) (Eq.trans (cx.anc 24 rfl) (congrArg Value.bool hs9))
          · exact s0 rfl fun cx => run_move' rfl (cx.anc 25 rfl)
          · exact s2 rfl fun cx => (cx.anc 26 rfl)
          · exact s2 rfl fun cx => (cx.anc 26 rfl)
          · exact s2 rfl fun cx => (cx.anc 26 rfl)
          · exact s2 rfl fun cx => (cx.anc 26 rfl)
          · exact s2 rfl fun cx => (cx.anc 26 rfl)
          · exact s0 rfl fun cx => run_pick_f rfl (cx.anc 26 rfl) (cx.sees.const _)
          · exact s0 rfl fun cx => run_assign' rfl (cx.anc 32 rfl)
        intro σ β X W11 hD hX hst11 fr hfr
        simp only [zM, exq 0 (hX 0 _ rfl), exq 1 (hX 1 _ rfl)] at hst11
        simp only [zP, ed 5 (hD 0 lq), ed 6 (hD 1 lq), ed 7 (hD 2 lq), ed 8 (hD 3 lq), ed 9 (hD 4 lq), ed 10 (hD 5 lq), ed 11 (hD 6 lq), ed 12 (hD 7 lq), ed 13 (hD 8 lq), ed 14 (hD 9 lq), ed 15 (hD 10 lq), ed 16 (hD 11 lq), ed 17 (hD 12 lq), ed 18 (hD 13 lq), ed 19 (hD 14 lq), ed 20 (hD 15 lq), ed 21 (hD 16 lq), ed 22 (hD 17 lq), ed 23 (hD 18 lq), ed 24 (hD 19 lq), ed 25 (hD 20 lq), ed 26 (hD 21 lq), ed 27 (hD 22 lq), ed 28 (hD 23 lq), ed 29 (hD 24 lq), ed 30 (hD 25 lq), ed 31 (hD 26 lq), ed 32 (hD 27 lq), ed 33 (hD 28 lq), ed 34 (hD 29 lq), ed 35 (hD 30 lq), ed 36 (hD 31 lq), ed 37 (hD 32 lq), ed 4 (hD 33 lq)] at hfr
        clear hX hD; subst hfr; clear σ β X
        refine then_normal ?_
        refine wp_ret ?_
        refine bodyPost_ret (v := .bool false) (by simp [results, Tryd.results19, go_sem]) rfl ?_
        exact Ret.bool (by simp_all [sameV]) hst11.ext
      refine wp_region_X [0, 1, 0, 4, 15, 31, 63, 127, 63, 319, 1023, 2047, 4095, 8191, 16383, 8191, 40959, 131071, 262143, 524287, 1048575, 2097151, 1048575, 5242879, 16777215, 33554431, 67108863, 134217727, 268435455, 134217727, 671088639, 2147483647, 4294967295, 8589934591] [[], [0], [], [1], [], [], [], [0], [], [1], [], [], [], [], [0], [], [1]] [] [] (fun ix σ β X => match ix with | 0 => σ 5 = .pointer (some ⟨B2_1, 0, none⟩) | 1 => σ 6 = .int .i64 a | 2 => σ 7 = .pointer (some ⟨B3_1, 0, none⟩) | 3 => σ 8 = .int .i64 (a') | 4 => σ 9 = .bool (a == (a')) | 5 => σ 10 = .bool true | 6 => σ 11 = .pointer (some ⟨B2_1, 1, none⟩) | 7 => σ 12 = .int .i64 b | 8 => σ 13 = .pointer (some ⟨B3_1, 1, none⟩) | 9 => σ 14 = .int .i64 (b') | 10 => σ 15 = .bool (b == (b')) | 11 => σ 16 = .bool true | 12 => σ 17 = .bool true | 13 => σ 18 = .pointer (some ⟨B2_1, 2, none⟩) | 14 => σ 19 = .agg #[.int .i64 n1, .int .i64 n2] | 15 => σ 20 = .pointer (some ⟨B3_1, 2, none⟩) | 16 => σ 21 = .agg #[.int .i64 (n1'), .int .i64 (n2')] | 17 => σ 22 = .bool (n1 == n1' && n2 == n2') | 18 => σ 23 = .bool false | 19 => σ 24 = .bool false | 20 => σ 25 = undef | 21 => σ 26 = undef | 22 => σ 27 = undef | 23 => σ 28 = undef | 24 => σ 29 = undef | 25 => σ 30 = .bool false | 26 => σ 31 = .bool false | 27 => σ 32 = undef | 28 => σ 33 = undef | 29 => σ 34 = undef | 30 => σ 35 = undef | 31 => σ 36 = undef | 32 => σ 37 = .bool false | 33 => σ 4 = .bool false | _ => True) [0, 1] [5, 6, 7, 8, 9, 10, 11, 12, 13, 14, 15, 16, 17, 18, 19, 20, 21, 22, 23, 24, 25, 26, 27, 28, 29, 30, 31, 32, 33, 34, 35, 36, 37, 4] hst1 ?_ ?_ ?_
      · exact fun ix _ _ _ _ _ _ hs hb hx h => match ix, h with
        | 0, h | 1, h | 2, h | 3, h | 4, h | 5, h | 6, h | 7, h | 8, h | 9, h | 10, h | 11, h | 12, h | 13, h | 14, h | 15, h | 16, h | 17, h | 18, h | 19, h | 20, h | 21, h | 22, h | 23, h | 24, h | 25, h | 26, h | 27, h | 28, h | 29, h | 30, h | 31, h | 32, h | 33, h => (hs _ rfl).symm.trans h
        | _ + 34, _ => trivial
      · refine ⟨⟨⟨⟨⟨⟨⟨⟨⟨⟨⟨⟨⟨⟨⟨⟨⟨⟨⟨⟨⟨⟨⟨⟨⟨⟨⟨⟨⟨⟨⟨⟨⟨⟨trivial, ?_⟩, ?_⟩, ?_⟩, ?_⟩, ?_⟩, ?_⟩, ?_⟩, ?_⟩, ?_⟩, ?_⟩, ?_⟩, ?_⟩, ?_⟩, ?_⟩, ?_⟩, ?_⟩, ?_⟩, ?_⟩, ?_⟩, ?_⟩, ?_⟩, ?_⟩, ?_⟩, ?_⟩, ?_⟩, ?_⟩, ?_⟩, ?_⟩, ?_⟩, ?_⟩, ?_⟩, ?_⟩, ?_⟩, ?_⟩
        · exact s0 rfl fun cx => run_fieldAddr' (k := 0) (n := 0) rfl (by kernel_rfl) (cx.out 2 rfl) rfl
        · exact s0 rfl fun cx => run_load1 rfl (by kernel_rfl) (cx.anc 0 rfl) ((cx.blk (cx.init 0 _ rfl) rfl).cell 0)
        · exact s0 rfl fun cx => run_fieldAddr' (k := 0) (n := 0) rfl (by kernel_rfl) (cx.out 3 rfl) rfl
        · exact s0 rfl fun cx => run_load1 rfl (by kernel_rfl) (cx.anc 2 rfl) ((cx.blk (cx.init 1 _ rfl) rfl).cell 0)
        · exact s0 rfl fun cx => run_bin rfl (cx.anc 1 rfl) (cx.anc 3 rfl) rfl
        · exact s0 rfl fun cx => run_move' rfl (Eq.trans (cx.anc 4 rfl) (congrArg Value.bool hs3))
        · exact s1 rfl (fun cx => (cx.anc 5 rfl)) fun cx => run_fieldAddr' (k := 1) (n := 1) rfl (by kernel_rfl) (cx.out 2 rfl) rfl
        · exact s1 rfl (fun cx => (cx.anc 5 rfl)) fun cx => run_load1 rfl (by kernel_rfl) (cx.anc 6 rfl) ((cx.blk (cx.init 0 _ rfl) rfl).cell 1)
        · exact s1 rfl (fun cx => (cx.anc 5 rfl)) fun cx => run_fieldAddr' (k := 1) (n := 1) rfl (by kernel_rfl) (cx.out 3 rfl) rfl
        · exact s1 rfl (fun cx => (cx.anc 5 rfl)) fun cx => run_load1 rfl (by kernel_rfl) (cx.anc 8 rfl) ((cx.blk (cx.init 1 _ rfl) rfl).cell 1)
        · exact s1 rfl (fun cx => (cx.anc 5 rfl)) fun cx => run_bin rfl (cx.anc 7 rfl) (cx.anc 9 rfl) rfl
        · exact s0 rfl fun cx => run_pick_t rfl (cx.anc 5 rfl) (Eq.trans (cx.anc 10 rfl) (congrArg Value.bool hs5))
        · exact s0 rfl fun cx => run_move' rfl (cx.anc 11 rfl)
        · exact s1 rfl (fun cx => (cx.anc 12 rfl)) fun cx => run_fieldAddr' (k := 2) (n := 2) rfl (by kernel_rfl) (cx.out 2 rfl) rfl
        · exact s1 rfl (fun cx => (cx.anc 12 rfl)) fun cx => run_loadB (n := 2) rfl (by kernel_rfl) (by kernel_rfl) (cx.anc 13 rfl) (cx.blk (cx.init 0 _ rfl) rfl) (Nat.le_of_ble_eq_true rfl) rfl
        · exact s1 rfl (fun cx => (cx.anc 12 rfl)) fun cx => run_fieldAddr' (k := 2) (n := 2) rfl (by kernel_rfl) (cx.out 3 rfl) rfl
        · exact s1 rfl (fun cx => (cx.anc 12 rfl)) fun cx => run_loadB (n := 2) rfl (by kernel_rfl) (by kernel_rfl) (cx.anc 15 rfl) (cx.blk (cx.init 1 _ rfl) rfl) (Nat.le_of_ble_eq_true rfl) rfl
        · exact s1 rfl (fun cx => (cx.anc 12 rfl)) fun cx => run_eqTID rfl (cx.anc 14 rfl) (cx.anc 16 rfl)
        · exact s0 rfl fun cx => run_pick_t rfl (cx.anc 12 rfl) (Eq.trans (cx.anc 17 rfl) (congrArg Value.bool hs7))
        · exact s0 rfl fun cx => run_move' rfl (cx.anc 18 rfl)
        · exact s2 rfl fun cx => (cx.anc 19 rfl)
        · exact s2 rfl fun cx => (cx.anc 19 rfl)
        · exact s2 rfl fun cx => (cx.anc 19 rfl)
        · exact s2 rfl fun cx => (cx.anc 19 rfl)
        · exact s2 rfl fun cx => (cx.anc 19 rfl)
        · exact s0 rfl fun cx => run_pick_f rfl (cx.anc 19 rfl) (cx.sees.const _)
        · exact s0 rfl fun cx => run_move' rfl (cx.anc 25 rfl)
        · exact s2 rfl fun cx => (cx.anc 26 rfl)
        · exact s2 rfl fun cx => (cx.anc 26 rfl)
        · exact s2 rfl fun cx => (cx.anc 26 rfl)
        · exact s2 rfl fun cx => (cx.anc 26 rfl)
        · exact s2 rfl fun cx => (cx.anc 26 rfl)
        · exact s0 rfl fun cx => run_pick_f rfl (cx.anc 26 rfl) (cx.sees.const _)
        · exact s0 rfl fun cx => run_assign' rfl (cx.anc 32 rfl)
      intro σ β X W12 hD hX hst12 fr hfr
      simp only [zM, exq 0 (hX 0 _ rfl), exq 1 (hX 1 _ rfl)] at hst12
      simp only [zP, ed 5 (hD 0 lq), ed 6 (hD 1 lq), ed 7 (hD 2 lq), ed 8 (hD 3 lq), ed 9 (hD 4 lq), ed 10 (hD 5 lq), ed 11 (hD 6 lq), ed 12 (hD 7 lq), ed 13 (hD 8 lq), ed 14 (hD 9 lq), ed 15 (hD 10 lq), ed 16 (hD 11 lq), ed 17 (hD 12 lq), ed 18 (hD 13 lq), ed 19 (hD 14 lq), ed 20 (hD 15 lq), ed 21 (hD 16 lq), ed 22 (hD 17 lq), ed 23 (hD 18 lq), ed 24 (hD 19 lq), ed 25 (hD 20 lq), ed 26 (hD 21 lq), ed 27 (hD 22 lq), ed 28 (hD 23 lq), ed 29 (hD 24 lq), ed 30 (hD 25 lq), ed 31 (hD 26 lq), ed 32 (hD 27 lq), ed 33 (hD 28 lq), ed 34 (hD 29 lq), ed 35 (hD 30 lq), ed 36 (hD 31 lq), ed 37 (hD 32 lq), ed 4 (hD 33 lq)] at hfr
      clear hX hD; subst hfr; clear σ β X
      refine then_normal ?_
      refine wp_ret ?_
      refine bodyPost_ret (v := .bool false) (by simp [results, Tryd.results19, go_sem]) rfl ?_
      exact Ret.bool (by simp_all [sameV]) hst12.ext
    have hs5p : b ≠ (b') := by simpa using hs5
    refine wp_region_X [0, 1, 0, 4, 15, 31, 63, 127, 63, 319, 1023, 2047, 4095, 8191, 16383, 8191, 40959, 131071, 262143, 524287, 1048575, 2097151, 1048575, 5242879, 16777215, 33554431, 67108863, 134217727, 268435455, 134217727, 671088639, 2147483647, 4294967295, 8589934591] [[], [0], [], [1], [], [], [], [0], [], [1]] [] [] (fun ix σ β X => match ix with | 0 => σ 5 = .pointer (some ⟨B2_1, 0, none⟩) | 1 => σ 6 = .int .i64 a | 2 => σ 7 = .pointer (some ⟨B3_1, 0, none⟩) | 3 => σ 8 = .int .i64 (a') | 4 => σ 9 = .bool (a == (a')) | 5 => σ 10 = .bool true | 6 => σ 11 = .pointer (some ⟨B2_1, 1, none⟩) | 7 => σ 12 = .int .i64 b | 8 => σ 13 = .pointer (some ⟨B3_1, 1, none⟩) | 9 => σ 14 = .int .i64 (b') | 10 => σ 15 = .bool (b == (b')) | 11 => σ 16 = .bool false | 12 => σ 17 = .bool false | 13 => σ 18 = undef | 14 => σ 19 = undef | 15 => σ 20 = undef | 16 => σ 21 = undef | 17 => σ 22 = undef | 18 => σ 23 = .bool false | 19 => σ 24 = .bool false | 20 => σ 25 = undef | 21 => σ 26 = undef | 22 => σ 27 = undef | 23 => σ 28 = undef | 24 => σ 29 = undef | 25 => σ 30 = .bool false | 26 => σ 31 = .bool false | 27 => σ 32 = undef | 28 => σ 33 = undef | 29 => σ 34 = undef | 30 => σ 35 = undef | 31 => σ 36 = undef | 32 => σ 37 = .bool false | 33 => σ 4 = .bool false | _ => True) [0, 1] [5, 6, 7, 8, 9, 10, 11, 12, 13, 14, 15, 16, 17, 18, 19, 20, 21, 22, 23, 24, 25, 26, 27, 28, 29, 30, 31, 32, 33, 34, 35, 36, 37, 4] hst1 ?_ ?_ ?_
    · exact fun ix _ _ _ _ _ _ hs hb hx h => match ix, h with
      | 0, h | 1, h | 2, h | 3, h | 4, h | 5, h | 6, h | 7, h | 8, h | 9, h | 10, h | 11, h | 12, h | 13, h | 14, h | 15, h | 16, h | 17, h | 18, h | 19, h | 20, h | 21, h | 22, h | 23, h | 24, h | 25, h | 26, h | 27, h | 28, h | 29, h | 30, h | 31, h | 32, h | 33, h => (hs _ rfl).symm.trans h
      | _ + 34, _ => trivial
    · refine ⟨⟨⟨⟨⟨⟨⟨⟨⟨⟨⟨⟨⟨⟨⟨⟨⟨⟨⟨⟨⟨⟨⟨⟨⟨⟨⟨⟨⟨⟨⟨⟨⟨⟨trivial, ?_⟩, ?_⟩, ?_⟩, ?_⟩, ?_⟩, ?_⟩, ?_⟩, ?_⟩, ?_⟩, ?_⟩, ?_⟩, ?_⟩, ?_⟩, ?_⟩, ?_⟩, ?_⟩, ?_⟩, ?_⟩, ?_⟩, ?_⟩, ?_⟩, ?_⟩, ?_⟩, ?_⟩, ?_⟩, ?_⟩, ?_⟩, ?_⟩, ?_⟩, ?_⟩, ?_⟩, ?_⟩, ?_⟩, ?_⟩
      · exact s0 rfl fun cx => run_fieldAddr' (k := 0) (n := 0) rfl (by kernel_rfl) (cx.out 2 rfl) rfl
      · exact s0 rfl fun cx => run_load1 rfl (by kernel_rfl) (cx.anc 0 rfl) ((cx.blk (cx.init 0 _ rfl) rfl).cell 0)
      · exact s0 rfl fun cx => run_fieldAddr' (k := 0) (n := 0) rfl (by kernel_rfl) (cx.out 3 rfl) rfl
      · exact s0 rfl fun cx => run_load1 rfl (by kernel_rfl) (cx.anc 2 rfl) ((cx.blk (cx.init 1 _ rfl) rfl).cell 0)
      · exact s0 rfl fun cx => run_bin rfl (cx.anc 1 rfl) (cx.anc 3 rfl) rfl
      · exact s0 rfl fun cx => run_move' rfl (Eq.trans (cx.anc 4 rfl) (congrArg Value.bool hs3))
      · exact s1 rfl (fun cx => (cx.anc 5 rfl)) fun cx => run_fieldAddr' (k := 1) (n := 1) rfl (by kernel_rfl) (cx.out 2 rfl) rfl
      · exact s1 rfl (fun cx => (cx.anc 5 rfl)) fun cx => run_load1 rfl (by kernel_rfl) (cx.anc 6 rfl) ((cx.blk (cx.init 0 _ rfl) rfl).cell 1)
      · exact s1 rfl (fun cx => (cx.anc 5 rfl)) fun cx => run_fieldAddr' (k := 1) (n := 1) rfl (by kernel_rfl) (cx.out 3 rfl) rfl
      · exact s1 rfl (fun cx => (cx.anc 5 rfl)) fun cx => run_load1 rfl (by kernel_rfl) (cx.anc 8 rfl) ((cx.blk (cx.init 1 _ rfl) rfl).cell 1)
      · exact s1 rfl (fun cx => (cx.anc 5 rfl)) fun cx => run_bin rfl (cx.anc 7 rfl) (cx.anc 9 rfl) rfl
      · exact s0 rfl fun cx => run_pick_t rfl (cx.anc 5 rfl) (Eq.trans (cx.anc 10 rfl) (congrArg Value.bool hs5))
      · exact s0 rfl fun cx => run_move' rfl (cx.anc 11 rfl)
      · exact s2 rfl fun cx => (cx.anc 12 rfl)
      · exact s2 rfl fun cx => (cx.anc 12 rfl)
      · exact s2 rfl fun cx => (cx.anc 12 rfl)
      · exact s2 rfl fun cx => (cx.anc 12 rfl)
      · exact s2 rfl fun cx => (cx.anc 12 rfl)
      · exact s0 rfl fun cx => run_pick_f rfl (cx.anc 12 rfl) (cx.sees.const _)
      · exact s0 rfl fun cx => run_move' rfl (cx.anc 18 rfl)
      · exact s2 rfl fun cx => (cx.anc 19 rfl)
      · exact s2 rfl fun cx => (cx.anc 19 rfl)
      · exact s2 rfl fun cx => (cx.anc 19 rfl)
      · exact s2 rfl fun cx => (cx.anc 19 rfl)
      · exact s2 rfl fun cx => (cx.anc 19 rfl)
      · exact s0 rfl fun cx => run_pick_f rfl (cx.anc 19 rfl) (cx.sees.const _)
      · exact s0 rfl fun cx => run_move' rfl (cx.anc 25 rfl)
      · exact s2 rfl fun cx => (cx.anc 26 rfl)
      · exact s2 rfl fun cx => (cx.anc 26 rfl)
      · exact s2 rfl fun cx => (cx.anc 26 rfl)
      · exact s2 rfl fun cx => (cx.anc 26 rfl)
      · exact s2 rfl fun cx => (cx.anc 26 rfl)
      · exact s0 rfl fun cx => run_pick_f rfl (cx.anc 26 rfl) (cx.sees.const _)
      · exact s0 rfl fun cx => run_assign' rfl (cx.anc 32 rfl)
    intro σ β X W13 hD hX hst13 fr hfr
    simp only [zM, exq 0 (hX 0 _ rfl), exq 1 (hX 1 _ rfl)] at hst13
    simp only [zP, ed 5 (hD 0 lq), ed 6 (hD 1 lq), ed 7 (hD 2 lq), ed 8 (hD 3 lq), ed 9 (hD 4 lq), ed 10 (hD 5 lq), ed 11 (hD 6 lq), ed 12 (hD 7 lq), ed 13 (hD 8 lq), ed 14 (hD 9 lq), ed 15 (hD 10 lq), ed 16 (hD 11 lq), ed 17 (hD 12 lq), ed 18 (hD 13 lq), ed 19 (hD 14 lq), ed 20 (hD 15 lq), ed 21 (hD 16 lq), ed 22 (hD 17 lq), ed 23 (hD 18 lq), ed 24 (hD 19 lq), ed 25 (hD 20 lq), ed 26 (hD 21 lq), ed 27 (hD 22 lq), ed 28 (hD 23 lq), ed 29 (hD 24 lq), ed 30 (hD 25 lq), ed 31 (hD 26 lq), ed 32 (hD 27 lq), ed 33 (hD 28 lq), ed 34 (hD 29 lq), ed 35 (hD 30 lq), ed 36 (hD 31 lq), ed 37 (hD 32 lq), ed 4 (hD 33 lq)] at hfr
    clear hX hD; subst hfr; clear σ β X
    refine then_normal ?_
    refine wp_ret ?_
    refine bodyPost_ret (v := .bool false) (by simp [results, Tryd.results19, go_sem]) rfl ?_
    exact Ret.bool (by simp_all [sameV]) hst13.ext
  have hs3p : a ≠ (a') := by simpa using hs3
  refine wp_region_X [0, 1, 0, 4, 15, 31, 63, 127, 63, 319, 1023, 2047, 4095, 8191, 16383, 8191, 40959, 131071, 262143, 524287, 1048575, 2097151, 1048575, 5242879, 16777215, 33554431, 67108863, 134217727, 268435455, 134217727, 671088639, 2147483647, 4294967295, 8589934591] [[], [0], [], [1]] [] [] (fun ix σ β X => match ix with | 0 => σ 5 = .pointer (some ⟨B2_1, 0, none⟩) | 1 => σ 6 = .int .i64 a | 2 => σ 7 = .pointer (some ⟨B3_1, 0, none⟩) | 3 => σ 8 = .int .i64 (a') | 4 => σ 9 = .bool (a == (a')) | 5 => σ 10 = .bool false | 6 => σ 11 = undef | 7 => σ 12 = undef | 8 => σ 13 = undef | 9 => σ 14 = undef | 10 => σ 15 = undef | 11 => σ 16 = .bool false | 12 => σ 17 = .bool false | 13 => σ 18 = undef | 14 => σ 19 = undef | 15 => σ 20 = undef | 16 => σ 21 = undef | 17 => σ 22 = undef | 18 => σ 23 = .bool false | 19 => σ 24 = .bool false | 20 => σ 25 = undef | 21 => σ 26 = undef | 22 => σ 27 = undef | 23 => σ 28 = undef | 24 => σ 29 = undef | 25 => σ 30 = .bool false | 26 => σ 31 = .bool false | 27 => σ 32 = undef | 28 => σ 33 = undef | 29 => σ 34 = undef | 30 => σ 35 = undef | 31 => σ 36 = undef | 32 => σ 37 = .bool false | 33 => σ 4 = .bool false | _ => True) [0, 1] [5, 6, 7, 8, 9, 10, 11, 12, 13, 14, 15, 16, 17, 18, 19, 20, 21, 22, 23, 24, 25, 26, 27, 28, 29, 30, 31, 32, 33, 34, 35, 36, 37, 4] hst1 ?_ ?_ ?_
  · exact fun ix _ _ _ _ _ _ hs hb hx h => match ix, h with
    | 0, h | 1, h | 2, h | 3, h | 4, h | 5, h | 6, h | 7, h | 8, h | 9, h | 10, h | 11, h | 12, h | 13, h | 14, h | 15, h | 16, h | 17, h | 18, h | 19, h | 20, h | 21, h | 22, h | 23, h | 24, h | 25, h | 26, h | 27, h | 28, h | 29, h | 30, h | 31, h | 32, h | 33, h => (hs _ rfl).symm.trans h
    | _ + 34, _ => trivial
  · refine ⟨⟨⟨⟨⟨⟨⟨⟨⟨⟨⟨⟨⟨⟨⟨⟨⟨⟨⟨⟨⟨⟨⟨⟨⟨⟨⟨⟨⟨⟨⟨⟨⟨⟨trivial, ?_⟩, ?_⟩, ?_⟩, ?_⟩, ?_⟩, ?_⟩, ?_⟩, ?_⟩, ?_⟩, ?_⟩, ?_⟩, ?_⟩, ?_⟩, ?_⟩, ?_⟩, ?_⟩, ?_⟩, ?_⟩, ?_⟩, ?_⟩, ?_⟩, ?_⟩, ?_⟩, ?_⟩, ?_⟩, ?_⟩, ?_⟩, ?_⟩, ?_⟩, ?_⟩, ?_⟩, ?_⟩, ?_⟩, ?_⟩
    · exact s0 rfl fun cx => run_fieldAddr' (k := 0) (n := 0) rfl (by kernel_rfl) (cx.out 2 rfl) rfl
    · exact s0 rfl fun cx => run_load1 rfl (by kernel_rfl) (cx.anc 0 rfl) ((cx.blk (cx.init 0 _ rfl) rfl).cell 0)
    · exact s0 rfl fun cx => run_fieldAddr' (k := 0) (n := 0) rfl (by kernel_rfl) (cx.out 3 rfl) rfl
    · exact s0 rfl fun cx => run_load1 rfl (by kernel_rfl) (cx.anc 2 rfl) ((cx.blk (cx.init 1 _ rfl) rfl).cell 0)
    · exact s0 rfl fun cx => run_bin rfl (cx.anc 1 rfl) (cx.anc 3 rfl) rfl
    · exact s0 rfl fun cx => run_move' rfl (Eq.trans (cx.anc 4 rfl) (congrArg Value.bool hs3))
    · exact s2 rfl fun cx => (cx.anc 5 rfl)
    · exact s2 rfl fun cx => (cx.anc 5 rfl)
    · exact s2 rfl fun cx => (cx.anc 5 rfl)
    · exact s2 rfl fun cx => (cx.anc 5 rfl)
    · exact s2 rfl fun cx => (cx.anc 5 rfl)
    · exact s0 rfl fun cx => run_pick_f rfl (cx.anc 5 rfl) (cx.sees.const _)
    · exact s0 rfl fun cx => run_move' rfl (cx.anc 11 rfl)
    · exact s2 rfl fun cx => (cx.anc 12 rfl)
    · exact s2 rfl fun cx => (cx.anc 12 rfl)
    · exact s2 rfl fun cx => (cx.anc 12 rfl)
    · exact s2 rfl fun cx => (cx.anc 12 rfl)
    · exact s2 rfl fun cx => (cx.anc 12 rfl)
    · exact s0 rfl fun cx => run_pick_f rfl (cx.anc 12 rfl) (cx.sees.const _)
    · exact s0 rfl fun cx => run_move' rfl (cx.anc 18 rfl)
    · exact s2 rfl fun cx => (cx.anc 19 rfl)
    · exact s2 rfl fun cx => (cx.anc 19 rfl)
    · exact s2 rfl fun cx => (cx.anc 19 rfl)
    · exact s2 rfl fun cx => (cx.anc 19 rfl)
    · exact s2 rfl fun cx => (cx.anc 19 rfl)
    · exact s0 rfl fun cx => run_pick_f rfl (cx.anc 19 rfl) (cx.sees.const _)
    · exact s0 rfl fun cx => run_move' rfl (cx.anc 25 rfl)
    · exact s2 rfl fun cx => (cx.anc 26 rfl)
    · exact s2 rfl fun cx => (cx.anc 26 rfl)
    · exact s2 rfl fun cx => (cx.anc 26 rfl)
    · exact s2 rfl fun cx => (cx.anc 26 rfl)
    · exact s2 rfl fun cx => (cx.anc 26 rfl)
    · exact s0 rfl fun cx => run_pick_f rfl (cx.anc 26 rfl) (cx.sees.const _)
    · exact s0 rfl fun cx => run_assign' rfl (cx.anc 32 rfl)
  intro σ β X W14 hD hX hst14 fr hfr
  simp only [zM, exq 0 (hX 0 _ rfl), exq 1 (hX 1 _ rfl)] at hst14
  simp only [zP, ed 5 (hD 0 lq), ed 6 (hD 1 lq), ed 7 (hD 2 lq), ed 8 (hD 3 lq), ed 9 (hD 4 lq), ed 10 (hD 5 lq), ed 11 (hD 6 lq), ed 12 (hD 7 lq), ed 13 (hD 8 lq), ed 14 (hD 9 lq), ed 15 (hD 10 lq), ed 16 (hD 11 lq), ed 17 (hD 12 lq), ed 18 (hD 13 lq), ed 19 (hD 14 lq), ed 20 (hD 15 lq), ed 21 (hD 16 lq), ed 22 (hD 17 lq), ed 23 (hD 18 lq), ed 24 (hD 19 lq), ed 25 (hD 20 lq), ed 26 (hD 21 lq), ed 27 (hD 22 lq), ed 28 (hD 23 lq), ed 29 (hD 24 lq), ed 30 (hD 25 lq), ed 31 (hD 26 lq), ed 32 (hD 27 lq), ed 33 (hD 28 lq), ed 34 (hD 29 lq), ed 35 (hD 30 lq), ed 36 (hD 31 lq), ed 37 (hD 32 lq), ed 4 (hD 33 lq)] at hfr
  clear hX hD; subst hfr; clear σ β X
  refine then_normal ?_
  refine wp_ret ?_
  refine bodyPost_ret (v := .bool false) (by simp [results, Tryd.results19, go_sem]) rfl ?_
  exact Ret.bool (by simp_all [sameV]) hst14.ext

end Go.Proofs.YtfjpglohcppjeaaDoor

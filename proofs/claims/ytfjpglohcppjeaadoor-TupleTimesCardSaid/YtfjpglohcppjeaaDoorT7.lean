/- octet.Text; equality of values, rows, versions. -/
import Derived.Test.YtfjpglohcppjeaaDoorT6
import Derived.Test.YtfjpglohcppjeaaDoorRd
import Derived.Laws.StructEq
namespace Go.Proofs.YtfjpglohcppjeaaDoor
open Go.RowKit
set_option linter.unusedVariables false
set_option linter.unusedSimpArgs false

theorem ex_all (s : ByteArray) : s.extract 0 s.size = s := by
  apply ByteArray.ext
  simp
def textO (s : ByteArray) : ByteArray := putS s.size 2 ++ s
def vd : Val := (0, 0, ByteArray.empty)
def eqV (u v : Val) : Bool := u.1 == v.1 && (u.2.1 == v.2.1 && u.2.2.toList == v.2.2.toList)
theorem str_eq {a b : ByteArray} (h : a.toList = b.toList) : a = b := by
  rw [ByteArray.toList_eq, ByteArray.toList_eq] at h
  apply ByteArray.ext
  exact Array.toList_inj.1 h
theorem eqV_iff {u v : Val} : eqV u v = true ↔ u = v := by
  unfold eqV
  simp only [Bool.and_eq_true, beq_iff_eq]
  exact ⟨fun ⟨h1, h2, h3⟩ => Prod.ext h1 (Prod.ext h2 (str_eq h3)), fun h => by subst h; simp⟩
theorem flatR_get {rs : List Val} {m j : Nat} (hm : m < rs.length) (hj : j < 3) : (flatR rs)[m * 3 + j]? = (cellsV (rs.getD m vd))[j]? := by
  induction rs generalizing m with
  | nil => simp at hm
  | cons v l ih =>
    have e : flatR (v :: l) = cellsV v ++ flatR l := by simp [flatR]
    rw [e]
    rcases m with _ | m
    · rw [List.getElem?_append_left (by show 0 * 3 + j < 3; omega)]
      simp
    · rw [List.getElem?_append_right (by show 3 ≤ _; omega)]
      have h2 : (m + 1) * 3 + j - (cellsV v).length = m * 3 + j := by show (m + 1) * 3 + j - 3 = _; omega
      rw [h2, ih (by simpa using hm)]
      simp
section
variable {P : Program} {o : Oper} {ρ : Operand → Value} {W : World}
theorem run_indexSlN {x y : Operand} {t e : TypeId} {A : Option Addr} {n c m sz : Nat} {k : IntKind} {j : Int} {xs : List Value} (h : o.op = .indexAddr t x y) (ht : P.underlying t = some (.slice e)) (hz : szP P e = some sz) (h0 : 0 < sz) (hx : ρ x = .slice A n c) (hy : ρ y = .int k j)
    (hj : j = (m : Int)) (hm : m < n) (hA : At W A xs) (hl : xs.length = n * sz) : (execOp ρ o).run P W = .ok (.value (.pointer (some ((ad A).add (m * sz))))) W := by
  subst hj
  have hlt : 0 < xs.length := by rw [hl]; exact Nat.mul_pos (by omega) h0
  obtain ⟨a, rfl, _, _⟩ := hA.get (k := 0) hlt
  unfold execOp; rw [h]
  have h1 : (0 : Int) ≤ (m : Int) ∧ (m : Int) < (n : Int) := ⟨by omega, by omega⟩
  simp only [hx, hy, Instr.indexAt, asIntOf, Sem.run_bind, Sem.run_pure, Result.andThen_ok, run_underlying ht, h1, and_self, if_true, run_size hz]
  simp [ad]
theorem run_loadVal {t : TypeId} {x : Operand} {A : Option Addr} {rs : List Val} {m : Nat} (h : o.op = .load t x) (ht : aggP P t = some true) (hn : szP P t = some 3) (hx : ρ x = .pointer (some ((ad A).add (m * 3)))) (hA : At W A (flatR rs)) (hm : m < rs.length) :
    (execOp ρ o).run P W = .ok (.value (.agg #[.int .i64 (rs.getD m vd).1, .int .i64 (rs.getD m vd).2.1, .string (rs.getD m vd).2.2])) W := by
  have hc : ∀ j u, j < 3 → (cellsV (rs.getD m vd))[j]? = some u → W.cell? (((ad A).add (m * 3)).add j) = some u := fun j u hj hu => by
    rw [add_add']
    exact At.cellAd hA (by rw [flatR_get hm hj]; exact hu)
  have c0 := hc 0 _ (by omega) rfl
  have c1 := hc 1 _ (by omega) rfl
  have c2 := hc 2 _ (by omega) rfl
  unfold execOp; rw [h]
  simp only [hx, Instr.loadAt, Instr.sureAddr, loadVar, Sem.run_bind, Sem.run_pure, Result.andThen_ok, run_isAgg ht, if_true, run_size hn, loadCells, loadCellsFrom, load, Sem.run, c0, c1, c2]
  rfl
theorem run_eqTID {x y : Operand} {a b c d : Int} (h : o.op = .binOp .eql 23 x y 23) (hx : ρ x = .agg #[.int .i64 a, .int .i64 b]) (hy : ρ y = .agg #[.int .i64 c, .int .i64 d]) :
    (execOp ρ o).run Tryd.prog W = .ok (.value (.bool (a == c && b == d))) W := by
  unfold execOp; rw [h]
  simp [go_sem, hx, hy]
  by_cases h1 : a = c <;> by_cases h2 : b = d <;> simp [h1, h2]
theorem run_neqV {x y : Operand} {u v : Val} (h : o.op = .binOp .neq 103 x y 103) (hx : ρ x = .agg #[.int .i64 u.1, .int .i64 u.2.1, .string u.2.2]) (hy : ρ y = .agg #[.int .i64 v.1, .int .i64 v.2.1, .string v.2.2]) :
    (execOp ρ o).run Tryd.prog W = .ok (.value (.bool (!(eqV u v)))) W := by
  unfold execOp; rw [h]
  simp [go_sem, hx, hy, eqV]
  by_cases h1 : u.1 = v.1 <;> by_cases h2 : u.2.1 = v.2.1 <;> by_cases h3 : u.2.2.toList = v.2.2.toList <;> simp [h1, h2, h3]
theorem run_slice_all {P : Program} {t : TypeId} {x y : Operand} {s : ByteArray} {k : IntKind} {j : Int} (h : o.op = .slice t x none (some y) none) (ht : P.underlying t = some .string) (hx : ρ x = .string s) (hy : ρ y = .int k j) (hj : j = (s.size : Int)) :
    (execOp ρ o).run P W = .ok (.value (.string s)) W := by
  have e := run_slice_hi (P := P) (W := W) h ht hx hy hj (Nat.le_refl _)
  rw [ex_all] at e
  exact e
end
set_option maxRecDepth 100000 in
set_option maxHeartbeats 2000000 in
theorem otext_any (s : ByteArray) (w : World) (hs : s.size ≤ 65535) :
    Calls Tryd.prog 58 #[.string s] w (Ret (.string (textO s)) w) := by
  have hp := putS_size (s.size : Int) 2 (by omega)
  go_enter Tryd.func58, Tryd.ntmps58
  have hst0 := St.start w
  refine wp_seq ?_
  refine wp_region_P [0] [.k 2 (.string ⟨#[]⟩)] [(2, 0, 1, 3)] hst0 fun W1 hst1 => ?_
  refine then_normal ?_
  refine wp_seq ?_
  refine wp_region_T [0, 0, 2, 6, 15, 31] [] [] [] [.k 3 (.string s), .k 4 (.string s), .k 5 (.int .i64 ((s.size : Int))), .c 6 (.int .i64 ((s.size : Int))), .c 7 (.string s), .k 0 (.string s)] (fun _ _ _ _ => True) [] [3, 4] [(0, 5, 1, 1), (2, 0, 5, 7)] hst1 ?_ ?_ ?_
  · exact fun _ _ _ _ _ _ _ _ _ _ h => h
  · refine ⟨?_, ?_, trivial⟩
    · exact s4 rfl (fun _ _ _ h => h) fun cx => run_min2 rfl (cx.anc 2 rfl) (cx.sees.const _) (by omega)
    · exact s4 rfl (fun _ _ _ h => h) fun cx => run_slice_all rfl (by kernel_rfl) (cx.anc 0 rfl) (cx.anc 3 rfl) (by omega)
  intro σ β X W2 hD hX hst2 fr hfr
  simp only [zM] at hst2
  dsimp only [mgT, vals, List.take, List.drop, List.cons_append, List.nil_append] at hfr
  clear hX hD; subst hfr; clear σ β X
  refine then_normal ?_
  refine wp_seq ?_
  refine wp_region_T [0, 1, 3, 0, 15, 31] [] [] [] [.k 8 (.string s), .k 9 (.int .i64 ((s.size : Int))), .c 10 (.string (putS (s.size : Int) 2)), .k 11 (.string s), tS 12 (putS (s.size : Int) 2) s (by omega), .k 2 (.string ((putS (s.size : Int) 2) ++ s))] (fun _ _ _ _ => True) [] [2] [(2, 5, 1, 3), (5, 0, 5, 10)] hst2 ?_ ?_ ?_
  · exact fun _ _ _ _ _ _ _ _ _ _ h => h
  · refine ⟨?_, trivial⟩
    · exact sv_call rfl rfl rfl rfl rfl (fun _ _ _ h => h) fun ρ β W X cx => ⟨_, _, run_callF (args := #[.int .i64 ((s.size : Int)), .int .i64 2]) rfl cx.sees rfl (by kernel_rfl) (map2 (cx.anc 1 rfl) (cx.sees.const _)), oput2_any (s.size : Int) _⟩
  intro σ β X W3 hD hX hst3 fr hfr
  simp only [zM] at hst3
  dsimp only [mgT, vals, List.take, List.drop, List.cons_append, List.nil_append] at hfr
  clear hX hD; subst hfr; clear σ β X
  refine then_normal ?_
  refine wp_ret ?_
  refine bodyPost_ret (v := .string ((putS (s.size : Int) 2) ++ s)) (results_tmp Tryd.results58 rfl) rfl ?_
  exact Ret.of rfl hst3.ext

theorem take_eq {rs ts : List Val} {k : Nat} (h : rs.take k = ts.take k) (h1 : k < rs.length) (h2 : k < ts.length) (he : rs.getD k vd = ts.getD k vd) : rs.take (k + 1) = ts.take (k + 1) := by
  rw [List.take_succ_eq_append_getElem h1, List.take_succ_eq_append_getElem h2, h]
  have e1 : rs.getD k vd = rs[k] := by simp [h1]
  have e2 : ts.getD k vd = ts[k] := by simp [h2]
  rw [← e1, ← e2, he]

theorem row_ne {rs ts : List Val} {k : Nat} (h1 : k < rs.length) (he : ¬ rs.getD k vd = ts.getD k vd) : rs ≠ ts := fun h => he (by rw [h])

set_option maxRecDepth 100000 in
set_option maxHeartbeats 2000000 in
theorem rsame_any (RA : Option Addr) (rc : Nat) (rs : List Val) (RB : Option Addr) (tc : Nat) (ts : List Val) (w : World) (hA : At w RA (flatR rs)) (hB : At w RB (flatR ts)) (hl : rs.length ≤ 1000) (hl2 : ts.length ≤ 1000) :
    Calls Tryd.prog 62 #[.slice RA rs.length rc, .slice RB ts.length tc] w (Ret (.bool (decide (rs = ts))) w) := by
  go_enter Tryd.func62, Tryd.ntmps62
  have hst0 := St.start w
  refine wp_seq ?_
  refine wp_region_P [0] [.k 4 (.bool false)] [(4, 0, 1, 5)] hst0 fun W1 hst1 => ?_
  refine then_normal ?_
  refine wp_seq ?_
  refine wp_seq ?_
  refine wp_region_P [0, 1, 0, 4, 15] [.k 6 (.slice RA rs.length rc), .k 7 (.int .i64 ((rs.length : Int))), .k 8 (.slice RB ts.length tc), .k 9 (.int .i64 ((ts.length : Int))), .k 10 (.bool ((rs.length : Int) != (ts.length : Int)))] [(6, 0, 5, 11)] hst1 fun W2 hst2 => ?_
  refine then_normal ?_
  rcases Bool.eq_false_or_eq_true ((rs.length : Int) != (ts.length : Int)) with hs3 | hs3
  · skip
    have hs3p : (rs.length : Int) ≠ (ts.length : Int) := by simpa using hs3
    refine wp_cond_true (show Act.eval _ _ = .bool true from (congrArg Value.bool hs3)) ?_
    refine wp_seq ?_
    refine wp_region_P [0] [.k 4 (.bool false)] [(4, 0, 1, 5)] hst2 fun W4 hst4 => ?_
    refine then_normal ?_
    refine wp_ret ?_
    refine then_ret ?_
    refine bodyPost_ret (v := .bool false) (results_tmp Tryd.results62 rfl) rfl ?_
    exact Ret.bool (by rw [eq_comm, decide_eq_false_iff_not]; rintro rfl; simp_all) hst4.ext
  have hs3p : (rs.length : Int) = (ts.length : Int) := by simpa using hs3
  refine wp_cond_false (show Act.eval _ _ = .bool false from (congrArg Value.bool hs3)) ?_
  refine wp_skip ?_
  refine then_normal ?_
  refine wp_seq ?_
  refine wp_seq ?_
  refine wp_region_P [0] [.k 5 (.int .i64 0)] [(5, 0, 1, 6)] hst2 fun W5 hst5 => ?_
  refine then_normal ?_
  refine wp_block ?_
  refine wp_loopN (fun mz az W => ∃ k : Nat, ∃ u6_ : List Value, k ≤ rs.length ∧ rs.take k = ts.take k ∧ mz = rs.length - k ∧ az = ⟨#[.slice RA rs.length rc, .slice RB ts.length tc, undef, undef, (u6_.getD 0 undef), .int .i64 ((k : Int)), .slice RA rs.length rc, .int .i64 ((rs.length : Int)), .slice RB ts.length tc, .int .i64 ((ts.length : Int)), .bool ((rs.length : Int) != (ts.length : Int)), (u6_.getD 1 undef), (u6_.getD 2 undef), (u6_.getD 3 undef), (u6_.getD 4 undef), (u6_.getD 5 undef), (u6_.getD 6 undef), (u6_.getD 7 undef), (u6_.getD 8 undef), (u6_.getD 9 undef), (u6_.getD 10 undef), (u6_.getD 11 undef), (u6_.getD 12 undef), (u6_.getD 13 undef), (u6_.getD 14 undef), (u6_.getD 15 undef)], []⟩ ∧ St w [] [] W) (rs.length - 0) ?_ ?_
  · -- the loop begins
    have hp7 := hst5.pick [] (by decide) rfl
    exact ⟨0, [.bool false, undef, undef, undef, undef, undef, undef, undef, undef, undef, undef, undef, undef, undef, undef, undef], Nat.zero_le _, rfl, rfl, rfl, hp7⟩
  rintro n6 a6 W6 ⟨k, u6_, hk, hT, rfl, rfl, hst6⟩
  refine wp_seq ?_
  refine wp_seq ?_
  refine wp_region_P [0, 0, 2, 7] [.k 11 (.int .i64 ((k : Int))), .k 12 (.slice RA rs.length rc), .k 13 (.int .i64 ((rs.length : Int))), .k 14 (.bool (decide ((k : Int) < (rs.length : Int))))] [(11, 0, 4, 15)] hst6 fun W8 hst8 => ?_
  refine then_normal ?_
  rcases Bool.eq_false_or_eq_true (decide ((k : Int) < (rs.length : Int))) with hs9 | hs9
  · skip
    have hs9p : (k : Int) < (rs.length : Int) := by simpa using hs9
    refine wp_cond_true (show Act.eval _ _ = .bool true from (congrArg Value.bool hs9)) ?_
    refine wp_skip ?_
    refine then_normal ?_
    refine wp_seq ?_
    refine wp_block ?_
    refine wp_seq ?_
    refine wp_region_T [0, 0, 3, 7, 0, 0, 48, 112, 255] [] [] [] [.k 17 (.slice RA rs.length rc), .k 18 (.int .i64 ((k : Int))), .c 19 (.pointer (some ((ad RA).add (k * 3)))), .c 20 (.agg #[.int .i64 ((rs.getD k vd).1), .int .i64 ((rs.getD k vd).2.1), .string ((rs.getD k vd).2.2)]), .k 21 (.slice RB ts.length tc), .k 22 (.int .i64 ((k : Int))), .c 23 (.pointer (some ((ad RB).add (k * 3)))), .c 24 (.agg #[.int .i64 ((ts.getD k vd).1), .int .i64 ((ts.getD k vd).2.1), .string ((ts.getD k vd).2.2)]), .c 25 (.bool (!(eqV (rs.getD k vd) (ts.getD k vd))))] (fun _ _ _ _ => True) [] [2, 3, 6, 7, 8] [(17, 0, 9, 26)] hst8 ?_ ?_ ?_
    · exact fun _ _ _ _ _ _ _ _ _ _ h => h
    · refine ⟨?_, ?_, ?_, ?_, ?_, trivial⟩
      · exact s4 rfl (fun _ _ _ h => h) fun cx => run_indexSlN (e := 103) (sz := 3) (m := k) rfl (by kernel_rfl) (by kernel_rfl) (by decide) (cx.anc 0 rfl) (cx.anc 1 rfl) (by omega) (by omega) (hA.ext cx.upd.to_ext) (by rw [flatR_len])
      · exact s4 rfl (fun _ _ _ h => h) fun cx => run_loadVal rfl (by kernel_rfl) (by kernel_rfl) (cx.anc 2 rfl) (hA.ext cx.upd.to_ext) (by omega)
      · exact s4 rfl (fun _ _ _ h => h) fun cx => run_indexSlN (e := 103) (sz := 3) (m := k) rfl (by kernel_rfl) (by kernel_rfl) (by decide) (cx.anc 4 rfl) (cx.anc 5 rfl) (by omega) (by omega) (hB.ext cx.upd.to_ext) (by rw [flatR_len])
      · exact s4 rfl (fun _ _ _ h => h) fun cx => run_loadVal rfl (by kernel_rfl) (by kernel_rfl) (cx.anc 6 rfl) (hB.ext cx.upd.to_ext) (by omega)
      · exact s4 rfl (fun _ _ _ h => h) fun cx => run_neqV rfl (cx.anc 3 rfl) (cx.anc 7 rfl)
    intro σ β X W10 hD hX hst10 fr hfr
    simp only [zM] at hst10
    dsimp only [mgT, vals, List.take, List.drop, List.cons_append, List.nil_append] at hfr
    clear hX hD; subst hfr; clear σ β X
    refine then_normal ?_
    rcases Bool.eq_false_or_eq_true (eqV (rs.getD k vd) (ts.getD k vd)) with hs11 | hs11
    · skip
      refine wp_cond_false (show Act.eval _ _ = .bool false from (congrArg Value.bool (by rw [hs11]; rfl))) ?_
      refine wp_skip ?_
      refine blk_normal ?_
      refine then_normal ?_
      refine wp_region_P [0, 1, 3] [.k 15 (.int .i64 ((k : Int))), tI 16 ((k : Int) + 1) (by omega), .k 5 (.int .i64 ((k : Int) + 1))] [(5, 2, 1, 6), (9, 0, 2, 11)] hst10 fun W12 hst12 => ?_
      refine then_normal ?_
      refine ⟨rs.length - ((k + 1)), by omega, ?_⟩
      have hp13 := hst12.pick [] (by decide) rfl
      exact ⟨(k + 1), [(u6_.getD 0 undef), .int .i64 ((k : Int)), .slice RA rs.length rc, .int .i64 ((rs.length : Int)), .bool (decide ((k : Int) < (rs.length : Int))), .int .i64 ((k : Int)), .int .i64 ((k : Int) + 1), .slice RA rs.length rc, .int .i64 ((k : Int)), .pointer (some ((ad RA).add (k * 3))), .agg #[.int .i64 ((rs.getD k vd).1), .int .i64 ((rs.getD k vd).2.1), .string ((rs.getD k vd).2.2)], .slice RB ts.length tc, .int .i64 ((k : Int)), .pointer (some ((ad RB).add (k * 3))), .agg #[.int .i64 ((ts.getD k vd).1), .int .i64 ((ts.getD k vd).2.1), .string ((ts.getD k vd).2.2)], .bool (!(eqV (rs.getD k vd) (ts.getD k vd)))], by omega, take_eq hT (by omega) (by omega) (eqV_iff.1 (by assumption)), rfl, rfl, hp13⟩
    refine wp_cond_true (show Act.eval _ _ = .bool true from (congrArg Value.bool (by rw [hs11]; rfl))) ?_
    refine wp_seq ?_
    refine wp_region_P [0] [.k 4 (.bool false)] [(4, 0, 1, 5)] hst10 fun W14 hst14 => ?_
    refine then_normal ?_
    refine wp_ret ?_
    refine blk_ret ?_
    refine then_ret ?_
    refine then_ret ?_
    refine blk_ret ?_
    refine then_ret ?_
    refine bodyPost_ret (v := .bool false) (results_tmp Tryd.results62 rfl) rfl ?_
    exact Ret.bool (by rw [eq_comm, decide_eq_false_iff_not]; exact row_ne (k := k) (by omega) (fun h => by rw [eqV_iff.2 h] at *; contradiction)) hst14.ext
  have hs9p : ¬ ((k : Int) < (rs.length : Int)) := by simpa using hs9
  refine wp_cond_false (show Act.eval _ _ = .bool false from (congrArg Value.bool hs9)) ?_
  refine wp_exit ?_
  refine then_exit ?_
  refine then_exit ?_
  refine blk_eq ?_
  refine then_normal ?_
  refine wp_seq ?_
  refine wp_region_P [0] [.k 4 (.bool true)] [(4, 0, 1, 5)] hst8 fun W15 hst15 => ?_
  refine then_normal ?_
  refine wp_ret ?_
  refine bodyPost_ret (v := .bool true) (results_tmp Tryd.results62 rfl) rfl ?_
  exact Ret.bool (by rw [eq_comm, decide_eq_true_eq]; have h := hT; rw [show k = rs.length by omega, List.take_length] at h; rw [h, List.take_of_length_le (by omega)]) hst15.ext

def sameV (a b n1 n2 : Int) (ho : Bool) (rs : List Val) (a' b' n1' n2' : Int) (ho' : Bool) (ts : List Val) : Bool := a == a' && (b == b' && (n1 == n1' && n2 == n2' && (ho == ho' && decide (rs = ts))))

set_option maxRecDepth 100000 in
set_option maxHeartbeats 2000000 in
theorem vsame_any (a b n1 n2 : Int) (ho : Bool) (RA : Option Addr) (rc : Nat) (rs : List Val) (a' b' n1' n2' : Int) (ho' : Bool) (RB : Option Addr) (tc : Nat) (ts : List Val) (w : World) (hA : At w RA (flatR rs)) (hB : At w RB (flatR ts)) (hl : rs.length ≤ 1000) (hl2 : ts.length ≤ 1000) :
    Calls Tryd.prog 19 #[.agg #[.int .i64 a, .int .i64 b, .int .i64 n1, .int .i64 n2, .bool ho, .slice RA rs.length rc], .agg #[.int .i64 (a'), .int .i64 (b'), .int .i64 (n1'), .int .i64 (n2'), .bool (ho'), .slice RB ts.length tc]] w (Ret (.bool (sameV a b n1 n2 ho rs a' b' n1' n2' ho' ts)) w) := by
  go_enter Tryd.func19, Tryd.ntmps19
  have hst0 := St.start w
  refine wp_seq ?_
  refine wp_region_T [0, 0, 0] [] [[0], [1]] [] [.a 2, .a 3, .k 4 (.bool false)] (fun ix σ β X => match ix with | 0 => σ 2 = .pointer (some ⟨(pb (β 2)), 0, none⟩) ∧ X 0 = eB (pb (β 2)) 27 #[.int .i64 a, .int .i64 b, .int .i64 n1, .int .i64 n2, .bool ho, .slice RA rs.length rc] | 1 => σ 3 = .pointer (some ⟨(pb (β 3)), 0, none⟩) ∧ X 1 = eB (pb (β 3)) 27 #[.int .i64 (a'), .int .i64 (b'), .int .i64 (n1'), .int .i64 (n2'), .bool (ho'), .slice RB ts.length tc] | _ => True) [0, 1] [0, 1] [(2, 0, 3, 5)] hst0 ?_ ?_ ?_
  · exact fun ix _ _ _ _ _ _ hs hb hx h => match ix, h with
    | 0, h => by dsimp only at h ⊢; rw [← hs 2 rfl, ← hb 2 rfl, ← hx 0 rfl]; exact h
    | 1, h => by dsimp only at h ⊢; rw [← hs 3 rfl, ← hb 3 rfl, ← hx 1 rfl]; exact h
    | _ + 2, _ => trivial
  · refine ⟨?_, ?_, trivial⟩
    · refine sv_any rfl rfl fun ρ β W X cx => ?_
      exact dv_box (cs := #[.int .i64 a, .int .i64 b, .int .i64 n1, .int .i64 n2, .bool ho, .slice RA rs.length rc]) rfl (cx.out 0 rfl) rfl rfl rfl (fun σ β' X' hs hb hv hx => ⟨hv, hx⟩)
    · refine sv_any rfl rfl fun ρ β W X cx => ?_
      exact dv_box (cs := #[.int .i64 (a'), .int .i64 (b'), .int .i64 (n1'), .int .i64 (n2'), .bool (ho'), .slice RB ts.length tc]) rfl (cx.out 1 rfl) rfl rfl rfl (fun σ β' X' hs hb hv hx => ⟨hv, hx⟩)
  intro σ β X W1 hD hX hst1 fr hfr
  obtain ⟨B2_1, hu_B2_1⟩ : ∃ z, pb (β 2) = z := ⟨_, rfl⟩
  obtain ⟨B3_1, hu_B3_1⟩ : ∃ z, pb (β 3) = z := ⟨_, rfl⟩
  simp only [zM, exq 0 ((dTn (hD 0 lq)).2), exq 1 ((dTn (hD 1 lq)).2), hu_B2_1, hu_B3_1] at hst1
  dsimp only [mgT, vals, List.take, List.drop, List.cons_append, List.nil_append] at hfr
  simp only [ed 2 ((dTn (hD 0 lq)).1), ed 3 ((dTn (hD 1 lq)).1), hu_B2_1, hu_B3_1] at hfr
  clear hX hD hu_B2_1 hu_B3_1; subst hfr; clear σ β X
  refine then_normal ?_
  refine wp_seq ?_
  refine wp_region_T [0, 1, 0, 4, 15, 31, 63, 127, 63, 319, 1023, 2047, 4095, 8191, 16383, 8191, 40959, 131071, 262143, 524287, 1048575, 2097151, 1048575, 5242879, 16777215, 33554431, 67108863, 134217727, 268435455, 134217727, 671088639, 2147483647, 4294967295, 8589934591] [[], [0], [], [1], [], [], [], [0], [], [1], [], [], [], [], [0], [], [1], [], [], [], [], [0], [], [1], [], [], [], [], [0], [], [1]] [] [] [.k 5 (.pointer (some ⟨B2_1, 0, none⟩)), .c 6 (.int .i64 a), .k 7 (.pointer (some ⟨B3_1, 0, none⟩)), .c 8 (.int .i64 (a')), .k 9 (.bool (a == (a'))), .k 10 (.bool (a == (a'))), .z 11 (a == (a')) (.pointer (some ⟨B2_1, 1, none⟩)), .y 12 (a == (a')) (.int .i64 b), .z 13 (a == (a')) (.pointer (some ⟨B3_1, 1, none⟩)), .y 14 (a == (a')) (.int .i64 (b')), .z 15 (a == (a')) (.bool (b == (b'))), tA 16 (a == (a')) (b == (b')), .k 17 (.bool ((a == (a')) && (b == (b')))), .z 18 ((a == (a')) && (b == (b'))) (.pointer (some ⟨B2_1, 2, none⟩)), .y 19 ((a == (a')) && (b == (b'))) (.agg #[.int .i64 n1, .int .i64 n2]), .z 20 ((a == (a')) && (b == (b'))) (.pointer (some ⟨B3_1, 2, none⟩)), .y 21 ((a == (a')) && (b == (b'))) (.agg #[.int .i64 (n1'), .int .i64 (n2')]), .y 22 ((a == (a')) && (b == (b'))) (.bool (n1 == n1' && n2 == n2')), tA 23 ((a == (a')) && (b == (b'))) (n1 == n1' && n2 == n2'), .k 24 (.bool (((a == (a')) && (b == (b'))) && (n1 == n1' && n2 == n2'))), .z 25 (((a == (a')) && (b == (b'))) && (n1 == n1' && n2 == n2')) (.pointer (some ⟨B2_1, 4, none⟩)), .y 26 (((a == (a')) && (b == (b'))) && (n1 == n1' && n2 == n2')) (.bool ho), .z 27 (((a == (a')) && (b == (b'))) && (n1 == n1' && n2 == n2')) (.pointer (some ⟨B3_1, 4, none⟩)), .y 28 (((a == (a')) && (b == (b'))) && (n1 == n1' && n2 == n2')) (.bool (ho')), .y 29 (((a == (a')) && (b == (b'))) && (n1 == n1' && n2 == n2')) (.bool (ho == (ho'))), tA 30 (((a == (a')) && (b == (b'))) && (n1 == n1' && n2 == n2')) (ho == (ho')), .k 31 (.bool ((((a == (a')) && (b == (b'))) && (n1 == n1' && n2 == n2')) && (ho == (ho')))), .z 32 ((((a == (a')) && (b == (b'))) && (n1 == n1' && n2 == n2')) && (ho == (ho'))) (.pointer (some ⟨B2_1, 5, none⟩)), .y 33 ((((a == (a')) && (b == (b'))) && (n1 == n1' && n2 == n2')) && (ho == (ho'))) (.slice RA rs.length rc), .z 34 ((((a == (a')) && (b == (b'))) && (n1 == n1' && n2 == n2')) && (ho == (ho'))) (.pointer (some ⟨B3_1, 5, none⟩)), .y 35 ((((a == (a')) && (b == (b'))) && (n1 == n1' && n2 == n2')) && (ho == (ho'))) (.slice RB ts.length tc), .y 36 ((((a == (a')) && (b == (b'))) && (n1 == n1' && n2 == n2')) && (ho == (ho'))) (.bool (decide (rs = ts))), tA 37 ((((a == (a')) && (b == (b'))) && (n1 == n1' && n2 == n2')) && (ho == (ho'))) (decide (rs = ts)), .k 4 (.bool (((((a == (a')) && (b == (b'))) && (n1 == n1' && n2 == n2')) && (ho == (ho'))) && (decide (rs = ts))))] (fun _ _ _ _ => True) [0, 1] [1, 3, 7, 9, 14, 16, 17, 21, 23, 24, 28, 30, 31] [(4, 33, 1, 5), (0, 0, 33, 33)] hst1 ?_ ?_ ?_
  · exact fun _ _ _ _ _ _ _ _ _ _ h => h
  · refine ⟨?_, ?_, ?_, ?_, ?_, ?_, ?_, ?_, ?_, ?_, ?_, ?_, ?_, trivial⟩
    · exact s4 rfl (fun _ _ _ h => h) fun cx => run_load1 rfl (by kernel_rfl) (cx.anc 0 rfl) ((cx.blk (cx.init 0 _ rfl) rfl).cell 0)
    · exact s4 rfl (fun _ _ _ h => h) fun cx => run_load1 rfl (by kernel_rfl) (cx.anc 2 rfl) ((cx.blk (cx.init 1 _ rfl) rfl).cell 0)
    · exact m2 rfl (fun _ _ _ h => h) (fun cx => (cx.anc 5 rfl)) fun cx hq => run_load1 rfl (by kernel_rfl) (mbv (cx.anc 6 rfl) hq) ((cx.blk (cx.init 0 _ rfl) rfl).cell 1)
    · exact m2 rfl (fun _ _ _ h => h) (fun cx => (cx.anc 5 rfl)) fun cx hq => run_load1 rfl (by kernel_rfl) (mbv (cx.anc 8 rfl) hq) ((cx.blk (cx.init 1 _ rfl) rfl).cell 1)
    · exact m2 rfl (fun _ _ _ h => h) (fun cx => (cx.anc 12 rfl)) fun cx hq => run_loadB (n := 2) rfl (by kernel_rfl) (by kernel_rfl) (mbv (cx.anc 13 rfl) hq) (cx.blk (cx.init 0 _ rfl) rfl) (Nat.le_of_ble_eq_true rfl) rfl
    · exact m2 rfl (fun _ _ _ h => h) (fun cx => (cx.anc 12 rfl)) fun cx hq => run_loadB (n := 2) rfl (by kernel_rfl) (by kernel_rfl) (mbv (cx.anc 15 rfl) hq) (cx.blk (cx.init 1 _ rfl) rfl) (Nat.le_of_ble_eq_true rfl) rfl
    · exact m2 rfl (fun _ _ _ h => h) (fun cx => (cx.anc 12 rfl)) fun cx hq => run_eqTID rfl (mbv (cx.anc 14 rfl) hq) (mbv (cx.anc 16 rfl) hq)
    · exact m2 rfl (fun _ _ _ h => h) (fun cx => (cx.anc 19 rfl)) fun cx hq => run_load1 rfl (by kernel_rfl) (mbv (cx.anc 20 rfl) hq) ((cx.blk (cx.init 0 _ rfl) rfl).cell 4)
    · exact m2 rfl (fun _ _ _ h => h) (fun cx => (cx.anc 19 rfl)) fun cx hq => run_load1 rfl (by kernel_rfl) (mbv (cx.anc 22 rfl) hq) ((cx.blk (cx.init 1 _ rfl) rfl).cell 4)
    · refine m2 rfl (fun _ _ _ h => h) (fun cx => (cx.anc 19 rfl)) ?_
      intro ρ β W X cx hq
      exact by
        have fF26 : ρ (.tmp 26) = .bool ho := (mbv (cx.anc 21 rfl) hq)
        have fF28 : ρ (.tmp 28) = .bool (ho') := (mbv (cx.anc 23 rfl) hq)
        simp [go_sem, fF26, fF28]
    · exact m2 rfl (fun _ _ _ h => h) (fun cx => (cx.anc 26 rfl)) fun cx hq => run_load1 rfl (by kernel_rfl) (mbv (cx.anc 27 rfl) hq) ((cx.blk (cx.init 0 _ rfl) rfl).cell 5)
    · exact m2 rfl (fun _ _ _ h => h) (fun cx => (cx.anc 26 rfl)) fun cx hq => run_load1 rfl (by kernel_rfl) (mbv (cx.anc 29 rfl) hq) ((cx.blk (cx.init 1 _ rfl) rfl).cell 5)
    · exact m3 rfl (fun _ _ _ h => h) (fun cx => (cx.anc 26 rfl)) fun cx hq => ⟨_, _, run_callF (args := #[.slice RA rs.length rc, .slice RB ts.length tc]) rfl cx.sees rfl (by kernel_rfl) (map2 (mbv (cx.anc 28 rfl) hq) (mbv (cx.anc 30 rfl) hq)), rsame_any _ _ rs _ _ ts _ (hA.ext cx.upd.to_ext) (hB.ext cx.upd.to_ext) hl hl2⟩
  intro σ β X W2 hD hX hst2 fr hfr
  simp only [zM, exq 0 (hX 0 _ rfl), exq 1 (hX 1 _ rfl)] at hst2
  dsimp only [mgT, vals, List.take, List.drop, List.cons_append, List.nil_append] at hfr
  clear hX hD; subst hfr; clear σ β X
  refine then_normal ?_
  refine wp_ret ?_
  refine bodyPost_ret (v := .bool (((((a == (a')) && (b == (b'))) && (n1 == n1' && n2 == n2')) && (ho == (ho'))) && (decide (rs = ts)))) (results_tmp Tryd.results19 rfl) rfl ?_
  exact Ret.bool (by simp_all [sameV, Bool.and_assoc]) hst2.ext

end Go.Proofs.YtfjpglohcppjeaaDoor
